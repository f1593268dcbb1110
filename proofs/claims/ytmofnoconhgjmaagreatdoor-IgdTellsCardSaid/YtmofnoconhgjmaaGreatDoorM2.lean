/- Texts of one proof, put together: Xv2, Xf3, Xs1, Igb, Igc, Igd, Ige, Igp, Igt. -/
import Derived.Test.YtmofnoconhgjmaaGreatDoorMW
import Derived.Test.YtmofnoconhgjmaaGreatDoorRp6
import Derived.Lib.Replace
import Derived.Lib.ReplaceLaws
import Derived.Test.YtmofnoconhgjmaaGreatDoorMF
import Derived.Test.YtmofnoconhgjmaaGreatDoorMD
import Derived.Deep.DeepCutAuto
import Derived.Test.YtmofnoconhgjmaaGreatDoorPl1
import Derived.Test.YtmofnoconhgjmaaGreatDoorMR
import Derived.Test.YtmofnoconhgjmaaGreatDoorIg5
import Derived.Test.YtmofnoconhgjmaaGreatDoorMS
/- xml.quoted; strings.ReplaceAll of one byte. -/
namespace Go.Proofs.YtmofnoconhgjmaaGreatDoor
open Go.RowKit
set_option linter.unusedVariables false
set_option linter.unusedSimpArgs false

theorem ba_ap (a b : Bs) : ((⟨a.toArray⟩ : ByteArray) ++ (⟨b.toArray⟩ : ByteArray)) = ⟨(a ++ b).toArray⟩ := by
  apply ByteArray.ext
  simp
theorem map_len6 {m : UInt8 → Bs} (h : ∀ c, (m c).length ≤ 6) (s : Bs) : (s.flatMap m).length ≤ s.length * 6 := by
  induction s with
  | nil => exact Nat.le_refl _
  | cons c s ih =>
    rw [List.flatMap_cons, List.length_append, List.length_cons]
    have := h c
    omega
theorem esc_len6 (s : Bs) : (escL s).length ≤ s.length * 6 := map_len6 (m := rpC escP) (all_bytes (by decide +kernel)) s
end Go.Proofs.YtmofnoconhgjmaaGreatDoor
/- hearthref17.Flat. -/
namespace Go.Proofs.YtmofnoconhgjmaaGreatDoor
open Go.RowKit
set_option linter.unusedVariables false
set_option linter.unusedSimpArgs false

theorem flatF_cnt (f : Fo) : ∀ d, (flatF d f).length = f.cnt := by
  induction f with
  | nil => intro d; rfl
  | cons s n ats tx kids next ih1 ih2 => intro d; simp only [flatF, List.length_cons, List.length_append, ih1, ih2, Fo.cnt]; omega
theorem flatE_cnt (d : Nat) (e : El) : (flatE d e).length = e.cnt := by
  unfold flatE El.cnt; rw [List.length_cons, flatF_cnt]; omega
theorem at_cnt : ∀ (f : Fo) (i : Nat), i < f.len → (f.at i).cnt ≤ f.cnt := by
  intro f
  induction f with
  | nil => intro i hi; simp [Fo.len] at hi
  | cons s n ats tx kids next _ ih =>
    intro i hi
    cases i with
    | zero => simp only [Fo.at, Fo.cnt, El.cnt]; omega
    | succ i => have := ih i (by simp only [Fo.len] at hi; omega); simp only [Fo.at, Fo.cnt]; omega
def depV (L : List (Nat × El)) : List Value := L.map fun x => .int .i64 (x.1 : Int)
/-- The two rows that are made. -/
def FlJ (B0 : Nat) (w : World) (L : List (Nat × El)) (v6 v7 : Value) (wr : World) : Prop := OwnE wr (B0 ≤ ·) (w.heap.size + 1) v6 (L.map (·.2)) ∧ wr.ownsRow (w.heap.size + 1) 3 1 v7 L.length (depV L) ∧ w.grownBy wr none
theorem FlJ.shape {B0 : Nat} {w : World} {L : List (Nat × El)} {v6 v7 : Value} {wr : World} (h : FlJ B0 w L v6 v7 wr) : ∃ a c a' c', v6 = .slice a L.length c ∧ v7 = .slice a' L.length c' := by
  obtain ⟨a, c, -, e1, -, -⟩ := h.1.src
  obtain ⟨a', c', e2⟩ := own_shapeG h.2.1
  exact ⟨a, c, a', c', by rw [e1, List.length_map], e2⟩
theorem FlJ.grow {B0 : Nat} {w : World} {L : List (Nat × El)} {v6 v7 : Value} {wr wx : World} (h : FlJ B0 w L v6 v7 wr) (g : wr.grownBy wx none) : FlJ B0 w L v6 v7 wx := ⟨h.1.grow g, own_growG h.2.1 g, gr_trans h.2.2 g⟩
theorem own_baseB {w : World} {base size n : Nat} {e : TypeId} {v : Value} {xs : List Value} (h : w.ownsRow base e size v n xs) : ∀ b, v.ownBlock = some b → base ≤ b := by
  intro b hb
  rcases h.2 with ⟨rfl, -⟩ | ⟨g, cap, cur, rfl, hg, -⟩
  · simp [Value.ownBlock] at hb
  · obtain rfl : g = b := by simpa [Value.ownBlock] using hb
    exact hg
def FlatPost (B0 : Nat) (w : World) (L : List (Nat × El)) (e' : Ending) (w' : World) : Prop := ∃ v1 v2, e' = .returned (.tuple #[v1, v2]) ∧ FlJ B0 w L v1 v2 w'
theorem depV_one (L : List (Nat × El)) : ∀ u ∈ depV L, u.oneCell' = true := fun u hu => by
  obtain ⟨x, -, rfl⟩ := List.mem_map.1 hu; rfl
theorem own_src {w : World} {base n : Nat} {e : TypeId} {v : Value} {xs : List Value} {a : Option Addr} {m c : Nat} (h : w.ownsRow base e 1 v n xs) (e' : v = .slice a m c) : SrcAt w a xs := by
  subst e'
  rcases h.2 with ⟨e1, h0⟩ | ⟨g, cap, cur, e1, -⟩
  · refine .inl (List.eq_nil_of_length_eq_zero ?_)
    rw [h.1, h0]
  · simp only [Value.slice.injEq] at e1
    obtain ⟨rfl, -, -⟩ := e1
    exact .inr ⟨_, rfl, fun j u hj => h.cells (g := g) rfl j u hj⟩
/-- The two rows as sources: the second one also behind an append to a row of elements. -/
theorem flj_src {B0 : Nat} {w w4 : World} {L : List (Nat × El)} {a1 a2 : Option Addr} {n1 n2 c1 c2 : Nat} (h : FlJ B0 w L (.slice a1 n1 c1) (.slice a2 n2 c2) w4) :
    (∃ cs, ElsV w4 (B0 ≤ ·) cs (L.map (·.2)) ∧ SrcAt w4 a1 cs) ∧ ∀ (base : Nat) (v : Value) (n : Nat) {cs : List Value} {w5 : World}, w4.ownsRow base 25 5 v n cs → w4.grownBy w5 v.ownBlock → SrcAt w5 a2 (depV L) := by
  obtain ⟨a, c, cs, e, h1, h2⟩ := h.1.src
  simp only [Value.slice.injEq] at e
  obtain ⟨rfl, -, rfl⟩ := e
  exact ⟨⟨cs, h1, h2⟩, fun base v n cs w5 ho g => own_src (row_own ho g h.2.1 (by decide)) rfl⟩
theorem gr_ownB {w w4  w5 : World} {e : TypeId} {size n : Nat} {v : Value} {xs : List Value} (g : w.grownBy w4 none) (h : w4.ownsRow (w.heap.size + 1) e size v n xs) (k : w4.grownBy w5 v.ownBlock) : w.grownBy w5 none := by
  rcases h.2 with ⟨rfl, -⟩ | ⟨b, cap, cur, rfl, hb, -⟩
  · exact gr_trans g k
  · exact gr_new g k (Nat.le_of_succ_le hb)
theorem kx_own {w4 w5 : World} {b0 : Nat} {e : TypeId} {size n : Nat} {v : Value} {xs : List Value} (h : w4.ownsRow (b0 + 1) e size v n xs) (k : w4.grownBy w5 v.ownBlock) : KX (b0 < ·) w4 w5 := by
  refine ⟨k.os, k.tape, k.output, k.size, fun i hi hx => k.block i hi fun e' => hx ?_⟩
  rcases h.2 with ⟨rfl, -⟩ | ⟨b, cap, cur, rfl, hb, -⟩
  · simp [Value.ownBlock] at e'
  · have : i = b := by simpa [Value.ownBlock] using e'
    show b0 < i
    omega
theorem infoInt : (Tryz.prog.info? 3).map (fun i => (i.zero, i.size, i.bytes)) = some (some (.int .i64 0), 1, 8) := by kernel_rfl
set_option maxRecDepth 20000 in
set_option maxHeartbeats 20000000 in
theorem flat_el (B0 : Nat) (N : Nat) : ∀ (e : El) (d : Nat) (v : Value) (w : World), e.kids.sz < N → d + e.kids.sz ≤ 1000000 → e.cnt ≤ 1000 → B0 ≤ w.heap.size → ElAt w (B0 ≤ ·) v e →
    Calls Tryz.prog 39 #[v, .int .i64 (d : Int)] w (FlatPost B0 w (flatE d e)) := by
  induction N with
  | zero => intro e d v w h; omega
  | succ N ih =>
    intro e d v w hN hd hc hB0 he
    have IH := hid ih
    obtain ⟨s, n, ats, tx, kids⟩ := e
    obtain ⟨av, kv, rfl, ha, hk⟩ := he
    have HA := hid ha
    have HK := hid hk
    obtain ⟨aa, ac, rfl, -⟩ := ha
    obtain ⟨ka, kc, rfl, -⟩ := hk
    simp only at hN hd
    have HB := hid (show kids.sz ≤ N ∧ d + kids.sz ≤ 1000000 ∧ 1 + kids.cnt ≤ 1000 ∧ B0 ≤ w.heap.size from ⟨by omega, hd, hc, hB0⟩)
    have hdb : (d : Int) + 1 ≤ 1000001 := by omega
    unfold elV str
    have G1 := hid (gr_alloc (gr_refl w none) (.cells #[.string ⟨s.toArray⟩, .string ⟨n.toArray⟩, .slice aa ats.length ac, .string ⟨tx.toArray⟩, .slice ka kids.len kc] 25))
    have N1 := hid (heap_alloc_new w (.cells #[.string ⟨s.toArray⟩, .string ⟨n.toArray⟩, .slice aa ats.length ac, .string ⟨tx.toArray⟩, .slice ka kids.len kc] 25))
    have G2 := hid (gr_alloc G1.out (.cells #[.string ⟨s.toArray⟩, .string ⟨n.toArray⟩, .slice aa ats.length ac, .string ⟨tx.toArray⟩, .slice ka kids.len kc] 25))
    have G3 := hid (gr_alloc G2.out (.cells #[.int .i64 (d : Int)] 3))
    have N2 := heap_alloc_new (w.alloc (.cells #[.string ⟨s.toArray⟩, .string ⟨n.toArray⟩, .slice aa ats.length ac, .string ⟨tx.toArray⟩, .slice ka kids.len kc] 25)) (.cells #[.string ⟨s.toArray⟩, .string ⟨n.toArray⟩, .slice aa ats.length ac, .string ⟨tx.toArray⟩, .slice ka kids.len kc] 25)
    have N3 := heap_alloc_new ((w.alloc (.cells #[.string ⟨s.toArray⟩, .string ⟨n.toArray⟩, .slice aa ats.length ac, .string ⟨tx.toArray⟩, .slice ka kids.len kc] 25)).alloc (.cells #[.string ⟨s.toArray⟩, .string ⟨n.toArray⟩, .slice aa ats.length ac, .string ⟨tx.toArray⟩, .slice ka kids.len kc] 25)) (.cells #[.int .i64 (d : Int)] 3)
    have g23 := World.grownBy_alloc ((w.alloc (.cells #[.string ⟨s.toArray⟩, .string ⟨n.toArray⟩, .slice aa ats.length ac, .string ⟨tx.toArray⟩, .slice ka kids.len kc] 25)).alloc (.cells #[.string ⟨s.toArray⟩, .string ⟨n.toArray⟩, .slice aa ats.length ac, .string ⟨tx.toArray⟩, .slice ka kids.len kc] 25)) (.cells #[.int .i64 (d : Int)] 3) none
    have g12 := World.grownBy_alloc (w.alloc (.cells #[.string ⟨s.toArray⟩, .string ⟨n.toArray⟩, .slice aa ats.length ac, .string ⟨tx.toArray⟩, .slice ka kids.len kc] 25)) (.cells #[.string ⟨s.toArray⟩, .string ⟨n.toArray⟩, .slice aa ats.length ac, .string ⟨tx.toArray⟩, .slice ka kids.len kc] 25) none
    have J0 := hid (show FlJ B0 w [(d, ⟨s, n, ats, tx, kids⟩)] (.slice (some ⟨w.heap.size + 1, 0, none⟩) 1 1) (.slice (some ⟨w.heap.size + 1 + 1, 0, none⟩) 1 1) (((w.alloc (.cells #[.string ⟨s.toArray⟩, .string ⟨n.toArray⟩, .slice aa ats.length ac, .string ⟨tx.toArray⟩, .slice ka kids.len kc] 25)).alloc (.cells #[.string ⟨s.toArray⟩, .string ⟨n.toArray⟩, .slice aa ats.length ac, .string ⟨tx.toArray⟩, .slice ka kids.len kc] 25)).alloc (.cells #[.int .i64 (d : Int)] 3)) from
      ⟨⟨[.string ⟨s.toArray⟩, .string ⟨n.toArray⟩, .slice aa ats.length ac, .string ⟨tx.toArray⟩, .slice ka kids.len kc], ⟨rfl, .inr ⟨w.heap.size + 1, 1, _, rfl, by omega, by have := gr_keep g23 N2 (by simp); rw [World.size_alloc] at this; exact this, Nat.le_refl _, by decide, rfl, rfl⟩⟩, .cons rfl rfl rfl ((HA.out.grow G3.out)) ((HK.out.grow G3.out)) .nil⟩,
       ⟨rfl, .inr ⟨w.heap.size + 1 + 1, 1, _, rfl, by omega, by simp only [World.size_alloc] at N3; exact N3, Nat.le_refl _, by decide, rfl, rfl⟩⟩, G3.out⟩)
    have E0 := hid (show ElB (((w.alloc (.cells #[.string ⟨s.toArray⟩, .string ⟨n.toArray⟩, .slice aa ats.length ac, .string ⟨tx.toArray⟩, .slice ka kids.len kc] 25)).alloc (.cells #[.string ⟨s.toArray⟩, .string ⟨n.toArray⟩, .slice aa ats.length ac, .string ⟨tx.toArray⟩, .slice ka kids.len kc] 25)).alloc (.cells #[.int .i64 (d : Int)] 3)) w.heap.size s n (.slice aa ats.length ac) tx (.slice ka kids.len kc) from gr_keep g23 (gr_keep g12 N1.out (by simp)) (by simp))
    have HK3 := hid (HK.out.grow G3.out)
    clear hN hd hc hB0 ih N2 N3 g23 g12
    go_enter Tryz.func39, Tryz.ntmps39
    go_wp2_with fail
    obtain ⟨w3, hw3⟩ : ∃ w3, w3 = (((w.alloc (.cells #[.string ⟨s.toArray⟩, .string ⟨n.toArray⟩, .slice aa ats.length ac, .string ⟨tx.toArray⟩, .slice ka kids.len kc] 25)).alloc (.cells #[.string ⟨s.toArray⟩, .string ⟨n.toArray⟩, .slice aa ats.length ac, .string ⟨tx.toArray⟩, .slice ka kids.len kc] 25)).alloc (.cells #[.int .i64 (d : Int)] 3)) := ⟨_, rfl⟩
    rw [← hw3] at J0 E0 HK3 G3 ⊢
    clear hw3 G1 G2 N1 HA HK
    go_loopw [6, 7, 8] (fun v6 v7 v8 wr => ∃ i : Nat, v8 = .int .i64 (i : Int) ∧ i ≤ kids.len ∧ Hid (FlJ B0 w ((d, ⟨s, n, ats, tx, kids⟩) :: flatK (d + 1) kids i) v6 v7 wr) ∧ KX (w.heap.size < ·) w3 wr) (fun _ _ v8 _ => kids.len - (intOf v8).toNat)
    case atStart => exact ⟨0, rfl, Nat.zero_le _, by rw [flatK_zero]; exact hid J0.out, KX.refl _ _⟩
    case round =>
      obtain ⟨i, rfl, hi, hj, hg⟩ := hrel
      obtain ⟨a6, c6, a7, c7, rfl, rfl⟩ := hj.out.shape
      have HG := hid hg
      obtain ⟨s0, s1, s2, s3, s4⟩ := ElB.cells (show ElB wr w.heap.size s n (.slice aa ats.length ac) tx (.slice ka kids.len kc) from HG.out.keep E0.out (Nat.lt_irrefl _))
      have HKR := hid (HK3.out.same (fun b h1 h2 => HG.out.2.2.2.2 b h1 (fun h3 => h2 (Nat.le_trans HB.out.2.2.2 (Nat.le_of_lt h3)))))
      by_cases hlt : i < kids.len
      · obtain ⟨b', c', e', h'⟩ := HKR.out
        simp only [Value.slice.injEq] at e'
        obtain ⟨rfl, -, rfl⟩ := e'
        obtain ⟨k1, o1, rfl, -, hF1⟩ := h' (by omega)
        obtain ⟨av3, kv3, m0, m1, m2, m3, m4, hA3, hK3⟩ := hF1.get hlt
        have hsz := at_sz kids i hlt
        have hct := at_cnt kids i hlt
        have HA3 := hid hA3
        have HK3' := hid hK3
        have HFS := hid (flatK_succ (d + 1) kids i hlt)
        have HFC := hid (show (flatK (d + 1) kids (i + 1)).length ≤ 1000 by
          have := (flatK_pre (d + 1) kids (i + 1)).length_le
          rw [flatF_cnt] at this
          have := HB.out
          omega)
        generalize kids.at i = y at *
        obtain ⟨y1, y2, y3, y4, y5⟩ := y
        obtain ⟨i1, i2, rfl, -⟩ := hA3
        obtain ⟨i5, i6, rfl, -⟩ := hK3
        simp only at m0 m1 m2 m3 m4 hsz HA3 HK3'
        have CALL := hid (IH.out ⟨y1, y2, y3, y4, y5⟩ (d + 1) (.agg #[.string ⟨y1.toArray⟩, .string ⟨y2.toArray⟩, .slice i1 y3.length i2, .string ⟨y4.toArray⟩, .slice i5 y5.len i6]) wr (by have := HB.out; show y5.sz < N; omega) (by have := HB.out; show d + 1 + y5.sz ≤ 1000000; omega) (by have := HB.out; omega) (Nat.le_trans HB.out.2.2.2 hj.out.2.2.size) ⟨_, _, rfl, HA3.out, HK3'.out⟩)
        rw [show ((d + 1 : Nat) : Int) = (d : Int) + 1 from rfl] at CALL
        have hi0 : (0 : Int) ≤ (i : Int) := by omega
        have hi1 : (i : Int) < (kids.len : Int) := by omega
        have hi2 : (i : Int) + 1 ≤ 1000001 := by have := HB.out; have := kids.len_sz; omega
        clear h' hF1 hsz hct hg
        go_wp2_with fail
        refine CALL.out.mono ?_
        rintro e' w4 ⟨v1, v2, rfl, hfl⟩
        obtain ⟨a1, c1, a2, c2, rfl, rfl⟩ := hfl.shape
        have HFL := hid hfl
        have HJ4 := hid (hj.out.grow hfl.2.2)
        have HG4 := hid (HG.out.trans (KX.of_none hfl.2.2))
        clear CALL hfl hj
        have HSRC := hid (flj_src HFL.out)
        have HSZ := hid (show ((d, (⟨s, n, ats, tx, kids⟩ : El)) :: flatK (d + 1) kids i).length + (flatE (d + 1) ⟨y1, y2, y3, y4, y5⟩).length ≤ 1001 by
          have h1 := HFC.out
          rw [HFS.out, List.length_append] at h1
          rw [List.length_cons]
          omega)
        obtain ⟨i0, hi, hz0, hz1, hz2⟩ := info_parts infoInt
        have HI0 := hid (And.intro hi (And.intro hz0 (And.intro hz1 hz2)))
        have HHS := hid (show w.heap.size + 1 ≤ w4.heap.size from by have h1 := HG4.out.2.2.2.1; have h2 := lt_of_block E0.out; omega)
        clear hi hz0 hz1 hz2
        go_wp2_with (first | (at_builtin; refine wpl_appE rfl _ _ rfl (X := (B0 ≤ ·)) (base := w.heap.size + 1) (l := ((d, (⟨s, n, ats, tx, kids⟩ : El)) :: flatK (d + 1) kids i).map (·.2)) (l' := (flatE (d + 1) ⟨y1, y2, y3, y4, y5⟩).map (·.2)) (ad := a1) (c := c1) rfl (by rw [List.length_map]; rfl) HJ4.out.1 HSRC.out.1.choose_spec.1 HSRC.out.1.choose_spec.2 (by rw [List.length_map, List.length_map]; have := HSZ.out; omega) HHS.out (fun b hb => Nat.le_trans HB.out.2.2.2 (Nat.le_of_succ_le (HJ4.out.1.base b hb))) ?_; intro v5 w5 hown5 g5 hat5; have HOW5 := hid hown5; have HG5 := hid g5; obtain ⟨a5, c5, cs5, rfl, -, -⟩ := hown5.src; have HR5 := hid (row_own HJ4.out.1.choose_spec.1 g5 HJ4.out.2.1 (by decide)); clear hown5 g5 hat5) | (at_builtin; refine wpl_appG rfl _ _ 65 rfl (base := w.heap.size + 1) (size := 1) (bytes := 8) Tryz.underlying65 HI0.out.1 HI0.out.2.1 HI0.out.2.2.1 HI0.out.2.2.2 rfl (by decide) rfl HR5.out (ad := a2) (c := c2) (m := (flatE (d + 1) ⟨y1, y2, y3, y4, y5⟩).length) (news := depV (flatE (d + 1) ⟨y1, y2, y3, y4, y5⟩)) rfl (by unfold depV; simp) (HSRC.out.2 _ _ _ HJ4.out.1.choose_spec.1 HG5.out) (depV_one _) (by have := HSZ.out; unfold maxLen; omega) (by have := HSZ.out; omega) (Nat.le_trans HHS.out HG5.out.size) ?_; intro v6 w6 hown6 g6 hat6; have HOW6 := hid hown6; have HG6 := hid g6; obtain ⟨a6', c6', rfl⟩ := own_shapeG hown6; clear hown6 g6 hat6))
        have HOE := hid (show OwnE w6 (B0 ≤ ·) (w.heap.size + 1) _ (((d, (⟨s, n, ats, tx, kids⟩ : El)) :: flatK (d + 1) kids i).map (·.2) ++ (flatE (d + 1) ⟨y1, y2, y3, y4, y5⟩).map (·.2)) from by
          obtain ⟨cs, h1, h2⟩ := HOW5.out
          refine ⟨cs, row_own HR5.out HG6.out h1 (by decide), h2.same fun b hb hx => HG6.out.block b hb fun e' => hx ?_⟩
          have h3 := own_baseB HR5.out b e'.symm
          have := HB.out.2.2.2
          show B0 ≤ b
          omega)
        have HNEXT := hid (show FlJ B0 w ((d, ⟨s, n, ats, tx, kids⟩) :: flatK (d + 1) kids (i + 1)) _ _ w6 from by
          rw [HFS.out]
          refine ⟨by have := HOE.out; rw [← List.map_append] at this; exact this, ?_, gr_ownB (gr_ownB HJ4.out.2.2 HJ4.out.1.choose_spec.1 HG5.out) HR5.out HG6.out⟩
          have := HOW6.out
          rw [show ((d, (⟨s, n, ats, tx, kids⟩ : El)) :: (flatK (d + 1) kids i ++ flatE (d + 1) ⟨y1, y2, y3, y4, y5⟩)).length = ((d, (⟨s, n, ats, tx, kids⟩ : El)) :: flatK (d + 1) kids i).length + (flatE (d + 1) ⟨y1, y2, y3, y4, y5⟩).length by simp; omega, show depV ((d, (⟨s, n, ats, tx, kids⟩ : El)) :: (flatK (d + 1) kids i ++ flatE (d + 1) ⟨y1, y2, y3, y4, y5⟩)) = depV ((d, (⟨s, n, ats, tx, kids⟩ : El)) :: flatK (d + 1) kids i) ++ depV (flatE (d + 1) ⟨y1, y2, y3, y4, y5⟩) by simp [depV]]
          exact this)
        have HKX := hid ((HG4.out.trans (kx_own HJ4.out.1.choose_spec.1 HG5.out)).trans (kx_own HR5.out HG6.out))
        refine ⟨⟨i + 1, by go_num, by omega, ?_, HKX.out⟩, by simp [intOf]; omega⟩
        refine hid ?_
        have hx := HNEXT.out
        simp only [List.length_append, List.length_map, List.length_cons] at hx
        rw [show (flatK (d + 1) kids i).length + (flatE (d + 1) ⟨y1, y2, y3, y4, y5⟩).length + 1 = (flatK (d + 1) kids i).length + 1 + (flatE (d + 1) ⟨y1, y2, y3, y4, y5⟩).length by omega]
        exact hx
      · obtain rfl : i = kids.len := by omega
        have HF0 := (fun v6 v7 (h : FlJ B0 w ((d, ⟨s, n, ats, tx, kids⟩) :: flatK (d + 1) kids kids.len) v6 v7 wr) => show FlJ B0 w (flatE d ⟨s, n, ats, tx, kids⟩) v6 v7 wr by rw [flatK_len] at h; exact h)
        have HF := hid (HF0 _ _ hj.out)
        clear HF0
        clear hi hlt hj
        go_wp2_with fail
        go_ret2
        exact ⟨_, _, rfl, HF.out⟩
end Go.Proofs.YtmofnoconhgjmaaGreatDoor
/- Simple elements: without attributes, in the space of the element around them; they are read. It speaks of no program. -/
namespace Go.Proofs.YtmofnoconhgjmaaGreatDoor
open Go.RowKit
set_option linter.unusedVariables false
set_option linter.unusedSimpArgs false

/-- Simple elements as a text. -/
def textS : Fo → Bs
  | .nil => []
  | .cons _ n _ tx k next => 60 :: (n ++ 62 :: (escL tx ++ (textS k ++ 60 :: 47 :: (n ++ [62])))) ++ textS next
theorem textS_rec (s n : Bs) (ats : List At) (tx : Bs) (k next : Fo) : textS (.cons s n ats tx k next) = 60 :: (n ++ 62 :: (escL tx ++ (textS k ++ 60 :: 47 :: (n ++ [62])))) ++ textS next := rfl
def SimF (s : Bs) : Nat → Fo → Prop
  | _, .nil => True
  | d, .cons s' n ats _ k next => d ≤ 8 ∧ s' = s ∧ nameB n = true ∧ ats = [] ∧ SimF s (d + 1) k ∧ SimF s d next
theorem inA_txt (x tx r : Bs) (f : Fr) (deep cnt : Nat) (full : Bool) (hx : ∀ d ∈ x, d ≠ 34 ∧ d ≠ 60 ∧ d ≠ 62) (hu : unescA x = some tx) : inA (x ++ 60 :: r) f deep cnt full = inA (60 :: r) (f.txt tx) deep cnt full := by
  cases x with
  | nil =>
    rw [unescA_nil] at hu
    obtain rfl := Option.some.inj hu
    rw [txt_nil]
    rfl
  | cons c x =>
    have hc : c ≠ 60 := (hx c (List.mem_cons_self ..)).2.1
    show inL ((c :: x ++ 60 :: r).length + 1) (c :: x ++ 60 :: r) f deep cnt full = _
    conv => lhs; unfold inL
    rw [List.cons_append, show noteO = 60 :: [33, 45, 45] from rfl, show cdO = 60 :: [33, 91, 67, 68, 65, 84, 65, 91] from rfl, pre_not c 60 _ _ hc, pre_not c 60 _ _ hc, pre_not c 60 [47] _ hc, pre_not c 60 [] _ hc]
    simp only [Bool.false_eq_true, if_false]
    rw [← List.cons_append, idx_free (c :: x) 60 r (fun d hd => (hx d hd).2.1), if_neg (by omega), Int.toNat_natCast, List.take_left, List.drop_left, hu]
    simp only
    exact inA_of _ _ _ _ _ _ (by simp; omega)
theorem begin_s {n s : Bs} (hn : nameB n = true) (up : List (Bs × Bs)) (hs : spcL up [] = (s, true)) (r : Bs) : beginL up (n ++ 62 :: r) = some (⟨[], n, s, [], [], .nil, up⟩, false, r, 0) := by
  unfold beginL
  rw [full_n r hn (by decide) (by decide)]
  simp only [if_true]
  have ha : attrsA (62 :: r) = some ([], false, r) := by
    have := attrs_raw [] [] r ((62 :: r).length + 1) (by simp) (fun a ha => by cases ha) trivial
    exact this
  rw [ha]
  simp only
  rw [elemL_some (show (bindOk [] && (spcL (bindB [] up) []).2 && (attB (bindB [] up) [] []).2) = true by show (true && (spcL up []).2 && true) = true; rw [hs]; rfl)]
  show some ((⟨[], n, (spcL up []).1, [], [], .nil, up⟩ : Fr), false, r, 0) = _
  rw [hs]
theorem S_lt (F : Fo) (r : Bs) : ∃ r2, textS F ++ 60 :: r = 60 :: r2 := by
  cases F with
  | nil => exact ⟨r, rfl⟩
  | cons s n ats tx k next => exact ⟨_, rfl⟩
theorem inA_S (s : Bs) : ∀ (F : Fo) (deep cnt : Nat) (f : Fr) (r : Bs), SimF s (deep + 1) F → spcL f.bs [] = (s, true) → cnt + F.cnt ≤ 64 → inA (textS F ++ 60 :: r) f deep cnt false = inA (60 :: r) { f with kids := f.kids.app F } deep (cnt + F.cnt) false := by
  intro F
  induction F with
  | nil =>
    intro deep cnt f r _ _ _
    rw [kids_eta]
    rfl
  | cons s' n ats tx k next ihk ihn =>
    intro deep cnt f r hw hs hc
    obtain ⟨hd, rfl, hn, rfl, hk, hnx⟩ := hw
    simp only [Fo.cnt] at hc ⊢
    have e1 : textS (.cons s' n [] tx k next) ++ 60 :: r = 60 :: (n ++ 62 :: (escL tx ++ (textS k ++ 60 :: (47 :: (n ++ ([] ++ 62 :: (textS next ++ 60 :: r))))))) := by
      rw [textS_rec]
      simp
    rw [e1]
    obtain ⟨p1, p2, p3, p4⟩ := lt_pre hn (62 :: (escL tx ++ (textS k ++ 60 :: (47 :: (n ++ ([] ++ 62 :: (textS next ++ 60 :: r)))))))
    unfold inA
    rw [show (60 :: (n ++ 62 :: (escL tx ++ (textS k ++ 60 :: (47 :: (n ++ ([] ++ 62 :: (textS next ++ 60 :: r)))))))).length + 1 = ((n ++ 62 :: (escL tx ++ (textS k ++ 60 :: (47 :: (n ++ ([] ++ 62 :: (textS next ++ 60 :: r))))))).length + 1) + 1 from rfl, inL_lt p1 p2 p3 p4, trimP_one]
    unfold elmL
    rw [begin_s hn f.bs hs]
    simp only [Bool.false_eq_true, if_false]
    have hfull : fullB false (cnt + 1) (deep + 1) 0 = false := by
      unfold fullB
      simp
      omega
    rw [hfull, inA_of _ _ _ _ _ _ (by simp; omega)]
    obtain ⟨r2, hr2⟩ := S_lt k (47 :: (n ++ ([] ++ 62 :: (textS next ++ 60 :: r))))
    rw [hr2, inA_txt (escL tx) tx r2 _ _ _ _ (escL_free tx) (unesc_esc tx), ← hr2, ihk (deep + 1) (cnt + 1) ((⟨[], n, s', [], [], .nil, f.bs⟩ : Fr).txt tx) (47 :: (n ++ ([] ++ 62 :: (textS next ++ 60 :: r)))) hk hs (by omega), inA_end n [] (textS next ++ 60 :: r) _ _ _ _ hn (fun d hd => by cases hd) rfl rfl]
    simp only
    rw [inA_of _ _ _ _ _ _ (by simp; omega)]
    refine (ihn deep (cnt + 1 + k.cnt) (f.kid ⟨s', n, [], tx, k⟩) r hnx hs (by omega)).trans ?_
    unfold inA
    congr 1
    · show ({ f with kids := (f.kids.snoc _).app next } : Fr) = _
      rw [Fo.snoc_app]
    · omega
/-- A document of simple elements: the root has the space. -/
def docT (s n : Bs) (k : Fo) : Bs := declT ++ 10 :: 60 :: (n ++ (rawT (rawE s []) ++ 62 :: (textS k ++ 60 :: (47 :: (n ++ [62])))))
theorem doc_s (s n : Bs) (k : Fo) (hn : nameB n = true) (hk : SimF s 2 k) (hc : 1 + k.cnt ≤ 64) : docL (docT s n k) = some (⟨s, n, [], [], k⟩, false) := by
  have ha : WfA n s [] := ⟨hn, (fun a ha => by cases ha), trivial, by unfold rawE rawAt; simp⟩
  have hp : Lib.hasPrefix (60 :: (n ++ (rawT (rawE s []) ++ 62 :: (textS k ++ 60 :: (47 :: (n ++ [62])))))) noteO = false := (lt_pre hn _).1
  have h1 : docBeg (docT s n k) = some (n ++ (rawT (rawE s []) ++ 62 :: (textS k ++ 60 :: (47 :: (n ++ [62]))))) := by
    unfold docBeg docT
    generalize (n ++ (rawT (rawE s []) ++ 62 :: (textS k ++ 60 :: (47 :: (n ++ [62]))))) = X at hp ⊢
    rw [head_decl, Option.bind_some]
    unfold miscA
    rw [show (10 :: 60 :: X : Bs) = [10] ++ 60 :: X from rfl, misc_none _ 60 X (by decide) hp [10] (by decide)]
    show (if Lib.hasPrefix (60 :: X) [60] = true then some (Lib.trimPrefix (60 :: X) [60]) else none) = _
    rw [trimP_one, pre_one]
    rfl
  have h2 : rootL xmlB (n ++ (rawT (rawE s []) ++ 62 :: (textS k ++ 60 :: (47 :: (n ++ [62]))))) = some (⟨s, n, [], [], k⟩, [], 1 + k.cnt, false) := by
    rw [rootL_elm]
    unfold elmL
    rw [← List.append_assoc, begin_w ha]
    simp only [Bool.false_eq_true, if_false]
    have hfull : fullB false (0 + 1) 1 (rawE s []).length = false := by unfold fullB rawE rawAt; simp
    have hb : spcL (bindB (rawE s []) xmlB) [] = (s, true) := by
      unfold rawE rawAt
      rw [show bindB [(([], nsT, s) : At)] xmlB = ([], s) :: xmlB by unfold bindB; rw [isNs_0, show nsOf ([], nsT, s) = [] by unfold nsOf; rw [if_neg nsT_ne]]; rfl, spc_cons, if_pos rfl]
    rw [hfull, inA_of _ _ _ _ _ _ (by simp; omega), inA_S s k 1 (0 + 1) _ (47 :: (n ++ [62])) hk hb (by omega)]
    have := inA_end n [] [] { (⟨[], n, s, [], [], .nil, bindB (rawE s []) xmlB⟩ : Fr) with kids := Fo.app .nil k } 1 (0 + 1 + k.cnt) false hn (fun d hd => by cases hd) rfl rfl
    rw [List.nil_append] at this
    rw [this]
    rfl
  unfold docL
  rw [h1, Option.bind_some, h2, Option.bind_some]
  rfl
end Go.Proofs.YtmofnoconhgjmaaGreatDoor
/- igd.tag. -/
namespace Go.Proofs.YtmofnoconhgjmaaGreatDoor
open Go.RowKit
set_option linter.unusedVariables false
set_option linter.unusedSimpArgs false

def tagL (n t : Bs) : Bs := 60 :: (n ++ 62 :: (t ++ 60 :: 47 :: (n ++ [62])))
theorem tagL_len (n t : Bs) : (tagL n t).length = 2 * n.length + t.length + 5 := by unfold tagL; simp; omega
theorem tag_any (w : World) (n t : Bs) (hn : n.length ≤ 1000) (ht : t.length ≤ 100000) :
    Calls Tryz.prog 76 #[.string ⟨n.toArray⟩, .string ⟨t.toArray⟩] w fun e w' => e = .returned (.string ⟨(tagL n t).toArray⟩) ∧ w = w' := by
  obtain ⟨y1, h1⟩ : ∃ y, y = [60] ++ n := ⟨_, rfl⟩
  obtain ⟨y2, h2⟩ : ∃ y, y = y1 ++ [62] := ⟨_, rfl⟩
  obtain ⟨y3, h3⟩ : ∃ y, y = y2 ++ t := ⟨_, rfl⟩
  obtain ⟨y4, h4⟩ : ∃ y, y = y3 ++ [60, 47] := ⟨_, rfl⟩
  obtain ⟨y5, h5⟩ : ∃ y, y = y4 ++ n := ⟨_, rfl⟩
  obtain ⟨y6, h6⟩ : ∃ y, y = y5 ++ [62] := ⟨_, rfl⟩
  have HT := hid (show tagL n t = y6 by rw [h6, h5, h4, h3, h2, h1]; unfold tagL; simp)
  have l1 : y1.length = 1 + n.length := by rw [h1]; simp; omega
  have l2 : y2.length = y1.length + 1 := by rw [h2]; simp
  have l3 : y3.length = y2.length + t.length := by rw [h3]; simp
  have l4 : y4.length = y3.length + 2 := by rw [h4]; simp
  have l5 : y5.length = y4.length + n.length := by rw [h5]; simp
  have e1 : ((⟨#[60]⟩ : ByteArray) ++ ⟨n.toArray⟩) = ⟨y1.toArray⟩ := by rw [h1]; exact ba_ap [60] n
  have e2 : ((⟨y1.toArray⟩ : ByteArray) ++ ⟨#[62]⟩) = ⟨y2.toArray⟩ := by rw [h2]; exact ba_ap y1 [62]
  have e3 : ((⟨y2.toArray⟩ : ByteArray) ++ ⟨t.toArray⟩) = ⟨y3.toArray⟩ := by rw [h3]; exact ba_ap y2 t
  have e4 : ((⟨y3.toArray⟩ : ByteArray) ++ ⟨#[60, 47]⟩) = ⟨y4.toArray⟩ := by rw [h4]; exact ba_ap y3 [60, 47]
  have e5 : ((⟨y4.toArray⟩ : ByteArray) ++ ⟨n.toArray⟩) = ⟨y5.toArray⟩ := by rw [h5]; exact ba_ap y4 n
  have e6 : ((⟨y5.toArray⟩ : ByteArray) ++ ⟨#[62]⟩) = ⟨y6.toArray⟩ := by rw [h6]; exact ba_ap y5 [62]
  have z1 : ¬ 9223372036854775807 < 1 + n.length := by omega
  have z2 : ¬ 9223372036854775807 < y1.length + 1 := by omega
  have z3 : ¬ 9223372036854775807 < y2.length + t.length := by omega
  have z4 : ¬ 9223372036854775807 < y3.length + 2 := by omega
  have z5 : ¬ 9223372036854775807 < y4.length + n.length := by omega
  have z6 : ¬ 9223372036854775807 < y5.length + 1 := by omega
  clear h1 h2 h3 h4 h5 h6 l1 l2 l3 l4 l5 hn ht
  go_enter Tryz.func76, Tryz.ntmps76
  go_wp2
  go_ret
  exact ⟨by rw [HT.out]; rfl, rfl⟩
end Go.Proofs.YtmofnoconhgjmaaGreatDoor
/- igd's descriptions, plainly. It speaks of no program. -/
namespace Go.Proofs.YtmofnoconhgjmaaGreatDoor
open Go.RowKit
set_option linter.unusedVariables false
set_option linter.unusedSimpArgs false

theorem escL_nil : escL [] = [] := rfl
theorem escL_app (a b : Bs) : escL (a ++ b) = escL a ++ escL b := by
  induction a with
  | nil => rfl
  | cons c a ih => rw [List.cons_append, escL_cons, escL_cons, ih, List.append_assoc]
def devS : Bs := [117, 114, 110, 58, 115, 99, 104, 101, 109, 97, 115, 45, 117, 112, 110, 112, 45, 111, 114, 103, 58, 100, 101, 118, 105, 99, 101, 45, 49, 45, 48]
def scpS : Bs := [117, 114, 110, 58, 115, 99, 104, 101, 109, 97, 115, 45, 117, 112, 110, 112, 45, 111, 114, 103, 58, 115, 101, 114, 118, 105, 99, 101, 45, 49, 45, 48]
def verL : Bs := tagL [115, 112, 101, 99, 86, 101, 114, 115, 105, 111, 110] (tagL [109, 97, 106, 111, 114] [49] ++ tagL [109, 105, 110, 111, 114] [49])
def svcL : Bs := tagL [115, 101, 114, 118, 105, 99, 101, 84, 121, 112, 101] [117, 114, 110, 58, 115, 99, 104, 101, 109, 97, 115, 45, 117, 112, 110, 112, 45, 111, 114, 103, 58, 115, 101, 114, 118, 105, 99, 101, 58, 87, 65, 78, 73, 80, 67, 111, 110, 110, 101, 99, 116, 105, 111, 110, 58, 50] ++ tagL [115, 101, 114, 118, 105, 99, 101, 73, 100] [117, 114, 110, 58, 117, 112, 110, 112, 45, 111, 114, 103, 58, 115, 101, 114, 118, 105, 99, 101, 73, 100, 58, 87, 65, 78, 73, 80, 67, 111, 110, 110, 49] ++ tagL [83, 67, 80, 68, 85, 82, 76] [47, 105, 112, 99, 46, 120, 109, 108] ++ tagL [99, 111, 110, 116, 114, 111, 108, 85, 82, 76] [47, 99, 116, 108, 47, 105, 112, 99] ++ tagL [101, 118, 101, 110, 116, 83, 117, 98, 85, 82, 76] [47, 101, 118, 116, 47, 105, 112, 99]
def devL (u : Bs) : Bs := tagL [100, 101, 118, 105, 99, 101, 84, 121, 112, 101] [117, 114, 110, 58, 115, 99, 104, 101, 109, 97, 115, 45, 117, 112, 110, 112, 45, 111, 114, 103, 58, 100, 101, 118, 105, 99, 101, 58, 73, 110, 116, 101, 114, 110, 101, 116, 71, 97, 116, 101, 119, 97, 121, 68, 101, 118, 105, 99, 101, 58, 50] ++ tagL [102, 114, 105, 101, 110, 100, 108, 121, 78, 97, 109, 101] [104, 101, 97, 114, 116, 104] ++ tagL [109, 97, 110, 117, 102, 97, 99, 116, 117, 114, 101, 114] [104, 101, 97, 114, 116, 104] ++ tagL [109, 111, 100, 101, 108, 78, 97, 109, 101] [104, 101, 97, 114, 116, 104] ++ tagL [85, 68, 78] ([117, 117, 105, 100, 58] ++ escL u) ++ tagL [115, 101, 114, 118, 105, 99, 101, 76, 105, 115, 116] (tagL [115, 101, 114, 118, 105, 99, 101] svcL)
def devB : Bs := [60, 63, 120, 109, 108, 32, 118, 101, 114, 115, 105, 111, 110, 61, 34, 49, 46, 48, 34, 63, 62] ++ 10 :: [60, 114, 111, 111, 116, 32, 120, 109, 108, 110, 115, 61, 34, 117, 114, 110, 58, 115, 99, 104, 101, 109, 97, 115, 45, 117, 112, 110, 112, 45, 111, 114, 103, 58, 100, 101, 118, 105, 99, 101, 45, 49, 45, 48, 34, 62]
def devT (u : Bs) : Bs := devB ++ verL ++ tagL [100, 101, 118, 105, 99, 101] (devL u) ++ [60, 47, 114, 111, 111, 116, 62]
def lf (s n t : Bs) (next : Fo) : Fo := .cons s n [] t .nil next
def bx (s n : Bs) (kids next : Fo) : Fo := .cons s n [] [] kids next
def verF (s : Bs) (next : Fo) : Fo := bx s [115, 112, 101, 99, 86, 101, 114, 115, 105, 111, 110] (lf s [109, 97, 106, 111, 114] [49] (lf s [109, 105, 110, 111, 114] [49] .nil)) next
def svcF : Fo := lf devS [115, 101, 114, 118, 105, 99, 101, 84, 121, 112, 101] [117, 114, 110, 58, 115, 99, 104, 101, 109, 97, 115, 45, 117, 112, 110, 112, 45, 111, 114, 103, 58, 115, 101, 114, 118, 105, 99, 101, 58, 87, 65, 78, 73, 80, 67, 111, 110, 110, 101, 99, 116, 105, 111, 110, 58, 50] (lf devS [115, 101, 114, 118, 105, 99, 101, 73, 100] [117, 114, 110, 58, 117, 112, 110, 112, 45, 111, 114, 103, 58, 115, 101, 114, 118, 105, 99, 101, 73, 100, 58, 87, 65, 78, 73, 80, 67, 111, 110, 110, 49] (lf devS [83, 67, 80, 68, 85, 82, 76] [47, 105, 112, 99, 46, 120, 109, 108] (lf devS [99, 111, 110, 116, 114, 111, 108, 85, 82, 76] [47, 99, 116, 108, 47, 105, 112, 99] (lf devS [101, 118, 101, 110, 116, 83, 117, 98, 85, 82, 76] [47, 101, 118, 116, 47, 105, 112, 99] .nil))))
def devF (u : Bs) : Fo := verF devS (bx devS [100, 101, 118, 105, 99, 101] (lf devS [100, 101, 118, 105, 99, 101, 84, 121, 112, 101] [117, 114, 110, 58, 115, 99, 104, 101, 109, 97, 115, 45, 117, 112, 110, 112, 45, 111, 114, 103, 58, 100, 101, 118, 105, 99, 101, 58, 73, 110, 116, 101, 114, 110, 101, 116, 71, 97, 116, 101, 119, 97, 121, 68, 101, 118, 105, 99, 101, 58, 50] (lf devS [102, 114, 105, 101, 110, 100, 108, 121, 78, 97, 109, 101] [104, 101, 97, 114, 116, 104] (lf devS [109, 97, 110, 117, 102, 97, 99, 116, 117, 114, 101, 114] [104, 101, 97, 114, 116, 104] (lf devS [109, 111, 100, 101, 108, 78, 97, 109, 101] [104, 101, 97, 114, 116, 104] (lf devS [85, 68, 78] ([117, 117, 105, 100, 58] ++ u) (bx devS [115, 101, 114, 118, 105, 99, 101, 76, 105, 115, 116] (bx devS [115, 101, 114, 118, 105, 99, 101] svcF .nil) .nil)))))) .nil)
theorem textS_lf (s n t : Bs) (next : Fo) : textS (lf s n t next) = tagL n (escL t) ++ textS next := by
  unfold lf
  rw [textS_rec]
  unfold tagL
  show _ = _
  simp [textS]
theorem textS_bx (s n : Bs) (k next : Fo) : textS (bx s n k next) = tagL n (textS k) ++ textS next := by
  unfold bx
  rw [textS_rec]
  unfold tagL
  rw [escL_nil]
  simp
theorem textS_nil : textS .nil = [] := rfl
theorem textS_ver (s : Bs) (next : Fo) : textS (verF s next) = verL ++ textS next := by
  unfold verF verL
  rw [textS_bx, textS_lf, textS_lf, textS_nil, List.append_nil]
  rfl
theorem textS_svc : textS svcF = svcL := by
  unfold svcF svcL
  simp only [textS_lf, textS_nil, List.append_nil, List.append_assoc]
  rfl
theorem textS_dev (u : Bs) : textS (devF u) = verL ++ tagL [100, 101, 118, 105, 99, 101] (devL u) := by
  unfold devF devL
  rw [textS_ver, textS_bx]
  simp only [textS_lf, textS_bx, textS_svc, textS_nil, List.append_nil, List.append_assoc, escL_app]
  rfl
theorem devT_doc (u : Bs) : devT u = docT devS [114, 111, 111, 116] (devF u) := by
  unfold devT docT
  rw [textS_dev]
  rw [show devB = declT ++ 10 :: 60 :: ([114, 111, 111, 116] ++ (rawT (rawE devS []) ++ [62])) by decide +kernel]
  simp
end Go.Proofs.YtmofnoconhgjmaaGreatDoor
/- igd.Device. -/
namespace Go.Proofs.YtmofnoconhgjmaaGreatDoor
open Go.RowKit
set_option linter.unusedVariables false
set_option linter.unusedSimpArgs false

def DevPost (w : World) (l : Bs) (e : Ending) (w' : World) : Prop := w.grownBy w' none ∧ ∃ v, e = .returned v ∧ Bytes w' v l
set_option maxRecDepth 100000 in
set_option maxHeartbeats 20000000 in
theorem device_any (w : World) (cs : Array Value) (uu : Bs) (hs : cs.size = 28) (h27 : cs[27]? = some (.string ⟨uu.toArray⟩)) (hu : uu.length ≤ 100) (hesc : (escL uu).length ≤ 2000) : Calls Tryz.prog 35 #[.agg cs] w (DevPost w (devT uu)) := by
  have n1 := heap_alloc_new w (.cells cs 51)
  have g1 := gr_alloc (gr_refl w none) (.cells cs 51)
  obtain ⟨w1, hw1⟩ : ∃ x, x = w.alloc (.cells cs 51) := ⟨_, rfl⟩
  obtain ⟨b, hb⟩ : ∃ x, x = w.heap.size := ⟨_, rfl⟩
  rw [← hw1] at n1 g1
  rw [← hb] at n1
  have N1 := hid n1
  have G1 := hid g1
  have HW1 := hid hw1
  have HB := hid hb
  have c27 : w1.cell? ⟨b, 27, none⟩ = some (.string ⟨uu.toArray⟩) := (cell_of_block N1.out 27).trans h27
  have ldb : devB.length = 68 := by decide
  obtain ⟨a6, h6⟩ : ∃ y, y = tagL [115, 101, 114, 118, 105, 99, 101, 84, 121, 112, 101] [117, 114, 110, 58, 115, 99, 104, 101, 109, 97, 115, 45, 117, 112, 110, 112, 45, 111, 114, 103, 58, 115, 101, 114, 118, 105, 99, 101, 58, 87, 65, 78, 73, 80, 67, 111, 110, 110, 101, 99, 116, 105, 111, 110, 58, 50] := ⟨_, rfl⟩
  have l6 : a6.length ≤ 27 + 46 := by rw [h6, tagL_len]; simp only [List.length_cons, List.length_nil]; omega
  have K6 := hid (fun W => (show Calls Tryz.prog 76 #[.string ⟨#[115, 101, 114, 118, 105, 99, 101, 84, 121, 112, 101]⟩, .string ⟨#[117, 114, 110, 58, 115, 99, 104, 101, 109, 97, 115, 45, 117, 112, 110, 112, 45, 111, 114, 103, 58, 115, 101, 114, 118, 105, 99, 101, 58, 87, 65, 78, 73, 80, 67, 111, 110, 110, 101, 99, 116, 105, 111, 110, 58, 50]⟩] W (fun e w' => e = .returned (.string ⟨a6.toArray⟩) ∧ W = w') from by rw [h6]; exact tag_any W [115, 101, 114, 118, 105, 99, 101, 84, 121, 112, 101] [117, 114, 110, 58, 115, 99, 104, 101, 109, 97, 115, 45, 117, 112, 110, 112, 45, 111, 114, 103, 58, 115, 101, 114, 118, 105, 99, 101, 58, 87, 65, 78, 73, 80, 67, 111, 110, 110, 101, 99, 116, 105, 111, 110, 58, 50] (by decide) (by decide)))
  obtain ⟨a7, h7⟩ : ∃ y, y = tagL [115, 101, 114, 118, 105, 99, 101, 73, 100] [117, 114, 110, 58, 117, 112, 110, 112, 45, 111, 114, 103, 58, 115, 101, 114, 118, 105, 99, 101, 73, 100, 58, 87, 65, 78, 73, 80, 67, 111, 110, 110, 49] := ⟨_, rfl⟩
  have l7 : a7.length ≤ 23 + 33 := by rw [h7, tagL_len]; simp only [List.length_cons, List.length_nil]; omega
  have K7 := hid (fun W => (show Calls Tryz.prog 76 #[.string ⟨#[115, 101, 114, 118, 105, 99, 101, 73, 100]⟩, .string ⟨#[117, 114, 110, 58, 117, 112, 110, 112, 45, 111, 114, 103, 58, 115, 101, 114, 118, 105, 99, 101, 73, 100, 58, 87, 65, 78, 73, 80, 67, 111, 110, 110, 49]⟩] W (fun e w' => e = .returned (.string ⟨a7.toArray⟩) ∧ W = w') from by rw [h7]; exact tag_any W [115, 101, 114, 118, 105, 99, 101, 73, 100] [117, 114, 110, 58, 117, 112, 110, 112, 45, 111, 114, 103, 58, 115, 101, 114, 118, 105, 99, 101, 73, 100, 58, 87, 65, 78, 73, 80, 67, 111, 110, 110, 49] (by decide) (by decide)))
  obtain ⟨a8, h8⟩ : ∃ y, y = a6 ++ a7 := ⟨_, rfl⟩
  have l8 : a8.length = a6.length + a7.length := by rw [h8, List.length_append] <;> rfl
  have e8 : ((⟨a6.toArray⟩ : ByteArray) ++ ⟨a7.toArray⟩) = ⟨a8.toArray⟩ := by rw [h8]; exact ba_ap a6 a7
  have z8 : ¬ 9223372036854775807 < a6.length + a7.length := by omega
  obtain ⟨a9, h9⟩ : ∃ y, y = tagL [83, 67, 80, 68, 85, 82, 76] [47, 105, 112, 99, 46, 120, 109, 108] := ⟨_, rfl⟩
  have l9 : a9.length ≤ 19 + 8 := by rw [h9, tagL_len]; simp only [List.length_cons, List.length_nil]; omega
  have K9 := hid (fun W => (show Calls Tryz.prog 76 #[.string ⟨#[83, 67, 80, 68, 85, 82, 76]⟩, .string ⟨#[47, 105, 112, 99, 46, 120, 109, 108]⟩] W (fun e w' => e = .returned (.string ⟨a9.toArray⟩) ∧ W = w') from by rw [h9]; exact tag_any W [83, 67, 80, 68, 85, 82, 76] [47, 105, 112, 99, 46, 120, 109, 108] (by decide) (by decide)))
  obtain ⟨a10, h10⟩ : ∃ y, y = a8 ++ a9 := ⟨_, rfl⟩
  have l10 : a10.length = a8.length + a9.length := by rw [h10, List.length_append] <;> rfl
  have e10 : ((⟨a8.toArray⟩ : ByteArray) ++ ⟨a9.toArray⟩) = ⟨a10.toArray⟩ := by rw [h10]; exact ba_ap a8 a9
  have z10 : ¬ 9223372036854775807 < a8.length + a9.length := by omega
  obtain ⟨a11, h11⟩ : ∃ y, y = tagL [99, 111, 110, 116, 114, 111, 108, 85, 82, 76] [47, 99, 116, 108, 47, 105, 112, 99] := ⟨_, rfl⟩
  have l11 : a11.length ≤ 25 + 8 := by rw [h11, tagL_len]; simp only [List.length_cons, List.length_nil]; omega
  have K11 := hid (fun W => (show Calls Tryz.prog 76 #[.string ⟨#[99, 111, 110, 116, 114, 111, 108, 85, 82, 76]⟩, .string ⟨#[47, 99, 116, 108, 47, 105, 112, 99]⟩] W (fun e w' => e = .returned (.string ⟨a11.toArray⟩) ∧ W = w') from by rw [h11]; exact tag_any W [99, 111, 110, 116, 114, 111, 108, 85, 82, 76] [47, 99, 116, 108, 47, 105, 112, 99] (by decide) (by decide)))
  obtain ⟨a12, h12⟩ : ∃ y, y = a10 ++ a11 := ⟨_, rfl⟩
  have l12 : a12.length = a10.length + a11.length := by rw [h12, List.length_append] <;> rfl
  have e12 : ((⟨a10.toArray⟩ : ByteArray) ++ ⟨a11.toArray⟩) = ⟨a12.toArray⟩ := by rw [h12]; exact ba_ap a10 a11
  have z12 : ¬ 9223372036854775807 < a10.length + a11.length := by omega
  obtain ⟨a13, h13⟩ : ∃ y, y = tagL [101, 118, 101, 110, 116, 83, 117, 98, 85, 82, 76] [47, 101, 118, 116, 47, 105, 112, 99] := ⟨_, rfl⟩
  have l13 : a13.length ≤ 27 + 8 := by rw [h13, tagL_len]; simp only [List.length_cons, List.length_nil]; omega
  have K13 := hid (fun W => (show Calls Tryz.prog 76 #[.string ⟨#[101, 118, 101, 110, 116, 83, 117, 98, 85, 82, 76]⟩, .string ⟨#[47, 101, 118, 116, 47, 105, 112, 99]⟩] W (fun e w' => e = .returned (.string ⟨a13.toArray⟩) ∧ W = w') from by rw [h13]; exact tag_any W [101, 118, 101, 110, 116, 83, 117, 98, 85, 82, 76] [47, 101, 118, 116, 47, 105, 112, 99] (by decide) (by decide)))
  obtain ⟨a14, h14⟩ : ∃ y, y = a12 ++ a13 := ⟨_, rfl⟩
  have l14 : a14.length = a12.length + a13.length := by rw [h14, List.length_append] <;> rfl
  have e14 : ((⟨a12.toArray⟩ : ByteArray) ++ ⟨a13.toArray⟩) = ⟨a14.toArray⟩ := by rw [h14]; exact ba_ap a12 a13
  have z14 : ¬ 9223372036854775807 < a12.length + a13.length := by omega
  obtain ⟨a15, h15⟩ : ∃ y, y = tagL [100, 101, 118, 105, 99, 101, 84, 121, 112, 101] [117, 114, 110, 58, 115, 99, 104, 101, 109, 97, 115, 45, 117, 112, 110, 112, 45, 111, 114, 103, 58, 100, 101, 118, 105, 99, 101, 58, 73, 110, 116, 101, 114, 110, 101, 116, 71, 97, 116, 101, 119, 97, 121, 68, 101, 118, 105, 99, 101, 58, 50] := ⟨_, rfl⟩
  have l15 : a15.length ≤ 25 + 51 := by rw [h15, tagL_len]; simp only [List.length_cons, List.length_nil]; omega
  have K15 := hid (fun W => (show Calls Tryz.prog 76 #[.string ⟨#[100, 101, 118, 105, 99, 101, 84, 121, 112, 101]⟩, .string ⟨#[117, 114, 110, 58, 115, 99, 104, 101, 109, 97, 115, 45, 117, 112, 110, 112, 45, 111, 114, 103, 58, 100, 101, 118, 105, 99, 101, 58, 73, 110, 116, 101, 114, 110, 101, 116, 71, 97, 116, 101, 119, 97, 121, 68, 101, 118, 105, 99, 101, 58, 50]⟩] W (fun e w' => e = .returned (.string ⟨a15.toArray⟩) ∧ W = w') from by rw [h15]; exact tag_any W [100, 101, 118, 105, 99, 101, 84, 121, 112, 101] [117, 114, 110, 58, 115, 99, 104, 101, 109, 97, 115, 45, 117, 112, 110, 112, 45, 111, 114, 103, 58, 100, 101, 118, 105, 99, 101, 58, 73, 110, 116, 101, 114, 110, 101, 116, 71, 97, 116, 101, 119, 97, 121, 68, 101, 118, 105, 99, 101, 58, 50] (by decide) (by decide)))
  obtain ⟨a16, h16⟩ : ∃ y, y = tagL [102, 114, 105, 101, 110, 100, 108, 121, 78, 97, 109, 101] [104, 101, 97, 114, 116, 104] := ⟨_, rfl⟩
  have l16 : a16.length ≤ 29 + 6 := by rw [h16, tagL_len]; simp only [List.length_cons, List.length_nil]; omega
  have K16 := hid (fun W => (show Calls Tryz.prog 76 #[.string ⟨#[102, 114, 105, 101, 110, 100, 108, 121, 78, 97, 109, 101]⟩, .string ⟨#[104, 101, 97, 114, 116, 104]⟩] W (fun e w' => e = .returned (.string ⟨a16.toArray⟩) ∧ W = w') from by rw [h16]; exact tag_any W [102, 114, 105, 101, 110, 100, 108, 121, 78, 97, 109, 101] [104, 101, 97, 114, 116, 104] (by decide) (by decide)))
  obtain ⟨a17, h17⟩ : ∃ y, y = a15 ++ a16 := ⟨_, rfl⟩
  have l17 : a17.length = a15.length + a16.length := by rw [h17, List.length_append] <;> rfl
  have e17 : ((⟨a15.toArray⟩ : ByteArray) ++ ⟨a16.toArray⟩) = ⟨a17.toArray⟩ := by rw [h17]; exact ba_ap a15 a16
  have z17 : ¬ 9223372036854775807 < a15.length + a16.length := by omega
  obtain ⟨a18, h18⟩ : ∃ y, y = tagL [109, 97, 110, 117, 102, 97, 99, 116, 117, 114, 101, 114] [104, 101, 97, 114, 116, 104] := ⟨_, rfl⟩
  have l18 : a18.length ≤ 29 + 6 := by rw [h18, tagL_len]; simp only [List.length_cons, List.length_nil]; omega
  have K18 := hid (fun W => (show Calls Tryz.prog 76 #[.string ⟨#[109, 97, 110, 117, 102, 97, 99, 116, 117, 114, 101, 114]⟩, .string ⟨#[104, 101, 97, 114, 116, 104]⟩] W (fun e w' => e = .returned (.string ⟨a18.toArray⟩) ∧ W = w') from by rw [h18]; exact tag_any W [109, 97, 110, 117, 102, 97, 99, 116, 117, 114, 101, 114] [104, 101, 97, 114, 116, 104] (by decide) (by decide)))
  obtain ⟨a19, h19⟩ : ∃ y, y = a17 ++ a18 := ⟨_, rfl⟩
  have l19 : a19.length = a17.length + a18.length := by rw [h19, List.length_append] <;> rfl
  have e19 : ((⟨a17.toArray⟩ : ByteArray) ++ ⟨a18.toArray⟩) = ⟨a19.toArray⟩ := by rw [h19]; exact ba_ap a17 a18
  have z19 : ¬ 9223372036854775807 < a17.length + a18.length := by omega
  obtain ⟨a20, h20⟩ : ∃ y, y = tagL [109, 111, 100, 101, 108, 78, 97, 109, 101] [104, 101, 97, 114, 116, 104] := ⟨_, rfl⟩
  have l20 : a20.length ≤ 23 + 6 := by rw [h20, tagL_len]; simp only [List.length_cons, List.length_nil]; omega
  have K20 := hid (fun W => (show Calls Tryz.prog 76 #[.string ⟨#[109, 111, 100, 101, 108, 78, 97, 109, 101]⟩, .string ⟨#[104, 101, 97, 114, 116, 104]⟩] W (fun e w' => e = .returned (.string ⟨a20.toArray⟩) ∧ W = w') from by rw [h20]; exact tag_any W [109, 111, 100, 101, 108, 78, 97, 109, 101] [104, 101, 97, 114, 116, 104] (by decide) (by decide)))
  obtain ⟨a21, h21⟩ : ∃ y, y = a19 ++ a20 := ⟨_, rfl⟩
  have l21 : a21.length = a19.length + a20.length := by rw [h21, List.length_append] <;> rfl
  have e21 : ((⟨a19.toArray⟩ : ByteArray) ++ ⟨a20.toArray⟩) = ⟨a21.toArray⟩ := by rw [h21]; exact ba_ap a19 a20
  have z21 : ¬ 9223372036854775807 < a19.length + a20.length := by omega
  obtain ⟨a24, h24⟩ : ∃ y, y = escL uu := ⟨_, rfl⟩
  have l24 : a24.length ≤ 2000 := by rw [h24]; exact hesc
  have HESC := hid (fun W => (show Calls Tryz.prog 77 #[.string ⟨uu.toArray⟩] W (fun e w' => e = .returned (.string ⟨a24.toArray⟩) ∧ W.grownBy w' none) from by rw [h24]; exact escape_x W uu (by omega)))
  obtain ⟨a25, h25⟩ : ∃ y, y = [117, 117, 105, 100, 58] ++ a24 := ⟨_, rfl⟩
  have l25 : a25.length = 5 + a24.length := by rw [h25, List.length_append] <;> rfl
  have e25 : ((⟨#[117, 117, 105, 100, 58]⟩ : ByteArray) ++ ⟨a24.toArray⟩) = ⟨a25.toArray⟩ := by rw [h25]; exact ba_ap [117, 117, 105, 100, 58] a24
  have z25 : ¬ 9223372036854775807 < 5 + a24.length := by omega
  obtain ⟨a26, h26⟩ : ∃ y, y = tagL [85, 68, 78] a25 := ⟨_, rfl⟩
  have l26 : a26.length ≤ 11 + a25.length := by rw [h26, tagL_len]; simp only [List.length_cons, List.length_nil]; omega
  have K26 := hid (fun W => (show Calls Tryz.prog 76 #[.string ⟨#[85, 68, 78]⟩, .string ⟨a25.toArray⟩] W (fun e w' => e = .returned (.string ⟨a26.toArray⟩) ∧ W = w') from by rw [h26]; exact tag_any W [85, 68, 78] a25 (by decide) (by omega)))
  obtain ⟨a27, h27⟩ : ∃ y, y = a21 ++ a26 := ⟨_, rfl⟩
  have l27 : a27.length = a21.length + a26.length := by rw [h27, List.length_append] <;> rfl
  have e27 : ((⟨a21.toArray⟩ : ByteArray) ++ ⟨a26.toArray⟩) = ⟨a27.toArray⟩ := by rw [h27]; exact ba_ap a21 a26
  have z27 : ¬ 9223372036854775807 < a21.length + a26.length := by omega
  obtain ⟨a29, h29⟩ : ∃ y, y = tagL [115, 101, 114, 118, 105, 99, 101] a14 := ⟨_, rfl⟩
  have l29 : a29.length ≤ 19 + a14.length := by rw [h29, tagL_len]; simp only [List.length_cons, List.length_nil]; omega
  have K29 := hid (fun W => (show Calls Tryz.prog 76 #[.string ⟨#[115, 101, 114, 118, 105, 99, 101]⟩, .string ⟨a14.toArray⟩] W (fun e w' => e = .returned (.string ⟨a29.toArray⟩) ∧ W = w') from by rw [h29]; exact tag_any W [115, 101, 114, 118, 105, 99, 101] a14 (by decide) (by omega)))
  obtain ⟨a30, h30⟩ : ∃ y, y = tagL [115, 101, 114, 118, 105, 99, 101, 76, 105, 115, 116] a29 := ⟨_, rfl⟩
  have l30 : a30.length ≤ 27 + a29.length := by rw [h30, tagL_len]; simp only [List.length_cons, List.length_nil]; omega
  have K30 := hid (fun W => (show Calls Tryz.prog 76 #[.string ⟨#[115, 101, 114, 118, 105, 99, 101, 76, 105, 115, 116]⟩, .string ⟨a29.toArray⟩] W (fun e w' => e = .returned (.string ⟨a30.toArray⟩) ∧ W = w') from by rw [h30]; exact tag_any W [115, 101, 114, 118, 105, 99, 101, 76, 105, 115, 116] a29 (by decide) (by omega)))
  obtain ⟨a31, h31⟩ : ∃ y, y = a27 ++ a30 := ⟨_, rfl⟩
  have l31 : a31.length = a27.length + a30.length := by rw [h31, List.length_append] <;> rfl
  have e31 : ((⟨a27.toArray⟩ : ByteArray) ++ ⟨a30.toArray⟩) = ⟨a31.toArray⟩ := by rw [h31]; exact ba_ap a27 a30
  have z31 : ¬ 9223372036854775807 < a27.length + a30.length := by omega
  obtain ⟨a32, h32⟩ : ∃ y, y = tagL [109, 97, 106, 111, 114] [49] := ⟨_, rfl⟩
  have l32 : a32.length ≤ 15 + 1 := by rw [h32, tagL_len]; simp only [List.length_cons, List.length_nil]; omega
  have K32 := hid (fun W => (show Calls Tryz.prog 76 #[.string ⟨#[109, 97, 106, 111, 114]⟩, .string ⟨#[49]⟩] W (fun e w' => e = .returned (.string ⟨a32.toArray⟩) ∧ W = w') from by rw [h32]; exact tag_any W [109, 97, 106, 111, 114] [49] (by decide) (by decide)))
  obtain ⟨a33, h33⟩ : ∃ y, y = tagL [109, 105, 110, 111, 114] [49] := ⟨_, rfl⟩
  have l33 : a33.length ≤ 15 + 1 := by rw [h33, tagL_len]; simp only [List.length_cons, List.length_nil]; omega
  have K33 := hid (fun W => (show Calls Tryz.prog 76 #[.string ⟨#[109, 105, 110, 111, 114]⟩, .string ⟨#[49]⟩] W (fun e w' => e = .returned (.string ⟨a33.toArray⟩) ∧ W = w') from by rw [h33]; exact tag_any W [109, 105, 110, 111, 114] [49] (by decide) (by decide)))
  obtain ⟨a34, h34⟩ : ∃ y, y = a32 ++ a33 := ⟨_, rfl⟩
  have l34 : a34.length = a32.length + a33.length := by rw [h34, List.length_append] <;> rfl
  have e34 : ((⟨a32.toArray⟩ : ByteArray) ++ ⟨a33.toArray⟩) = ⟨a34.toArray⟩ := by rw [h34]; exact ba_ap a32 a33
  have z34 : ¬ 9223372036854775807 < a32.length + a33.length := by omega
  obtain ⟨a35, h35⟩ : ∃ y, y = tagL [115, 112, 101, 99, 86, 101, 114, 115, 105, 111, 110] a34 := ⟨_, rfl⟩
  have l35 : a35.length ≤ 27 + a34.length := by rw [h35, tagL_len]; simp only [List.length_cons, List.length_nil]; omega
  have K35 := hid (fun W => (show Calls Tryz.prog 76 #[.string ⟨#[115, 112, 101, 99, 86, 101, 114, 115, 105, 111, 110]⟩, .string ⟨a34.toArray⟩] W (fun e w' => e = .returned (.string ⟨a35.toArray⟩) ∧ W = w') from by rw [h35]; exact tag_any W [115, 112, 101, 99, 86, 101, 114, 115, 105, 111, 110] a34 (by decide) (by omega)))
  obtain ⟨a37, h37⟩ : ∃ y, y = devB ++ a35 := ⟨_, rfl⟩
  have l37 : a37.length = 68 + a35.length := by rw [h37, List.length_append] <;> rfl
  have e37 : ((⟨devB.toArray⟩ : ByteArray) ++ ⟨a35.toArray⟩) = ⟨a37.toArray⟩ := by rw [h37]; exact ba_ap devB a35
  have z37 : ¬ 9223372036854775807 < 68 + a35.length := by omega
  obtain ⟨a39, h39⟩ : ∃ y, y = tagL [100, 101, 118, 105, 99, 101] a31 := ⟨_, rfl⟩
  have l39 : a39.length ≤ 17 + a31.length := by rw [h39, tagL_len]; simp only [List.length_cons, List.length_nil]; omega
  have K39 := hid (fun W => (show Calls Tryz.prog 76 #[.string ⟨#[100, 101, 118, 105, 99, 101]⟩, .string ⟨a31.toArray⟩] W (fun e w' => e = .returned (.string ⟨a39.toArray⟩) ∧ W = w') from by rw [h39]; exact tag_any W [100, 101, 118, 105, 99, 101] a31 (by decide) (by omega)))
  obtain ⟨a40, h40⟩ : ∃ y, y = a37 ++ a39 := ⟨_, rfl⟩
  have l40 : a40.length = a37.length + a39.length := by rw [h40, List.length_append] <;> rfl
  have e40 : ((⟨a37.toArray⟩ : ByteArray) ++ ⟨a39.toArray⟩) = ⟨a40.toArray⟩ := by rw [h40]; exact ba_ap a37 a39
  have z40 : ¬ 9223372036854775807 < a37.length + a39.length := by omega
  obtain ⟨a41, h41⟩ : ∃ y, y = a40 ++ [60, 47, 114, 111, 111, 116, 62] := ⟨_, rfl⟩
  have l41 : a41.length = a40.length + 7 := by rw [h41, List.length_append] <;> rfl
  have e41 : ((⟨a40.toArray⟩ : ByteArray) ++ ⟨#[60, 47, 114, 111, 111, 116, 62]⟩) = ⟨a41.toArray⟩ := by rw [h41]; exact ba_ap a40 [60, 47, 114, 111, 111, 116, 62]
  have z41 : ¬ 9223372036854775807 < a40.length + 7 := by omega
  have HDT := hid (show devT uu = a41 by rw [h41, h40, h39, h37, h35, h34, h33, h32, h31, h30, h29, h27, h26, h25, h24, h21, h20, h19, h18, h17, h16, h15, h14, h13, h12, h11, h10, h9, h8, h7, h6]; rfl)
  have HL41 := hid (show a41.length ≤ 8000 by omega)
  clear h6 h7 h8 h9 h10 h11 h12 h13 h14 h15 h16 h17 h18 h19 h20 h21 h24 h25 h26 h27 h29 h30 h31 h32 h33 h34 h35 h37 h39 h40 h41 l6 l7 l8 l9 l10 l11 l12 l13 l14 l15 l16 l17 l18 l19 l20 l21 l24 l25 l26 l27 l29 l30 l31 l32 l33 l34 l35 l37 l39 l40 l41
  clear n1 g1 hw1 hb hs h27 hesc ldb
  go_enter Tryz.func35, Tryz.ntmps35
  go_upto_region 1 with fail
  rw [← HW1.out, ← HB.out]
  clear HW1
  go_wp2_with fail
  refine (K6.out w1).mono ?_
  rintro e w' ⟨rfl, rfl⟩
  go_wp2_with fail
  refine (K7.out w1).mono ?_
  rintro e w' ⟨rfl, rfl⟩
  go_wp2_with fail
  refine (K9.out w1).mono ?_
  rintro e w' ⟨rfl, rfl⟩
  go_wp2_with fail
  refine (K11.out w1).mono ?_
  rintro e w' ⟨rfl, rfl⟩
  go_wp2_with fail
  refine (K13.out w1).mono ?_
  rintro e w' ⟨rfl, rfl⟩
  go_upto_region 2 with fail
  refine wp_region_spec2 (by kernel_rfl) (by kernel_rfl) (n := 18) (by kernel_rfl) [some 15, some 16, some 17, some 18, some 19, some 20, some 21, some 22, some 23, some 24, some 25, some 26, some 27, some 28, some 29, some 30, some 31, some 4] (by kernel_rfl) _ (fun u => (by simp only [fill, List.zipIdx_cons, List.zipIdx_nil, List.foldl_cons, List.foldl_nil, Act.put, List.setIfInBounds_toArray, List.set_cons_zero, List.set_cons_succ, Nat.zero_add, Nat.reduceAdd]; exact rfl)) (by kernel_rfl)
    (all_succ (all_succ (all_succ (all_succ (all_succ (all_succ (all_succ (all_succ (all_succ (all_succ (all_succ (all_succ (all_succ (all_succ (all_succ (all_succ (all_succ (all_succ (all_zero _) (fun u v => by kernel_rfl)) (fun u v => by kernel_rfl)) (fun u v => by kernel_rfl)) (fun u v => by kernel_rfl)) (fun u v => by kernel_rfl)) (fun u v => by kernel_rfl)) (fun u v => by kernel_rfl)) (fun u v => by kernel_rfl)) (fun u v => by kernel_rfl)) (fun u v => by kernel_rfl)) (fun u v => by kernel_rfl)) (fun u v => by kernel_rfl)) (fun u v => by kernel_rfl)) (fun u v => by kernel_rfl)) (fun u v => by kernel_rfl)) (fun u v => by kernel_rfl)) (fun u v => by kernel_rfl)) (fun u v => by kernel_rfl))
    (fun ri v w => match ri with | 0 => v = .string ⟨a15.toArray⟩ | 1 => v = .string ⟨a16.toArray⟩ | 2 => v = .string ⟨a17.toArray⟩ | 3 => v = .string ⟨a18.toArray⟩ | 4 => v = .string ⟨a19.toArray⟩ | 5 => v = .string ⟨a20.toArray⟩ | 6 => v = .string ⟨a21.toArray⟩ | 7 => v = .pointer (some ⟨b, 27, none⟩) | 8 => v = .string ⟨uu.toArray⟩ | 9 => v = .string ⟨a24.toArray⟩ | 10 => v = .string ⟨a25.toArray⟩ | 11 => v = .string ⟨a26.toArray⟩ | 12 => v = .string ⟨a27.toArray⟩ | 13 => v = .string ⟨a14.toArray⟩ | 14 => v = .string ⟨a29.toArray⟩ | 15 => v = .string ⟨a30.toArray⟩ | 16 => v = .string ⟨a31.toArray⟩ | 17 => v = .string ⟨a31.toArray⟩ | _ => True)
    (all_succ (all_succ (all_succ (all_succ (all_succ (all_succ (all_succ (all_succ (all_succ (all_succ (all_succ (all_succ (all_succ (all_succ (all_succ (all_succ (all_succ (all_succ (all_zero _) ?m0) ?m1) ?m2) ?m3) ?m4) ?m5) ?m6) ?m7) ?m8) ?m9) ?m10) ?m11) ?m12) ?m13) ?m14) ?m15) ?m16) ?m17)
    [[], [], [0, 1], [], [2, 3], [], [4, 5], [], [7], [8], [9], [10], [6, 11], [], [13], [14], [12, 15], [16]] (by kernel_rfl)
    ⟨?o0, ?o1, ?o2, ?o3, ?o4, ?o5, ?o6, ?o7, ?o8, ?o9, ?o10, ?o11, ?o12, ?o13, ?o14, ?o15, ?o16, ?o17, trivial⟩ ?done
  case m0 => intro v w w' h g; exact h
  case m1 => intro v w w' h g; exact h
  case m2 => intro v w w' h g; exact h
  case m3 => intro v w w' h g; exact h
  case m4 => intro v w w' h g; exact h
  case m5 => intro v w w' h g; exact h
  case m6 => intro v w w' h g; exact h
  case m7 => intro v w w' h g; exact h
  case m8 => intro v w w' h g; exact h
  case m9 => intro v w w' h g; exact h
  case m10 => intro v w w' h g; exact h
  case m11 => intro v w w' h g; exact h
  case m12 => intro v w w' h g; exact h
  case m13 => intro v w w' h g; exact h
  case m14 => intro v w w' h g; exact h
  case m15 => intro v w w' h g; exact h
  case m16 => intro v w w' h g; exact h
  case m17 => intro v w w' h g; exact h
  case o0 =>
    intro u w g hd K hK
    clear hd
    simp only [Act.put, List.setIfInBounds_toArray, List.set_cons_zero, List.set_cons_succ] at hK
    go_simp
    refine (K15.out w).mono ?_
    rintro e w' ⟨rfl, rfl⟩
    exact hK _ _ rfl (gr_refl _ _)
  case o1 =>
    intro u w g hd K hK
    clear hd
    simp only [Act.put, List.setIfInBounds_toArray, List.set_cons_zero, List.set_cons_succ] at hK
    go_simp
    refine (K16.out w).mono ?_
    rintro e w' ⟨rfl, rfl⟩
    exact hK _ _ rfl (gr_refl _ _)
  case o2 =>
    intro u w g hd K hK
    have h0 : (u 0) = .string ⟨a15.toArray⟩ := hd 0 (by simp)
    have h1 : (u 1) = .string ⟨a16.toArray⟩ := hd 1 (by simp)
    clear hd
    simp only [Act.put, List.setIfInBounds_toArray, List.set_cons_zero, List.set_cons_succ] at hK
    simp only [h0, h1] at hK ⊢
    go_simp
    exact hK _ _ rfl (gr_refl _ _)
  case o3 =>
    intro u w g hd K hK
    clear hd
    simp only [Act.put, List.setIfInBounds_toArray, List.set_cons_zero, List.set_cons_succ] at hK
    go_simp
    refine (K18.out w).mono ?_
    rintro e w' ⟨rfl, rfl⟩
    exact hK _ _ rfl (gr_refl _ _)
  case o4 =>
    intro u w g hd K hK
    have h2 : (u 2) = .string ⟨a17.toArray⟩ := hd 2 (by simp)
    have h3 : (u 3) = .string ⟨a18.toArray⟩ := hd 3 (by simp)
    clear hd
    simp only [Act.put, List.setIfInBounds_toArray, List.set_cons_zero, List.set_cons_succ] at hK
    simp only [h2, h3] at hK ⊢
    go_simp
    exact hK _ _ rfl (gr_refl _ _)
  case o5 =>
    intro u w g hd K hK
    clear hd
    simp only [Act.put, List.setIfInBounds_toArray, List.set_cons_zero, List.set_cons_succ] at hK
    go_simp
    refine (K20.out w).mono ?_
    rintro e w' ⟨rfl, rfl⟩
    exact hK _ _ rfl (gr_refl _ _)
  case o6 =>
    intro u w g hd K hK
    have h4 : (u 4) = .string ⟨a19.toArray⟩ := hd 4 (by simp)
    have h5 : (u 5) = .string ⟨a20.toArray⟩ := hd 5 (by simp)
    clear hd
    simp only [Act.put, List.setIfInBounds_toArray, List.set_cons_zero, List.set_cons_succ] at hK
    simp only [h4, h5] at hK ⊢
    go_simp
    exact hK _ _ rfl (gr_refl _ _)
  case o7 =>
    intro u w g hd K hK
    clear hd
    simp only [Act.put, List.setIfInBounds_toArray, List.set_cons_zero, List.set_cons_succ] at hK
    go_simp
    exact hK _ _ rfl (gr_refl _ _)
  case o8 =>
    intro u w g hd K hK
    have h7 : (u 7) = .pointer (some ⟨b, 27, none⟩) := hd 7 (by simp)
    clear hd
    simp only [Act.put, List.setIfInBounds_toArray, List.set_cons_zero, List.set_cons_succ] at hK
    have c := g.cell c27 (by simp)
    simp only [h7] at hK ⊢
    go_simp
    exact hK _ _ rfl (gr_refl _ _)
  case o9 =>
    intro u w g hd K hK
    have h8 : (u 8) = .string ⟨uu.toArray⟩ := hd 8 (by simp)
    clear hd
    simp only [Act.put, List.setIfInBounds_toArray, List.set_cons_zero, List.set_cons_succ] at hK
    simp only [h8] at hK ⊢
    go_simp
    refine (HESC.out w).mono ?_
    rintro e w' ⟨rfl, g'⟩
    exact hK _ _ rfl g'
  case o10 =>
    intro u w g hd K hK
    have h9 : (u 9) = .string ⟨a24.toArray⟩ := hd 9 (by simp)
    clear hd
    simp only [Act.put, List.setIfInBounds_toArray, List.set_cons_zero, List.set_cons_succ] at hK
    simp only [h9] at hK ⊢
    go_simp
    exact hK _ _ rfl (gr_refl _ _)
  case o11 =>
    intro u w g hd K hK
    have h10 : (u 10) = .string ⟨a25.toArray⟩ := hd 10 (by simp)
    clear hd
    simp only [Act.put, List.setIfInBounds_toArray, List.set_cons_zero, List.set_cons_succ] at hK
    simp only [h10] at hK ⊢
    go_simp
    refine (K26.out w).mono ?_
    rintro e w' ⟨rfl, rfl⟩
    exact hK _ _ rfl (gr_refl _ _)
  case o12 =>
    intro u w g hd K hK
    have h6 : (u 6) = .string ⟨a21.toArray⟩ := hd 6 (by simp)
    have h11 : (u 11) = .string ⟨a26.toArray⟩ := hd 11 (by simp)
    clear hd
    simp only [Act.put, List.setIfInBounds_toArray, List.set_cons_zero, List.set_cons_succ] at hK
    simp only [h6, h11] at hK ⊢
    go_simp
    exact hK _ _ rfl (gr_refl _ _)
  case o13 =>
    intro u w g hd K hK
    clear hd
    simp only [Act.put, List.setIfInBounds_toArray, List.set_cons_zero, List.set_cons_succ] at hK
    go_simp
    exact hK _ _ rfl (gr_refl _ _)
  case o14 =>
    intro u w g hd K hK
    have h13 : (u 13) = .string ⟨a14.toArray⟩ := hd 13 (by simp)
    clear hd
    simp only [Act.put, List.setIfInBounds_toArray, List.set_cons_zero, List.set_cons_succ] at hK
    simp only [h13] at hK ⊢
    go_simp
    refine (K29.out w).mono ?_
    rintro e w' ⟨rfl, rfl⟩
    exact hK _ _ rfl (gr_refl _ _)
  case o15 =>
    intro u w g hd K hK
    have h14 : (u 14) = .string ⟨a29.toArray⟩ := hd 14 (by simp)
    clear hd
    simp only [Act.put, List.setIfInBounds_toArray, List.set_cons_zero, List.set_cons_succ] at hK
    simp only [h14] at hK ⊢
    go_simp
    refine (K30.out w).mono ?_
    rintro e w' ⟨rfl, rfl⟩
    exact hK _ _ rfl (gr_refl _ _)
  case o16 =>
    intro u w g hd K hK
    have h12 : (u 12) = .string ⟨a27.toArray⟩ := hd 12 (by simp)
    have h15 : (u 15) = .string ⟨a30.toArray⟩ := hd 15 (by simp)
    clear hd
    simp only [Act.put, List.setIfInBounds_toArray, List.set_cons_zero, List.set_cons_succ] at hK
    simp only [h12, h15] at hK ⊢
    go_simp
    exact hK _ _ rfl (gr_refl _ _)
  case o17 =>
    intro u w g hd K hK
    have h16 : (u 16) = .string ⟨a31.toArray⟩ := hd 16 (by simp)
    clear hd
    simp only [Act.put, List.setIfInBounds_toArray, List.set_cons_zero, List.set_cons_succ] at hK
    simp only [h16] at hK ⊢
    go_simp
    exact hK _ _ rfl (gr_refl _ _)
  intro u w hS g
  have s0 : (u 0) = .string ⟨a15.toArray⟩ := hS 0 (by decide)
  have s1 : (u 1) = .string ⟨a16.toArray⟩ := hS 1 (by decide)
  have s2 : (u 2) = .string ⟨a17.toArray⟩ := hS 2 (by decide)
  have s3 : (u 3) = .string ⟨a18.toArray⟩ := hS 3 (by decide)
  have s4 : (u 4) = .string ⟨a19.toArray⟩ := hS 4 (by decide)
  have s5 : (u 5) = .string ⟨a20.toArray⟩ := hS 5 (by decide)
  have s6 : (u 6) = .string ⟨a21.toArray⟩ := hS 6 (by decide)
  have s7 : (u 7) = .pointer (some ⟨b, 27, none⟩) := hS 7 (by decide)
  have s8 : (u 8) = .string ⟨uu.toArray⟩ := hS 8 (by decide)
  have s9 : (u 9) = .string ⟨a24.toArray⟩ := hS 9 (by decide)
  have s10 : (u 10) = .string ⟨a25.toArray⟩ := hS 10 (by decide)
  have s11 : (u 11) = .string ⟨a26.toArray⟩ := hS 11 (by decide)
  have s12 : (u 12) = .string ⟨a27.toArray⟩ := hS 12 (by decide)
  have s13 : (u 13) = .string ⟨a14.toArray⟩ := hS 13 (by decide)
  have s14 : (u 14) = .string ⟨a29.toArray⟩ := hS 14 (by decide)
  have s15 : (u 15) = .string ⟨a30.toArray⟩ := hS 15 (by decide)
  have s16 : (u 16) = .string ⟨a31.toArray⟩ := hS 16 (by decide)
  have s17 : (u 17) = .string ⟨a31.toArray⟩ := hS 17 (by decide)
  clear hS
  have T31 := hid s17
  have GY := hid g
  clear s0 s1 s2 s3 s4 s5 s6 s7 s8 s9 s10 s11 s12 s13 s14 s15 s16 s17 g
  generalize u 0 = y0 at *
  generalize u 1 = y1 at *
  generalize u 2 = y2 at *
  generalize u 3 = y3 at *
  generalize u 4 = y4 at *
  generalize u 5 = y5 at *
  generalize u 6 = y6 at *
  generalize u 7 = y7 at *
  generalize u 8 = y8 at *
  generalize u 9 = y9 at *
  generalize u 10 = y10 at *
  generalize u 11 = y11 at *
  generalize u 12 = y12 at *
  generalize u 13 = y13 at *
  generalize u 14 = y14 at *
  generalize u 15 = y15 at *
  generalize u 16 = y16 at *
  generalize u 17 = y17 at *
  obtain rfl := T31.out
  clear T31
  have G2 := hid (gr_trans G1.out GY.out)
  clear GY c27 N1 G1
  go_wp2_with fail
  refine (K32.out w).mono ?_
  rintro e w' ⟨rfl, rfl⟩
  go_wp2_with fail
  refine (K33.out w).mono ?_
  rintro e w' ⟨rfl, rfl⟩
  go_wp2_with fail
  refine (K35.out w).mono ?_
  rintro e w' ⟨rfl, rfl⟩
  go_wp2_with fail
  refine (K39.out w).mono ?_
  rintro e w' ⟨rfl, rfl⟩
  generalize hz : ((_ : ByteArray) ++ (⟨a35.toArray⟩ : ByteArray)) = z37
  obtain rfl : z37 = ⟨a37.toArray⟩ := hz.symm.trans e37
  clear hz e37
  have HS41 := hid (show (⟨a41.toArray⟩ : ByteArray).size ≤ 8000 by rw [Lib.size_eq]; exact HL41.out)
  go_wp2_with (refine wpl_s2b rfl 9 30 5 _ rfl Tryz.underlying9 Tryz.underlying30 Tryz.underlying5 ⟨a41.toArray⟩ rfl (by unfold maxLen; have := HS41.out; omega) ?_; intro g cap w8 hg hrow g8)
  go_ret
  exact ⟨gr_trans G2.out g8, _, rfl, by rw [HDT.out]; exact hrow.bytes⟩
end Go.Proofs.YtmofnoconhgjmaaGreatDoor
/- igd.Actions. -/
namespace Go.Proofs.YtmofnoconhgjmaaGreatDoor
open Go.RowKit
set_option linter.unusedVariables false
set_option linter.unusedSimpArgs false

def nmL (k : Nat) : Bs := (actsN.getD k (ByteArray.empty, [])).1.data.toList
def lstL (k : Nat) : Bs := (List.range k).flatMap fun i => tagL [97, 99, 116, 105, 111, 110] (tagL [110, 97, 109, 101] (nmL i))
def scpB : Bs := [60, 63, 120, 109, 108, 32, 118, 101, 114, 115, 105, 111, 110, 61, 34, 49, 46, 48, 34, 63, 62] ++ 10 :: [60, 115, 99, 112, 100, 32, 120, 109, 108, 110, 115, 61, 34, 117, 114, 110, 58, 115, 99, 104, 101, 109, 97, 115, 45, 117, 112, 110, 112, 45, 111, 114, 103, 58, 115, 101, 114, 118, 105, 99, 101, 45, 49, 45, 48, 34, 62]
def actT : Bs := scpB ++ verL ++ tagL [97, 99, 116, 105, 111, 110, 76, 105, 115, 116] (lstL 15) ++ [60, 47, 115, 99, 112, 100, 62]
def acF (s : Bs) : List Bs → Fo
  | [] => .nil
  | n :: l => bx s [97, 99, 116, 105, 111, 110] (lf s [110, 97, 109, 101] n .nil) (acF s l)
def actF : Fo := verF scpS (bx scpS [97, 99, 116, 105, 111, 110, 76, 105, 115, 116] (acF scpS ((List.range 15).map nmL)) .nil)
theorem lstL_succ (k : Nat) : lstL (k + 1) = lstL k ++ tagL [97, 99, 116, 105, 111, 110] (tagL [110, 97, 109, 101] (nmL k)) := by
  unfold lstL
  rw [List.range_succ, List.flatMap_append]
  simp
theorem nmL_len : ∀ k, k < 15 → (nmL k).length ≤ 30 := by decide +kernel
theorem lstL_len : ∀ k, k ≤ 15 → (lstL k).length ≤ k * 100 := by
  intro k
  induction k with
  | zero => intro _; exact Nat.le_refl _
  | succ k ih =>
    intro hk
    have := ih (by omega)
    have h2 := nmL_len k (by omega)
    rw [lstL_succ, List.length_append, tagL_len, tagL_len]
    simp only [List.length_cons, List.length_nil]
    omega
theorem esc_nm : ∀ k, k < 15 → escL (nmL k) = nmL k := by decide +kernel
theorem textS_ac (s : Bs) : ∀ (l : List Bs), (∀ n ∈ l, escL n = n) → textS (acF s l) = l.flatMap fun n => tagL [97, 99, 116, 105, 111, 110] (tagL [110, 97, 109, 101] n) := by
  intro l
  induction l with
  | nil => intro _; rfl
  | cons n l ih =>
    intro h
    unfold acF
    rw [textS_bx, textS_lf, textS_nil, List.append_nil, ih fun m hm => h m (List.mem_cons_of_mem _ hm), h n (List.mem_cons_self ..), List.flatMap_cons]
theorem actT_doc : actT = docT scpS [115, 99, 112, 100] actF := by
  unfold actT docT actF
  rw [textS_ver, textS_bx, textS_nil, textS_ac]
  · rw [show ((List.range 15).map nmL).flatMap (fun n => tagL [97, 99, 116, 105, 111, 110] (tagL [110, 97, 109, 101] n)) = lstL 15 by unfold lstL; rw [List.flatMap_map]]
    rw [show scpB = declT ++ 10 :: 60 :: ([115, 99, 112, 100] ++ (rawT (rawE scpS []) ++ [62])) by decide +kernel]
    simp
  · intro n hn
    obtain ⟨k, hk, rfl⟩ := List.mem_map.1 hn
    exact esc_nm k (by simpa using hk)
set_option maxRecDepth 100000 in
set_option maxHeartbeats 20000000 in
theorem actionsD_any (w : World) : Calls Tryz.prog 37 #[] w (DevPost w actT) := by
  obtain ⟨a18, h18⟩ : ∃ y, y = tagL [109, 97, 106, 111, 114] [49] := ⟨_, rfl⟩
  have K18 := hid (fun W => (show Calls Tryz.prog 76 #[.string ⟨#[109, 97, 106, 111, 114]⟩, .string ⟨#[49]⟩] W (fun e w' => e = .returned (.string ⟨a18.toArray⟩) ∧ W = w') from by rw [h18]; exact tag_any W [109, 97, 106, 111, 114] [49] (by decide) (by decide)))
  obtain ⟨a19, h19⟩ : ∃ y, y = tagL [109, 105, 110, 111, 114] [49] := ⟨_, rfl⟩
  have K19 := hid (fun W => (show Calls Tryz.prog 76 #[.string ⟨#[109, 105, 110, 111, 114]⟩, .string ⟨#[49]⟩] W (fun e w' => e = .returned (.string ⟨a19.toArray⟩) ∧ W = w') from by rw [h19]; exact tag_any W [109, 105, 110, 111, 114] [49] (by decide) (by decide)))
  obtain ⟨a20, h20⟩ : ∃ y, y = a18 ++ a19 := ⟨_, rfl⟩
  have l18 : a18.length = 16 := by rw [h18]; rfl
  have l19 : a19.length = 16 := by rw [h19]; rfl
  have l20 : a20.length = 32 := by rw [h20, List.length_append, l18, l19]
  have e20 : ((⟨a18.toArray⟩ : ByteArray) ++ ⟨a19.toArray⟩) = ⟨a20.toArray⟩ := by rw [h20]; exact ba_ap a18 a19
  have z20 : ¬ 9223372036854775807 < a18.length + a19.length := by omega
  obtain ⟨a21, h21⟩ : ∃ y, y = tagL [115, 112, 101, 99, 86, 101, 114, 115, 105, 111, 110] a20 := ⟨_, rfl⟩
  have K21 := hid (fun W => (show Calls Tryz.prog 76 #[.string ⟨#[115, 112, 101, 99, 86, 101, 114, 115, 105, 111, 110]⟩, .string ⟨a20.toArray⟩] W (fun e w' => e = .returned (.string ⟨a21.toArray⟩) ∧ W = w') from by rw [h21]; exact tag_any W [115, 112, 101, 99, 86, 101, 114, 115, 105, 111, 110] a20 (by decide) (by omega)))
  have l21 : a21.length = 59 := by rw [h21, tagL_len, l20]; rfl
  have lsb : scpB.length = 69 := by decide
  obtain ⟨a23, h23⟩ : ∃ y, y = scpB ++ a21 := ⟨_, rfl⟩
  have l23 : a23.length = 128 := by rw [h23, List.length_append, lsb, l21]
  have e23 : ((⟨scpB.toArray⟩ : ByteArray) ++ ⟨a21.toArray⟩) = ⟨a23.toArray⟩ := by rw [h23]; exact ba_ap scpB a21
  have z23 : ¬ 9223372036854775807 < 69 + a21.length := by omega
  have hl15 := lstL_len 15 (by omega)
  obtain ⟨a25, h25⟩ : ∃ y, y = tagL [97, 99, 116, 105, 111, 110, 76, 105, 115, 116] (lstL 15) := ⟨_, rfl⟩
  have K25 := hid (fun W => (show Calls Tryz.prog 76 #[.string ⟨#[97, 99, 116, 105, 111, 110, 76, 105, 115, 116]⟩, .string ⟨(lstL 15).toArray⟩] W (fun e w' => e = .returned (.string ⟨a25.toArray⟩) ∧ W = w') from by rw [h25]; exact tag_any W [97, 99, 116, 105, 111, 110, 76, 105, 115, 116] (lstL 15) (by decide) (by omega)))
  have l25 : a25.length ≤ 1600 := by rw [h25, tagL_len]; simp only [List.length_cons, List.length_nil]; omega
  obtain ⟨a26, h26⟩ : ∃ y, y = a23 ++ a25 := ⟨_, rfl⟩
  have l26 : a26.length ≤ 1800 := by rw [h26, List.length_append]; omega
  have e26 : ((⟨a23.toArray⟩ : ByteArray) ++ ⟨a25.toArray⟩) = ⟨a26.toArray⟩ := by rw [h26]; exact ba_ap a23 a25
  have z26 : ¬ 9223372036854775807 < a23.length + a25.length := by omega
  obtain ⟨a27, h27⟩ : ∃ y, y = a26 ++ [60, 47, 115, 99, 112, 100, 62] := ⟨_, rfl⟩
  have l27 : a27.length ≤ 1900 := by rw [h27, List.length_append]; simp only [List.length_cons, List.length_nil]; omega
  have e27 : ((⟨a26.toArray⟩ : ByteArray) ++ ⟨#[60, 47, 115, 99, 112, 100, 62]⟩) = ⟨a27.toArray⟩ := by rw [h27]; exact ba_ap a26 _
  have z27 : ¬ 9223372036854775807 < a26.length + 7 := by omega
  have HDT := hid (show actT = a27 by rw [h27, h26, h25, h23, h21, h20, h19, h18]; rfl)
  have HL27 := hid l27
  clear h18 h19 h20 h21 h23 h25 h26 h27 l18 l19 l20 l21 l23 l25 l26 l27 lsb hl15
  go_enter Tryz.func37, Tryz.ntmps37
  go_wp2_with fail
  refine (actions_any w).mono ?_
  rintro e w1 ⟨g1, v1, rfl, ba, rfl, hact⟩
  have G1 := hid g1
  have HACT := hid hact
  clear g1 hact
  go_wp2_with fail
  go_loopw [1, 7] (fun vs vk wr => ∃ k : Nat, vk = .int .i64 (k : Int) ∧ k ≤ 15 ∧ vs = .string ⟨(lstL k).toArray⟩ ∧ Hid (w1.grownBy wr none)) (fun _ vk _ => 15 - (intOf vk).toNat)
  case atStart => exact ⟨0, rfl, by omega, rfl, hid (gr_refl _ _)⟩
  case round =>
    obtain ⟨k, rfl, hk, rfl, gr⟩ := hrel
    have hk0 : (0 : Int) ≤ (k : Int) := by omega
    by_cases hlt : k < 15
    · obtain ⟨q0, av, q1, htx⟩ := HACT.out k hlt
      have a0 := gr.out.cell q0 (by simp)
      have a1 := gr.out.cell q1 (by simp)
      obtain ⟨ta, tc, rfl, -⟩ := htx
      clear q0 q1
      rw [show (actsN.getD k (ByteArray.empty, [])).1 = ⟨(nmL k).toArray⟩ from (Lib.mk_data _).symm] at a0
      generalize (actsN.getD k (ByteArray.empty, [])).2.length = tl at *
      have hnl := nmL_len k hlt
      have hll := lstL_len k hk
      obtain ⟨t1, ht1⟩ : ∃ y, y = tagL [110, 97, 109, 101] (nmL k) := ⟨_, rfl⟩
      have lt1 : t1.length ≤ 50 := by rw [ht1, tagL_len]; simp only [List.length_cons, List.length_nil]; omega
      obtain ⟨t2, ht2⟩ : ∃ y, y = tagL [97, 99, 116, 105, 111, 110] t1 := ⟨_, rfl⟩
      have lt2 : t2.length ≤ 90 := by rw [ht2, tagL_len]; simp only [List.length_cons, List.length_nil]; omega
      have Q1 := hid (fun W => (show Calls Tryz.prog 76 #[.string ⟨#[110, 97, 109, 101]⟩, .string ⟨(nmL k).toArray⟩] W (fun e w' => e = .returned (.string ⟨t1.toArray⟩) ∧ W = w') from by rw [ht1]; exact tag_any W [110, 97, 109, 101] (nmL k) (by decide) (by omega)))
      have Q2 := hid (fun W => (show Calls Tryz.prog 76 #[.string ⟨#[97, 99, 116, 105, 111, 110]⟩, .string ⟨t1.toArray⟩] W (fun e w' => e = .returned (.string ⟨t2.toArray⟩) ∧ W = w') from by rw [ht2]; exact tag_any W [97, 99, 116, 105, 111, 110] t1 (by decide) (by omega)))
      have HS := hid (show lstL (k + 1) = lstL k ++ t2 by rw [lstL_succ, ht2, ht1])
      obtain ⟨y3, hy3⟩ : ∃ y, y = lstL k ++ t2 := ⟨_, rfl⟩
      have ey : ((⟨(lstL k).toArray⟩ : ByteArray) ++ ⟨t2.toArray⟩) = ⟨y3.toArray⟩ := by rw [hy3]; exact ba_ap _ _
      have HY := hid hy3
      obtain ⟨lk, hlk⟩ : ∃ y, y = lstL k := ⟨_, rfl⟩
      have HLK := hid hlk
      rw [← hlk] at ey hll ⊢
      have zy : ¬ 9223372036854775807 < lk.length + t2.length := by omega
      have ga := World.grownBy_alloc wr (.cells #[.string ⟨(nmL k).toArray⟩, .slice ta tl tc] 134) none
      have GA := hid (gr_trans gr.out ga)
      have hk1 : (k : Int) < 15 := by omega
      clear ht1 ht2 hy3 hlk ga gr hnl hll lt1 lt2
      generalize nmL k = nk at *
      go_wp2_with fail
      refine (Q1.out _).mono ?_
      rintro e w' ⟨rfl, rfl⟩
      go_wp2_with fail
      refine (Q2.out _).mono ?_
      rintro e w' ⟨rfl, rfl⟩
      go_wp2_with fail
      go_roundw
      case rel => exact ⟨k + 1, by go_num, by omega, by rw [HS.out, ← HLK.out, HY.out, ← HLK.out], GA⟩
      case measure => simp [intOf]; omega
    · obtain rfl : k = 15 := by omega
      have G2 := hid (gr_trans G1.out gr.out)
      clear gr
      go_wp2_with fail
      refine (K18.out wr).mono ?_
      rintro e w' ⟨rfl, rfl⟩
      go_wp2_with fail
      refine (K19.out wr).mono ?_
      rintro e w' ⟨rfl, rfl⟩
      go_wp2_with fail
      refine (K21.out wr).mono ?_
      rintro e w' ⟨rfl, rfl⟩
      go_wp2_with fail
      refine (K25.out wr).mono ?_
      rintro e w' ⟨rfl, rfl⟩
      generalize hz : ((_ : ByteArray) ++ (⟨a21.toArray⟩ : ByteArray)) = z23
      obtain rfl : z23 = ⟨a23.toArray⟩ := hz.symm.trans e23
      clear hz e23
      have HS27 := hid (show (⟨a27.toArray⟩ : ByteArray).size ≤ 8000 by rw [Lib.size_eq]; exact Nat.le_trans HL27.out (by decide))
      go_wp2_with (refine wpl_s2b rfl 9 30 5 _ rfl Tryz.underlying9 Tryz.underlying30 Tryz.underlying5 ⟨a27.toArray⟩ rfl (by unfold maxLen; have := HS27.out; omega) ?_; intro g cap w8 hg hrow g8)
      go_ret
      exact ⟨gr_trans G2.out g8, _, rfl, by rw [HDT.out]; exact hrow.bytes⟩
end Go.Proofs.YtmofnoconhgjmaaGreatDoor
/- igd's descriptions as they are read; the texts of a name. It speaks of no program. -/
namespace Go.Proofs.YtmofnoconhgjmaaGreatDoor
open Go.RowKit
set_option linter.unusedVariables false
set_option linter.unusedSimpArgs false

theorem doc_parse (s n : Bs) (k : Fo) (hn : nameB n = true) (hk : SimF s 2 k) (hc : 1 + k.cnt ≤ 64) (hl : (docT s n k).length ≤ 8192) (hp : plainB (docT s n k) = true) : parseL (docT s n k) = (⟨s, n, [], [], k⟩, 0) := by
  unfold parseL
  rw [if_neg (by omega), doc_s s n k hn hk hc]
  simp only [hp, Bool.not_true, Bool.false_eq_true, if_false]
theorem tagL_plain (n t : Bs) : plainB (tagL n t) = (plainB n && plainB t && plainB n) := by
  unfold tagL
  rw [plain_cons, plain_app, plain_cons, plain_app, plain_cons, plain_cons, plain_app]
  rw [show ctlB 60 = false by decide, show ctlB 62 = false by decide, show ctlB 47 = false by decide, show plainB [62] = true by decide]
  simp only [Bool.not_false, Bool.true_and, Bool.and_true, Bool.and_assoc]
theorem devT_plain (u : Bs) (hu : plainB u = true) : plainB (devT u) = true := by
  unfold devT devL
  simp only [plain_app, tagL_plain, escL_plain, hu, Bool.and_true]
  decide +kernel
theorem devT_len (u : Bs) (hu : u.length ≤ 100) : (devT u).length ≤ 4000 := by
  have h := esc_len6 u
  unfold devT devL
  rw [List.length_append, List.length_append, List.length_append, tagL_len, List.length_append, tagL_len _ (tagL _ _)]
  simp only [List.length_append, tagL_len]
  have hs : svcL.length ≤ 500 := by decide +kernel
  rw [show devB.length = 68 by decide, show verL.length = 59 by decide +kernel]
  simp only [List.length_cons, List.length_nil]
  omega
def devE (u : Bs) : El := ⟨devS, [114, 111, 111, 116], [], [], devF u⟩
def scpE : El := ⟨scpS, [115, 99, 112, 100], [], [], actF⟩
theorem dev_sim (u : Bs) : SimF devS 2 (devF u) := by
  unfold devF verF svcF bx lf
  simp only [SimF]
  and_intros <;> first | trivial | rfl | decide +kernel
theorem dev_parse (u : Bs) (hu : u.length ≤ 100) (hp : plainB u = true) : parseL (devT u) = (devE u, 0) := by
  have h1 := devT_plain u hp
  have h2 := devT_len u hu
  rw [devT_doc] at h1 h2 ⊢
  exact doc_parse _ _ _ (by decide +kernel) (dev_sim u) (by show 1 + (devF []).cnt ≤ 64; decide +kernel) (by omega) h1
theorem ac_sim (s : Bs) : ∀ (l : List Bs) (d : Nat), d + 1 ≤ 8 → SimF s d (acF s l) := by
  intro l
  induction l with
  | nil => intro d _; trivial
  | cons n l ih =>
    intro d hd
    unfold acF bx lf
    simp only [SimF]
    and_intros <;> first | exact ih d hd | omega | trivial | rfl | decide +kernel
theorem act_sim : SimF scpS 2 actF := by
  unfold actF verF bx lf
  simp only [SimF]
  and_intros <;> first | exact ac_sim _ _ _ (by omega) | trivial | rfl | decide +kernel
theorem act_parse : parseL actT = (scpE, 0) := by
  have h1 : plainB actT = true := by decide +kernel
  have h2 : actT.length ≤ 8192 := by decide +kernel
  rw [actT_doc] at h1 h2 ⊢
  exact doc_parse _ _ _ (by decide +kernel) act_sim (by decide +kernel) h2 h1
/-- The texts of the elements of a name. -/
def txP (n : Bs) (L : List (Nat × El)) (i : Nat) : List Bs := ((L.take i).filter fun x => decide (x.2.n = n)).map fun x => x.2.tx
def txL (n : Bs) (e : El) : List Bs := txP n (flatE 0 e) (flatE 0 e).length
theorem txP_succ (n : Bs) (L : List (Nat × El)) (i : Nat) (x : Nat × El) (h : L[i]? = some x) : txP n L (i + 1) = txP n L i ++ (if x.2.n = n then [x.2.tx] else []) := by
  unfold txP
  rw [List.take_add_one, h, List.filter_append, List.map_append]
  by_cases hx : x.2.n = n <;> simp [hx]
theorem txP_len (n : Bs) (L : List (Nat × El)) (i : Nat) : (txP n L i).length ≤ i := by
  unfold txP
  rw [List.length_map]
  exact Nat.le_trans (List.length_filter_le _ _) (by rw [List.length_take]; omega)
theorem tx_udn (u : Bs) : txL [85, 68, 78] (devE u) = [[117, 117, 105, 100, 58] ++ u] := by kernel_rfl
theorem tx_typ (u : Bs) : txL [115, 101, 114, 118, 105, 99, 101, 84, 121, 112, 101] (devE u) = [[117, 114, 110, 58, 115, 99, 104, 101, 109, 97, 115, 45, 117, 112, 110, 112, 45, 111, 114, 103, 58, 115, 101, 114, 118, 105, 99, 101, 58, 87, 65, 78, 73, 80, 67, 111, 110, 110, 101, 99, 116, 105, 111, 110, 58, 50]] := by kernel_rfl
theorem tx_scpd (u : Bs) : txL [83, 67, 80, 68, 85, 82, 76] (devE u) = [[47, 105, 112, 99, 46, 120, 109, 108]] := by kernel_rfl
theorem tx_ctl (u : Bs) : txL [99, 111, 110, 116, 114, 111, 108, 85, 82, 76] (devE u) = [[47, 99, 116, 108, 47, 105, 112, 99]] := by kernel_rfl
theorem tx_evt (u : Bs) : txL [101, 118, 101, 110, 116, 83, 117, 98, 85, 82, 76] (devE u) = [[47, 101, 118, 116, 47, 105, 112, 99]] := by kernel_rfl
theorem tx_names : (txL [110, 97, 109, 101] scpE).length = 15 := by decide +kernel
/-- The actions among what was seen. -/
def cntA (L : List (Nat × El)) (i : Nat) : Nat := ((L.take i).filter fun x => decide (x.2.n = [97, 99, 116, 105, 111, 110])).length
theorem cntA_succ (L : List (Nat × El)) (i : Nat) (x : Nat × El) (h : L[i]? = some x) : cntA L (i + 1) = cntA L i + (if x.2.n = [97, 99, 116, 105, 111, 110] then 1 else 0) := by
  unfold cntA
  rw [List.take_add_one, h, List.filter_append, List.length_append]
  by_cases hx : x.2.n = [97, 99, 116, 105, 111, 110] <;> simp [hx]
theorem cnt_all : cntA (flatE 0 scpE) (flatE 0 scpE).length = 15 := by decide +kernel
theorem act_len : (flatE 0 scpE).length = 35 := by decide +kernel
def fstK : Fo → Option (Bs × Bs)
  | .nil => none
  | .cons _ n _ t _ _ => some (n, t)
theorem act_rows : ∀ i, i < 35 → ((flatE 0 scpE).getD i (0, scpE)).2.n = [97, 99, 116, 105, 111, 110] → cntA (flatE 0 scpE) i < 15 ∧ fstK ((flatE 0 scpE).getD i (0, scpE)).2.kids = some ([110, 97, 109, 101], nmL (cntA (flatE 0 scpE) i)) := by decide +kernel
theorem act_small : ∀ i, i < 35 → ((flatE 0 scpE).getD i (0, scpE)).2.ats = [] := by decide +kernel
end Go.Proofs.YtmofnoconhgjmaaGreatDoor
/- hearthlaw21.texts, hearthref21.Names. -/
namespace Go.Proofs.YtmofnoconhgjmaaGreatDoor
open Go.RowKit
set_option linter.unusedVariables false
set_option linter.unusedSimpArgs false

def strV (l : List Bs) : List Value := l.map fun x => .string ⟨x.toArray⟩
def StQ (w : World) (l : List Bs) (e : Ending) (w' : World) : Prop := w.grownBy w' none ∧ ∃ v, e = .returned v ∧ w'.ownsRow w.heap.size 9 1 v l.length (strV l)
theorem strV_one (l : List Bs) : ∀ u ∈ strV l, u.oneCell' = true := fun u hu => by
  obtain ⟨x, -, rfl⟩ := List.mem_map.1 hu; rfl
set_option maxRecDepth 20000 in
set_option maxHeartbeats 8000000 in
theorem names_any (w : World) : Calls Tryz.prog 38 #[] w (StQ w ((List.range 15).map nmL)) := by
  go_enter Tryz.func38, Tryz.ntmps38
  go_wp2_with fail
  go_ret
  refine ⟨gr_alloc (gr_refl _ _) _, _, rfl, own_new (l := strV ((List.range 15).map nmL)) (heap_alloc_new w _) (by kernel_rfl) (Nat.le_refl _) (by decide +kernel) (by decide +kernel)⟩
theorem gr_own0 {w w4 w5 : World} {e : TypeId} {size n : Nat} {v : Value} {xs : List Value} (g : w.grownBy w4 none) (h : w4.ownsRow w.heap.size e size v n xs) (k : w4.grownBy w5 v.ownBlock) : w.grownBy w5 none := by
  rcases h.2 with ⟨rfl, -⟩ | ⟨b, cap, cur, rfl, hb, -⟩
  · exact gr_trans g k
  · exact gr_new g k hb
theorem ownLow0 {w : World} {N N' size n : Nat} {t : TypeId} {v : Value} {xs : List Value} (h : w.ownsRow N t size v n xs) (hN : N' ≤ N) : w.ownsRow N' t size v n xs := by
  refine ⟨h.1, ?_⟩
  rcases h.2 with h0 | ⟨g, cap, cur, rfl, hg, r⟩
  · exact .inl h0
  · exact .inr ⟨g, cap, cur, rfl, Nat.le_trans hN hg, r⟩
/-- The elements that Flat made, one by one. -/
theorem fl_cells {B0 : Nat} {w wr : World} {L : List (Nat × El)} {a1 : Option Addr} {c1 : Nat} {v2 : Value} (h : FlJ B0 w L (.slice a1 L.length c1) v2 wr) {i : Nat} (hi : i < L.length) (d : Nat × El) :
    ∃ g av kv, a1 = some ⟨g, 0, none⟩ ∧ L.length ≤ c1 ∧ wr.cell? ⟨g, i * 5, none⟩ = some (.string ⟨(L.getD i d).2.s.toArray⟩) ∧ wr.cell? ⟨g, i * 5 + 1, none⟩ = some (.string ⟨(L.getD i d).2.n.toArray⟩) ∧ wr.cell? ⟨g, i * 5 + 2, none⟩ = some av ∧ wr.cell? ⟨g, i * 5 + 3, none⟩ = some (.string ⟨(L.getD i d).2.tx.toArray⟩) ∧ wr.cell? ⟨g, i * 5 + 4, none⟩ = some kv ∧ AtsAt wr (B0 ≤ ·) av (L.getD i d).2.ats ∧ KidV wr (B0 ≤ ·) kv (L.getD i d).2.kids := by
  obtain ⟨cs, h1, h2⟩ := h.1
  have hget : (L.map (·.2))[i]? = some (L.getD i d).2 := by
    rw [List.getElem?_map, List.getD_eq_getElem?_getD, List.getElem?_eq_getElem hi]
    rfl
  obtain ⟨av, kv, k0, k1, k2, k3, k4, k5, k6⟩ := h2.get i _ hget
  rcases h1.2 with ⟨-, h0⟩ | ⟨g, cap, cur, e, -, -, hc, -⟩
  · rw [List.length_map] at h0; omega
  · simp only [Value.slice.injEq] at e
    obtain ⟨rfl, -, rfl⟩ := e
    rw [List.length_map] at hc
    have hcl : ∀ j u, cs[j]? = some u → wr.cell? ⟨g, j, none⟩ = some u := fun j u hj => by
      have := h1.cells (g := g) rfl j u hj
      rw [Go.WideShapes.add_plain, Nat.zero_add] at this
      exact this
    exact ⟨g, av, kv, rfl, hc, hcl _ _ k0, hcl _ _ k1, hcl _ _ k2, hcl _ _ k3, hcl _ _ k4, k5, k6⟩
set_option maxRecDepth 20000 in
set_option maxHeartbeats 20000000 in
theorem texts_any (w : World) (v : Value) (e : El) (n : Bs) (X : Nat → Prop) (he : ElAt w X v e) (hz : e.kids.sz ≤ 20000) (hc : e.cnt ≤ 64) :
    Calls Tryz.prog 36 #[v, .string ⟨n.toArray⟩] w (StQ w (txL n e)) := by
  have HE := hid he
  obtain ⟨av, kv, rfl, ha, hk⟩ := he
  obtain ⟨aa, ac, rfl, -⟩ := ha
  obtain ⟨ka, kc, rfl, -⟩ := hk
  unfold elV str at HE ⊢
  have G1 := hid (gr_alloc (gr_refl w none) (.cells #[.string ⟨e.s.toArray⟩, .string ⟨e.n.toArray⟩, .slice aa e.ats.length ac, .string ⟨e.tx.toArray⟩, .slice ka e.kids.len kc] 25))
  have n1 := heap_alloc_new w (.cells #[.string ⟨e.s.toArray⟩, .string ⟨e.n.toArray⟩, .slice aa e.ats.length ac, .string ⟨e.tx.toArray⟩, .slice ka e.kids.len kc] 25)
  obtain ⟨w1, hw1⟩ : ∃ x, x = w.alloc (.cells #[.string ⟨e.s.toArray⟩, .string ⟨e.n.toArray⟩, .slice aa e.ats.length ac, .string ⟨e.tx.toArray⟩, .slice ka e.kids.len kc] 25) := ⟨_, rfl⟩
  have hs1 : w1.heap.size = w.heap.size + 1 := by rw [hw1]; simp
  rw [← hw1] at G1 n1
  have HW1 := hid hw1
  have HS1 := hid hs1
  obtain ⟨L, hL⟩ : ∃ x, x = flatE 0 e := ⟨_, rfl⟩
  have hLc : L.length ≤ 64 := by rw [hL, flatE_cnt]; exact hc
  have FL := hid (flat_el w1.heap.size (e.kids.sz + 1) e 0 _ w1 (Nat.lt_succ_self _) (by omega) (by omega) (Nat.le_refl _) ((HE.out.kx (KX.of_none G1.out)).less (fun b h1 h2 => absurd h1 (Nat.not_lt.2 h2))))
  rw [← hL] at FL
  have HT := hid (show txL n e = txP n L L.length by unfold txL; rw [hL])
  obtain ⟨s0, s1, s2, s3, s4⟩ := ElB.cells (show ElB w1 w.heap.size e.s e.n (.slice aa e.ats.length ac) e.tx (.slice ka e.kids.len kc) from n1)
  have HLC := hid hLc
  clear hL hLc hw1 hs1 hz hc n1
  go_enter Tryz.func36, Tryz.ntmps36
  go_upto_region 1 with fail
  rw [← HW1.out]
  clear HW1
  go_wp2_with fail
  refine FL.out.mono ?_
  rintro e' w2 ⟨v1, v2, rfl, hfl⟩
  obtain ⟨a1, c1, a2, c2, rfl, rfl⟩ := hfl.shape
  have HFL := hid hfl
  have G2 := hid (gr_trans G1.out hfl.2.2)
  clear FL hfl s0 s1 s2 s3 s4
  have n3 := heap_alloc_new w2 (.cells #[] 9)
  have g3 := gr_alloc (gr_refl w2 none) (.cells #[] 9)
  obtain ⟨w3, hw3⟩ : ∃ x, x = w2.alloc (.cells #[] 9) := ⟨_, rfl⟩
  rw [← hw3] at n3 g3
  have HOW := hid (show w3.ownsRow w2.heap.size 9 1 (.slice (some ⟨w2.heap.size, 0, none⟩) 0 0) 0 [] from ⟨rfl, .inr ⟨_, 0, #[], rfl, Nat.le_refl _, n3, Nat.le_refl _, by decide, rfl, rfl⟩⟩)
  have G32 := hid g3
  have HW3 := hid hw3
  clear n3 g3 hw3
  obtain ⟨i0, hi, hz0, hz1, hz2⟩ := info_parts infoTx
  go_upto_region 4 with fail
  rw [← HW3.out]
  clear HW3
  go_loopw [7, 18] (fun v7 v18 wr => ∃ i : Nat, v18 = .int .i64 (i : Int) ∧ i ≤ L.length ∧ Hid (wr.ownsRow w2.heap.size 9 1 v7 (txP n L i).length (strV (txP n L i))) ∧ Hid (w2.grownBy wr none)) (fun _ v18 _ => L.length - (intOf v18).toNat)
  case atStart => exact ⟨0, rfl, Nat.zero_le _, by rw [show txP n L 0 = [] by unfold txP; rfl]; exact HOW.out, hid (G32.out)⟩
  case round =>
    obtain ⟨i, rfl, hi', how, gr⟩ := hrel
    obtain ⟨a7, c7, rfl⟩ := own_shapeG how.out
    have hi64 : (i : Int) ≤ 64 := by have := HLC.out; omega
    by_cases hlt : i < L.length
    · obtain ⟨g, xa, xk, rfl, hcap, m0, m1, m2, m3, m4, hxa, hxk⟩ := fl_cells (HFL.out.grow gr.out) hlt (0, e)
      obtain ⟨ya, yc, rfl, -⟩ := hxa
      obtain ⟨ya', yc', rfl, -⟩ := hxk
      have HX := hid (txP_succ n L i (L.getD i (0, e)) (by rw [List.getD_eq_getElem?_getD, List.getElem?_eq_getElem hlt]; rfl))
      generalize (L.getD i (0, e)).2 = x at *
      have hii : (i : Int) < (L.length : Int) := by omega
      have hi0 : (0 : Int) ≤ (i : Int) := by omega
      have n4 := heap_alloc_new wr (.cells #[.string ⟨x.s.toArray⟩, .string ⟨x.n.toArray⟩, .slice ya x.ats.length yc, .string ⟨x.tx.toArray⟩, .slice ya' x.kids.len yc'] 25)
      have g4 := gr_alloc (gr_refl wr none) (.cells #[.string ⟨x.s.toArray⟩, .string ⟨x.n.toArray⟩, .slice ya x.ats.length yc, .string ⟨x.tx.toArray⟩, .slice ya' x.kids.len yc'] 25)
      go_upto_region 6 with fail
      obtain ⟨w4, hw4⟩ : ∃ y, y = wr.alloc (.cells #[.string ⟨x.s.toArray⟩, .string ⟨x.n.toArray⟩, .slice ya x.ats.length yc, .string ⟨x.tx.toArray⟩, .slice ya' x.kids.len yc'] 25) := ⟨_, rfl⟩
      rw [← hw4] at n4 g4 ⊢
      clear hw4
      have G4 := hid (gr_trans gr.out g4)
      have OW4 := hid (own_growG how.out g4)
      clear m0 m1 m2 m3 m4 how gr g4
      obtain ⟨b, hb⟩ : ∃ y, y = wr.heap.size := ⟨_, rfl⟩
      rw [← hb] at n4 ⊢
      have e1 : w4.cell? ⟨b, 1, none⟩ = some (.string ⟨x.n.toArray⟩) := cell_of_block n4 1
      have e3 : w4.cell? ⟨b, 3, none⟩ = some (.string ⟨x.tx.toArray⟩) := cell_of_block n4 3
      clear n4 hb
      by_cases hn : x.n = n
      · rw [hn] at e1
        have HX1 := hid (show txP n L (i + 1) = txP n L i ++ [x.tx] by rw [HX.out, if_pos hn])
        clear hn HX
        have n5 := heap_alloc_new w4 (.cells #[.string ⟨x.tx.toArray⟩] 9)
        have g5 := gr_alloc (gr_refl w4 none) (.cells #[.string ⟨x.tx.toArray⟩] 9)
        have SB := hid (src_new (l := strV [x.tx]) n5 rfl)
        have OW5 := hid (own_growG OW4.out g5)
        have G5 := hid (gr_trans G4.out g5)
        have HTL := hid (txP_len n L i)
        clear n5 g5 OW4 G4
        go_wp2_with (at_builtin; refine wpl_appG rfl _ _ 41 rfl (size := 1) (bytes := 16) Tryz.underlying41 hi hz0 hz1 hz2 rfl (by decide) rfl OW5.out rfl (m := 1) (news := strV [x.tx]) rfl SB.out (strV_one _) (by have := HTL.out; unfold maxLen; omega) (by have := HTL.out; omega) (by exact G5.out.size) ?_; intro v6 w6 hown6 g6 hat6; have HOW6 := hid hown6; have HG6 := hid g6; obtain ⟨a6', c6', rfl⟩ := own_shapeG hown6; clear hown6 g6 hat6)
        have GX := hid (gr_own0 G5.out OW5.out HG6.out)
        have HOX := hid (show w6.ownsRow w2.heap.size 9 1 _ (txP n L (i + 1)).length (strV (txP n L (i + 1))) from by
          rw [HX1.out, List.length_append]
          have := HOW6.out
          rw [show strV (txP n L i ++ [x.tx]) = strV (txP n L i) ++ strV [x.tx] by unfold strV; rw [List.map_append]]
          exact this)
        refine ⟨⟨i + 1, by go_num, by omega, HOX, GX⟩, by simp [intOf]; omega⟩
      · have hne : (x.n == n) = false := by simpa using hn
        have HX1 := hid (show txP n L (i + 1) = txP n L i by rw [HX.out, if_neg hn, List.append_nil])
        clear hn HX
        go_wp2
        go_roundw
        case rel => exact ⟨i + 1, by go_num, by omega, hid (by rw [HX1.out]; exact OW4.out), G4⟩
        case measure => simp [intOf]; omega
    · obtain rfl : i = L.length := by omega
      go_wp2
      go_ret
      rw [HT.out]
      exact ⟨gr_trans G2.out gr.out, _, rfl, ownLow0 how.out (G2.out.size)⟩
end Go.Proofs.YtmofnoconhgjmaaGreatDoor
