/- Texts of one proof, put together: Xmx, Xmy. -/
import Derived.Test.YtmofnoconhgjmaaGreatDoorXmf
import Derived.Test.YtmofnoconhgjmaaGreatDoorXmj
import Derived.Test.YtmofnoconhgjmaaGreatDoorMC
import Derived.Deep.QuietTactic
import Derived.BigQuiet
import Derived.Deep.DeepCutAuto
/- hearthref17.Doc: attrs. -/
namespace Go.Proofs.YtmofnoconhgjmaaGreatDoor
open Go.RowKit
set_option linter.unusedVariables false
set_option linter.unusedSimpArgs false

abbrev xraw : TypeId := 201
theorem DcR.blk {w : World} {b : Nat} {S r : Bs} {cnt : Int} {bad full : Bool} (h : DcR w b S r cnt bad full) : ∃ cs, w.heap[b]? = some (.cells cs 151 (0, 0)) := by
  obtain ⟨i, -, -, h3⟩ := h
  exact ⟨_, h3⟩
/-- The state while an attribute is read: its block A holds x, y, z. -/
structure RS (w w' : World) (b : Nat) (S r : Bs) (cnt : Int) (bad full : Bool) (v : Value) (acc : List At) (A : Nat) (x y z : Bs) : Prop where
  dc : DcR w' b S r cnt bad full
  gr : w.grownBy w' (some b)
  own : w'.ownsRow w.heap.size xraw 3 v acc.length (tri acc)
  at' : w'.heap[A]? = some (.cells #[str x, str y, str z] xraw (0, 0))
  lo : w.heap.size ≤ A
  ne : v.ownBlock ≠ some A
theorem RS.step {w w' w'' : World} {b : Nat} {S r r' : Bs} {cnt : Int} {bad bad' full : Bool} {v : Value} {acc : List At} {A : Nat} {x y z : Bs} (h : RS w w' b S r cnt bad full v acc A x y z) (hp : DcR w'' b S r' cnt bad' full) (g : w'.grownBy w'' (some b)) : RS w w'' b S r' cnt bad' full v acc A x y z := by
  obtain ⟨cs, hb⟩ := h.dc.blk
  exact ⟨hp, gr_trans h.gr g, row_ty h.own g hb (by decide), gr_keep g h.at' (blk_ne h.at' hb (by decide)), h.lo, h.ne⟩
theorem DcR.other {w : World} {b n o : Nat} {v : Value} {S r : Bs} {cnt : Int} {bad full : Bool} (h : DcR w b S r cnt bad full) (hn : b ≠ n) : DcR (w.setCell ⟨n, o, none⟩ v) b S r cnt bad full := by
  obtain ⟨i, h1, h2, h3⟩ := h
  exact ⟨i, h1, h2, by unfold DcAt; rw [heap_set_other hn]; exact h3⟩
theorem RS.grow {w w' w'' : World} {b : Nat} {S r : Bs} {cnt : Int} {bad full : Bool} {v : Value} {acc : List At} {A : Nat} {x y z : Bs} (h : RS w w' b S r cnt bad full v acc A x y z) (g : w'.grownBy w'' none) : RS w w'' b S r cnt bad full v acc A x y z :=
  ⟨h.dc.grow g, gr_trans h.gr (gr_none g), row_none h.own g, gr_keep g h.at' (by simp), h.lo, h.ne⟩
theorem RS.set {w w' : World} {b : Nat} {S r : Bs} {cnt : Int} {bad full : Bool} {v : Value} {acc : List At} {A : Nat} {x y z : Bs} (h : RS w w' b S r cnt bad full v acc A x y z) (o : Nat) (u : Value) (x' y' z' : Bs) (hc : #[str x, str y, str z].setIfInBounds o u = #[str x', str y', str z']) : RS w (w'.setCell ⟨A, o, none⟩ u) b S r cnt bad full v acc A x' y' z' := by
  obtain ⟨cs, hb⟩ := h.dc.blk
  have hne : b ≠ A := fun e => blk_ne h.at' hb (by decide) (by rw [e])
  refine ⟨h.dc.other hne, gr_set_new h.gr h.lo, ?_, by rw [← hc]; exact heap_set h.at', h.lo, h.ne⟩
  refine h.own.kept (gr_set (gr_refl w' (some A))) ?_
  rcases hv : v.ownBlock with _ | g
  · exact .inl (by
      rcases h.own.2 with ⟨rfl, _⟩ | ⟨g', cap, cur, rfl, _⟩
      · rfl
      · cases hv)
  · exact .inr (fun e => h.ne (by rw [hv, e]))
theorem RS.cells {w w' : World} {b : Nat} {S r : Bs} {cnt : Int} {bad full : Bool} {v : Value} {acc : List At} {A : Nat} {x y z : Bs} (h : RS w w' b S r cnt bad full v acc A x y z) : w'.cell? ⟨A, 0, none⟩ = some (.string ⟨x.toArray⟩) ∧ w'.cell? ⟨A, 1, none⟩ = some (.string ⟨y.toArray⟩) ∧ w'.cell? ⟨A, 2, none⟩ = some (.string ⟨z.toArray⟩) ∧ w'.frozen? ⟨A, 0, none⟩ = false ∧ w'.frozen? ⟨A, 1, none⟩ = false ∧ w'.frozen? ⟨A, 2, none⟩ = false :=
  ⟨cell_of_block h.at' 0, cell_of_block h.at' 1, cell_of_block h.at' 2, free_of_block h.at' 0, free_of_block h.at' 1, free_of_block h.at' 2⟩
theorem DcR.setBad {w : World} {b : Nat} {S r : Bs} {cnt : Int} {bad full : Bool} (h : DcR w b S r cnt bad full) (x : Bool) : DcR (w.setCell ⟨b, 3, none⟩ (.bool x)) b S r cnt x full := by
  obtain ⟨i, h1, h2, h3⟩ := h
  exact ⟨i, h1, h2, h3.setBad x⟩
theorem DcR.free3 {w : World} {b : Nat} {S r : Bs} {cnt : Int} {bad full : Bool} (h : DcR w b S r cnt bad full) : w.frozen? ⟨b, 3, none⟩ = false := by
  obtain ⟨i, h1, h2, h3⟩ := h
  exact h3.cells.2.2.2.2.2.2.2.1
/-- What attrs leaves. -/
def RAttPost (w : World) (b : Nat) (S : Bs) (cnt : Int) (full : Bool) (o : Option (List At × Bool × Bs)) (e : Ending) (w' : World) : Prop :=
  w.grownBy w' (some b) ∧ ((∃ l emp r' v, o = some (l, emp, r') ∧ e = .returned (.tuple #[v, .bool emp]) ∧ DcR w' b S r' cnt false full ∧ w'.ownsRow w.heap.size xraw 3 v l.length (tri l)) ∨
    (o = none ∧ ∃ l r' v, e = .returned (.tuple #[v, .bool false]) ∧ DcR w' b S r' cnt true full ∧ w'.ownsRow w.heap.size xraw 3 v l.length (tri l) ∧ l.length ≤ 100000))
theorem infoR : (Tryz.prog.info? xraw).map (fun i => (i.zero, i.size, i.bytes)) = some (some (.agg #[.string ⟨#[]⟩, .string ⟨#[]⟩, .string ⟨#[]⟩]), 3, 48) := by kernel_rfl
end Go.Proofs.YtmofnoconhgjmaaGreatDoor
/- hearthref17.Doc: attrs, its walk. -/
namespace Go.Proofs.YtmofnoconhgjmaaGreatDoor
open Go.RowKit
set_option linter.unusedVariables false
set_option linter.unusedSimpArgs false

/-- The loop's relation. -/
def RaR (w : World) (b : Nat) (S : Bs) (cnt : Int) (full : Bool) (R : Option (List At × Bool × Bs)) (v : Value) (wr : World) (r : Bs) : Prop :=
  ∃ n acc, DcR wr b S r cnt false full ∧ w.grownBy wr (some b) ∧ wr.ownsRow w.heap.size xraw 3 v acc.length (tri acc) ∧ Hid (attrsL n r acc = R) ∧ r.length < n ∧ acc.length + r.length ≤ 20000
/-- Behind the first quote. -/
def QuC (w : World) (b : Nat) (S r4 : Bs) (cnt : Int) (full : Bool) (v : Value) (acc : List At) (A : Nat) (x y : Bs) (v7 : Value) (wx : World) : Prop :=
  ∃ (q : UInt8) (r5 : Bs), v7 = .string ⟨[q].toArray⟩ ∧ valueL r4 = valQ q r5 ∧ RS w wx b S r5 cnt false full v acc A x y [] ∧ r5.length < r4.length
set_option maxRecDepth 20000 in
set_option maxHeartbeats 20000000 in
theorem attrs_r (b : Nat) (S rest : Bs) (cnt : Int) (full : Bool) (w : World) (h : DcR w b S rest cnt false full) (hS : S.length ≤ 20000) :
    Calls Tryz.prog 122 #[.pointer (some ⟨b, 0, none⟩)] w (RAttPost w b S cnt full (attrsA rest)) := by
  obtain ⟨i0, hi, hz0, hz1, hz2⟩ := info_parts infoR
  obtain ⟨R, hR⟩ : ∃ R, attrsA rest = R := ⟨_, rfl⟩
  rw [hR]
  have H := hid (h.grow (gr_alloc (gr_refl w none) (.cells #[] 201)))
  have HR := hid hR
  have hln := h.len
  have O0 := hid (show (w.alloc (.cells #[] 201)).ownsRow w.heap.size xraw 3 (.slice (some ⟨w.heap.size, 0, none⟩) 0 0) 0 (tri []) from
    ⟨rfl, .inr ⟨w.heap.size, 0, #[], rfl, Nat.le_refl _, heap_alloc_new w _, Nat.le_refl _, Nat.zero_le _, rfl, rfl⟩⟩)
  clear h hR
  go_enter Tryz.func122, Tryz.ntmps122
  go_wp2_with fail
  go_loopw [4] (fun v4 wr => ∃ r, RaR w b S cnt full R v4 wr r) (fun _ wr => dcJ S wr b)
  case atStart => exact ⟨rest, rest.length + 1, [], H.out, gr_alloc (gr_refl _ _) _, O0.out, HR.out, by omega, by simp only [List.length_nil]; omega⟩
  case round =>
    obtain ⟨r, n, acc, hd, gw, hown, hun, hn, hlen⟩ := hrel
    have HPJ := hid (dcJ_of hd)
    obtain ⟨n, rfl⟩ : ∃ k, n = k + 1 := ⟨n - 1, by omega⟩
    have hun' := hun.out
    unfold attrsL at hun'
    have HB := hid (blanks_r b S r cnt false full wr hd (by omega))
    have hrl := trimS_len r
    generalize Lib.trimLeftS r blkL = r1 at *
    have HUN := hid hun'
    have HOWN := hid hown
    have HD := hid hd
    have GW := hid gw
    have d3 := hd.bad
    clear hun hun' hown hd gw
    go_wp2_with fail
    refine HB.out.mono ?_
    rintro e w1 ⟨gap, rfl, hgap, hd1, g1⟩
    obtain ⟨cs0, hb0⟩ := HD.out.blk
    have G1 := hid (gr_trans GW.out g1)
    have O1 := hid (row_ty HOWN.out g1 hb0 (by decide))
    have HD1 := hid hd1
    clear hd1 g1 hb0 d3
    have HT := hid (pass_r b S r1 [47, 62] cnt false full w1 HD1.out (by omega) (by decide))
    go_wp2_with fail
    refine HT.out.mono ?_
    rintro e w2 ⟨rfl, hd2, g2⟩
    obtain ⟨cs0, hb0⟩ := HD1.out.blk
    have G2 := hid (gr_trans G1.out g2)
    have O2 := hid (row_ty O1.out g2 hb0 (by decide))
    have HD2 := hid hd2
    clear hd2 g2 hb0
    obtain ⟨p1, hp1⟩ : ∃ p1, Lib.hasPrefix r1 [47, 62] = p1 := ⟨_, rfl⟩
    have HN1 := hid (fun (hp : p1 = false) => show Lib.trimPrefix r1 [47, 62] = r1 by unfold Lib.trimPrefix; rw [hp1, hp]; rfl)
    rw [hp1] at HUN ⊢
    clear hp1
    cases p1
    rotate_left
    · have HV := hid (show R = some (acc, true, Lib.trimPrefix r1 [47, 62]) from HUN.out.symm)
      go_wp2
      ((try simp only [Exit.inBlock, Exit.then]); refine bodyPost_ret (results_tmp2 rfl _ _ _) rfl ?_)
      exact ⟨G2.out, .inl ⟨_, _, _, _, HV.out, rfl, HD2.out, O2.out⟩⟩
    · rw [HN1.out rfl] at HD2
      clear HN1
      have HT2 := hid (pass_r b S r1 [62] cnt false full w2 HD2.out (by omega) (by decide))
      go_wp2_with fail
      refine HT2.out.mono ?_
      rintro e w3 ⟨rfl, hd3, g3⟩
      obtain ⟨cs0, hb0⟩ := HD2.out.blk
      have G3 := hid (gr_trans G2.out g3)
      have O3 := hid (row_ty O2.out g3 hb0 (by decide))
      have HD3 := hid hd3
      clear hd3 g3 hb0
      obtain ⟨p1, hp1⟩ : ∃ p1, Lib.hasPrefix r1 [62] = p1 := ⟨_, rfl⟩
      have HN1 := hid (fun (hp : p1 = false) => show Lib.trimPrefix r1 [62] = r1 by unfold Lib.trimPrefix; rw [hp1, hp]; rfl)
      rw [hp1] at HUN ⊢
      clear hp1
      cases p1
      rotate_left
      · have HV := hid (show R = some (acc, false, Lib.trimPrefix r1 [62]) from HUN.out.symm)
        go_wp2
        ((try simp only [Exit.inBlock, Exit.then]); refine bodyPost_ret (results_tmp2 rfl _ _ _) rfl ?_)
        exact ⟨G3.out, .inl ⟨_, _, _, _, HV.out, rfl, HD3.out, O3.out⟩⟩
      · rw [HN1.out rfl] at HD3
        clear HN1
        have HUN2 := hid (show (if r1.length < r.length then (match oneL r1 with | none => none | some (a, r') => if acc.any (sameF a) then none else attrsL n r' (acc ++ [a])) else none) = R from HUN.out)
        clear HUN HT HT2 HB O1 O2 G1 G2 HD1 HD2 HOWN HD GW
        have BAD := hid (fun (W : World) (l : List At) (v : Value) (r' : Bs) (bad : Bool) (hRn : R = none) (hd : DcR W b S r' cnt bad full) (gw : w.grownBy W (some b)) (ho : W.ownsRow w.heap.size xraw 3 v l.length (tri l)) (hl : l.length ≤ 100000) =>
          (show RAttPost w b S cnt full R (.returned (.tuple #[v, .bool false])) (W.setCell ⟨b, 3, none⟩ (.bool true)) from by
            obtain ⟨cs0, hb0⟩ := hd.blk
            exact ⟨gr_set gw, .inr ⟨hRn, l, r', v, rfl, hd.setBad true, row_ty ho (gr_set (gr_refl _ (some b))) hb0 (by decide), hl⟩⟩))
        by_cases hg0 : gap = 0
        · have hgap' : ((gap : Int) == 0) = true := by simp [hg0]
          have HV := hid (show R = none by rw [← HUN2.out, if_neg (by omega)])
          have c3 := HD3.out.bad
          have f3 := HD3.out.free3
          obtain ⟨va, vc, hsv, -⟩ := row_shape O3.out
          subst hsv
          have HG := hid hg0
          clear hg0
          go_wp2
          ((try simp only [Exit.inBlock, Exit.then]); refine bodyPost_ret (results_tmp2 rfl _ _ _) rfl ?_)
          exact BAD.out w3 acc _ r1 false HV.out HD3.out G3.out O3.out (by omega)
        · have hgap' : ((gap : Int) == 0) = false := by simp; omega
          have HUN3 := hid (show (match oneL r1 with | none => none | some (a, r') => if acc.any (sameF a) then none else attrsL n r' (acc ++ [a])) = R by rw [← HUN2.out, if_pos (by omega)])
          have HONE := hid (show oneL r1 = if (fullL r1).1.2.2 && Lib.hasPrefix (Lib.trimLeftS (fullL r1).2 blkL) [61] then
            (valueL (Lib.trimLeftS (Lib.trimPrefix (Lib.trimLeftS (fullL r1).2 blkL) [61]) blkL)).map fun x => (((fullL r1).1.1, (fullL r1).1.2.1, x.1), x.2) else none from rfl)
          have HNO := hid (fun (e : oneL r1 = none) => show R = none by rw [← HUN3.out, e])
          have HYES := hid (fun a r' (e : oneL r1 = some (a, r')) => show (if acc.any (sameF a) then none else attrsL n r' (acc ++ [a])) = R by rw [← HUN3.out, e])
          have hfl := fullL_len r1
          have hr1 : r1.length < r.length := by omega
          obtain ⟨va, vc, hsv, -⟩ := row_shape O3.out
          subst hsv
          have S4 := hid (show RS w (w3.alloc (.cells #[.string ⟨#[]⟩, .string ⟨#[]⟩, .string ⟨#[]⟩] xraw)) b S r1 cnt false full (.slice va acc.length vc) acc w3.heap.size [] [] [] from
            ⟨HD3.out.grow (gr_alloc (gr_refl _ _) _), gr_alloc G3.out _, O3.out.alloc _, heap_alloc_new w3 _, G3.out.size, fun e => by have := (O3.out.lt _ e).2; omega⟩)
          clear HUN2 HUN3 HD3 G3 O3 hg0 hgap
          go_wp2_with fail
          generalize w3.heap.size = A at *
          have HF := hid (rfull_r b S r1 cnt full _ S4.out.dc (by omega))
          generalize oneL r1 = O1 at *
          generalize fullL r1 = F at *
          obtain ⟨⟨f1, f2, f3⟩, f4⟩ := F
          simp only at hfl
          refine HF.out.mono ?_
          rintro e w5 ⟨rfl, hp5, g5⟩
          have S5 := hid (S4.out.step hp5 g5)
          have S6 := hid ((S5.out.set 0 (.string ⟨f1.toArray⟩) f1 [] [] rfl).set 1 (.string ⟨f2.toArray⟩) f1 f2 [] rfl)
          clear S4 HF hp5 g5
          obtain ⟨c0, c1, c2, q0, q1, q2⟩ := S5.out.cells
          unfold str
          have HB2 := hid (blanks_r b S f4 cnt (!f3) full _ S6.out.dc (by omega))
          have hl2 := trimS_len f4
          generalize Lib.trimLeftS f4 blkL = r2 at *
          go_wp2_with fail
          refine HB2.out.mono ?_
          rintro e w7 ⟨gap2, rfl, -, hp7, g7⟩
          have S7 := hid (S6.out.step hp7 g7)
          clear S5 S6 HB2 hp7 g7 c0 c1 c2 q0 q1 q2
          have d3 := S7.out.dc.bad
          have f3' := S7.out.dc.free3
          cases f3
          · have HV := hid (HNO.out HONE.out)
            have d3' : w7.cell? ⟨b, 3, none⟩ = some (.bool true) := d3
            go_wp2
            ((try simp only [Exit.inBlock, Exit.then]); refine bodyPost_ret (results_tmp2 rfl _ _ _) rfl ?_)
            exact BAD.out w7 acc _ _ _ HV.out S7.out.dc S7.out.gr S7.out.own (by omega)
          · have d3' : w7.cell? ⟨b, 3, none⟩ = some (.bool false) := d3
            have S7' := hid (show RS w w7 b S r2 cnt false full _ acc A f1 f2 [] from S7.out)
            have HONE2 := hid (show O1 = if Lib.hasPrefix r2 [61] then
              (valueL (Lib.trimLeftS (Lib.trimPrefix r2 [61]) blkL)).map fun x => ((f1, f2, x.1), x.2) else none from HONE.out)
            clear HONE S7 d3
            have HT3 := hid (pass_r b S r2 [61] cnt false full w7 S7'.out.dc (by omega) (by decide))
            have hl3 := trim_len r2 [61]
            generalize Lib.hasPrefix r2 [61] = p2 at *
            generalize Lib.trimPrefix r2 [61] = r3 at *
            go_wp2_with fail
            refine HT3.out.mono ?_
            rintro e w8 ⟨rfl, hp8, g8⟩
            have S8 := hid (S7'.out.step hp8 g8)
            clear S7' HT3 hp8 g8 d3' f3'
            have d3 := S8.out.dc.bad
            have f3' := S8.out.dc.free3
            cases p2
            · have HV := hid (HNO.out HONE2.out)
              go_wp2
              ((try simp only [Exit.inBlock, Exit.then]); refine bodyPost_ret (results_tmp2 rfl _ _ _) rfl ?_)
              exact BAD.out w8 acc _ _ _ HV.out S8.out.dc S8.out.gr S8.out.own (by omega)
            · have HONE3 := hid (show O1 = (valueL (Lib.trimLeftS r3 blkL)).map fun x => ((f1, f2, x.1), x.2) from HONE2.out)
              clear HONE2
              have hl4 := trimS_len r3
              have HB4 := hid (blanks_r b S r3 cnt false full _ S8.out.dc (by omega))
              generalize Lib.trimLeftS r3 blkL = r4 at *
              go_wp2_with fail
              refine HB4.out.mono ?_
              rintro e w9 ⟨gap4, rfl, -, hp9, g9⟩
              have S9 := hid (S8.out.step hp9 g9)
              clear S8 HB4 hp9 g9 d3 f3'
              have HT5 := hid (pass_r b S r4 [34] cnt false full w9 S9.out.dc (by omega) (by decide))
              have hvl : valueL r4 = if Lib.hasPrefix r4 [34] then valQ 34 (Lib.trimPrefix r4 [34]) else if Lib.hasPrefix r4 [39] then valQ 39 (Lib.trimPrefix r4 [39]) else none := rfl
              obtain ⟨p3, hp3⟩ : ∃ p3, Lib.hasPrefix r4 [34] = p3 := ⟨_, rfl⟩
              have HN1 := hid (fun (hp : p3 = false) => show Lib.trimPrefix r4 [34] = r4 by unfold Lib.trimPrefix; rw [hp3, hp]; rfl)
              have HL1 := hid (fun (hp : p3 = true) => trimP_len (l := r4) (p := [34]) (by rw [hp3, hp]))
              rw [hp3] at HT5 hvl
              have HVL := hid hvl
              clear hp3 hvl
              go_wp2_with fail
              refine HT5.out.mono ?_
              rintro e w10 ⟨rfl, hp10, g10⟩
              have S10 := hid (S9.out.step hp10 g10)
              clear S9 HT5 hp10 g10
              have d3 := S10.out.dc.bad
              have f3' := S10.out.dc.free3
              go_upto_if 54 with fail
              go_cut [7] (fun v7 wx => QuC w b S r4 cnt full (.slice va acc.length vc) acc A f1 f2 v7 wx)
              case first =>
                cases p3
                · rw [HN1.out rfl] at S10
                  have HVL2 := hid (show valueL r4 = if Lib.hasPrefix r4 [39] then valQ 39 (Lib.trimPrefix r4 [39]) else none from HVL.out)
                  have HT6 := hid (pass_r b S r4 [39] cnt false full w10 S10.out.dc (by omega) (by decide))
                  obtain ⟨p4, hp4⟩ : ∃ p4, Lib.hasPrefix r4 [39] = p4 := ⟨_, rfl⟩
                  have HL2 := hid (fun (hp : p4 = true) => trimP_len (l := r4) (p := [39]) (by rw [hp4, hp]))
                  rw [hp4] at HT6 HVL2
                  clear hp4
                  go_wp2_with fail
                  refine HT6.out.mono ?_
                  rintro e w11 ⟨rfl, hp11, g11⟩
                  have S11 := hid (S10.out.step hp11 g11)
                  clear S10 HT6 hp11 g11 d3 f3'
                  have d3 := S11.out.dc.bad
                  have f3' := S11.out.dc.free3
                  cases p4
                  · have HV := hid (HNO.out (by rw [HONE3.out, HVL2.out]; rfl))
                    go_wp2
                    ((try simp only [Exit.inBlock, Exit.then]); refine bodyPost_ret (results_tmp2 rfl _ _ _) rfl ?_)
                    exact BAD.out w11 acc _ _ _ HV.out S11.out.dc S11.out.gr S11.out.own (by omega)
                  · have hl5 := HL2.out rfl
                    simp only [List.length_cons, List.length_nil] at hl5
                    go_wp2_with fail
                    go_meet
                    exact ⟨39, _, rfl, HVL2.out, S11.out, by omega⟩
                · have hl5 := HL1.out rfl
                  simp only [List.length_cons, List.length_nil] at hl5
                  go_wp2_with fail
                  go_meet
                  exact ⟨34, _, rfl, HVL.out, S10.out, by omega⟩
              case rest =>
                obtain ⟨q, r5, rfl, hvq, hs11, hl5⟩ := hcut
                have S11 := hid hs11
                have HVQ := hid hvq
                clear hs11 hvq S10 d3 f3' HVL HN1 HL1
                have HU := hid (upto_r b S r5 [q] cnt full wc S11.out.dc (by omega) (by simp) (by simp))
                have hcl1 := cut_len r5 [q]
                have hcl2 : (Lib.cut r5 [q]).1.length ≤ r5.length := by
                  unfold Lib.cut; split
                  · simp only [List.length_take]; omega
                  · simp
                have HVQ2 := hid (show valueL r4 = if (Lib.cut r5 [q]).2.2 && !(Lib.cut r5 [q]).1.contains 60 then (unescA (Lib.cut r5 [q]).1).map fun v => (v, (Lib.cut r5 [q]).2.1) else none from HVQ.out)
                unfold UpPost at HU
                generalize Lib.cut r5 [q] = C at *
                obtain ⟨k1, k2, k3⟩ := C
                simp only at hcl1 hcl2
                go_wp2_with fail
                refine HU.out.mono ?_
                rintro e w12 ⟨g12, h12⟩
                have HS : Hid (∃ (v : Bs) (ok0 : Bool) (r6 : Bs), e = .returned (.string ⟨v.toArray⟩) ∧ RS w w12 b S r6 cnt (!ok0) full (.slice va acc.length vc) acc A f1 f2 [] ∧ v.length ≤ 20000 ∧ (ok0 = true → r6.length ≤ r5.length) ∧ valueL r4 = if ok0 && !v.contains 60 then (unescA v).map fun x => (x, r6) else none) := by
                  rcases h12 with ⟨hk, he, hd⟩ | ⟨hk, he, r', hd⟩
                  · exact hid ⟨k1, true, k2, he, S11.out.step hd g12, by omega, (fun _ => by omega), by have hk' : k3 = true := hk; rw [HVQ2.out, hk']⟩
                  · exact hid ⟨[], false, r', he, S11.out.step hd g12, by simp, (fun h => by cases h), by have hk' : k3 = false := hk; rw [HVQ2.out, hk']; rfl⟩
                clear h12 g12 HU HVQ2 HVQ S11
                obtain ⟨v, ok0, r6, rfl, hs12, hvl12, hr6, hval⟩ := HS.out
                have S12 := hid hs12
                have HVAL := hid hval
                have HR6 := hid hr6
                have c3 := hs12.dc.bad
                clear HS hs12 hval hr6
                go_wp2_with fail
                go_loop [9, 10] (fun v9 v10 => ∃ i : Nat, v10 = .int .i64 (i : Int) ∧ i ≤ v.length ∧ v9 = .bool (ok0 && (v.take i).all (fun c => !(60 == c)))) (fun _ v10 => v.length - (intOf v10).toNat)
                case atStart => exact ⟨0, rfl, Nat.zero_le _, by simp⟩
                case round =>
                  obtain ⟨i, rfl, hi, rfl⟩ := hrel
                  by_cases hiv : i < v.length
                  · have hsz : (ByteArray.mk v.toArray).size = v.length := by rw [Lib.size_eq]
                    have hc : (ByteArray.mk v.toArray)[i]'(by rw [hsz]; exact hiv) = v.getD i 0 := by rw [strAt]
                    have hst := hid (xall_snoc v (fun c => !(60 == c)) i hiv)
                    have hb60 : (((v.getD i 0).toNat : Int) != 60) = !(60 == v.getD i 0) := by
                      rw [Bool.eq_iff_iff]
                      simp only [bne_iff_ne, ne_eq, Bool.not_eq_true', beq_eq_false_iff_ne]
                      constructor
                      · exact fun h e => h (by rw [← e]; rfl)
                      · exact fun h e => h (UInt8.toNat_inj.1 (by simpa using (show (60 : Nat) = (v.getD i 0).toNat by omega)))
                    generalize v.getD i 0 = cc at *
                    generalize (!(60 == cc)) = q60 at *
                    obtain ⟨al, hal⟩ : ∃ al, al = (v.take i).all (fun c => !(60 == c)) := ⟨_, rfl⟩
                    rw [← hal] at hst ⊢
                    clear hal
                    obtain ⟨oa, hoa⟩ : ∃ oa, oa = (ok0 && al) := ⟨_, rfl⟩
                    rw [← hoa]
                    have HN := hid (show (ok0 && (v.take (i + 1)).all (fun c => !(60 == c))) = (oa && q60) by rw [hst.out, ← Bool.and_assoc, ← hoa])
                    clear hoa hst c3
                    cases oa
                    · go_wp2
                      go_round
                      case rel => exact ⟨i + 1, by go_num, by omega, by rw [HN.out]; rfl⟩
                      case measure => simp [intOf]; omega
                    · go_wp2
                      go_round
                      case rel => exact ⟨i + 1, by go_num, by omega, by rw [HN.out]; rfl⟩
                      case measure => simp [intOf]; omega
                  · obtain rfl : i = v.length := by omega
                    rw [List.take_length]
                    have HCN := hid (show v.contains 60 = !v.all (fun c => !(60 == c)) by
                      rw [Bool.eq_iff_iff]
                      simp [List.all_eq_true])
                    have HST := hid (stands_r v w12 (by omega))
                    unfold EntPost at HST
                    generalize v.all (fun c => !(60 == c)) = al at *
                    generalize unescA v = U at *
                    clear hi hiv c3
                    go_wp2_with fail
                    refine HST.out.mono ?_
                    rintro e w13 ⟨rfl, g13⟩
                    have S13 := hid (S12.out.grow g13)
                    clear g13 HST S12
                    obtain ⟨c0, c1, c2, q0, q1, q2⟩ := S13.out.cells
                    have S14 := hid (S13.out.set 2 (.string ⟨(U.getD []).toArray⟩) f1 f2 (U.getD []) rfl)
                    unfold str
                    go_wp2_with fail
                    obtain ⟨oa, hoa⟩ : ∃ oa, oa = (ok0 && al) := ⟨_, rfl⟩
                    rw [← hoa]
                    have HOA := hid hoa
                    clear hoa c0 c1 c2 q0 q1 q2 S13
                    obtain ⟨z, hz⟩ : ∃ z, z = U.getD [] := ⟨_, rfl⟩
                    rw [← hz] at S14 ⊢
                    have HZ := hid hz
                    clear hz
                    generalize w13.setCell _ _ = w14 at *
                    go_loopw [9, 13] (fun v9 v13 wx => ∃ j : Nat, v13 = .int .i64 (j : Int) ∧ j ≤ acc.length ∧ v9 = .bool (oa && !(acc.take j).any (sameF (f1, f2, z))) ∧ RS w wx b S r6 cnt (!ok0) full (.slice va acc.length vc) acc A f1 f2 z) (fun _ v13 _ => acc.length - (intOf v13).toNat)
                    case atStart => exact ⟨0, rfl, Nat.zero_le _, by simp, S14.out⟩
                    case round =>
                      obtain ⟨j, rfl, hj, rfl, hS⟩ := hrel
                      have S15 := hid hS
                      clear hS S14
                      by_cases hjl : j < acc.length
                      · obtain ⟨g2, cap2, hg2, -, hg3, -, -, hcell⟩ := own_tri S15.out.own (by omega)
                        simp only [Value.slice.injEq] at hg2
                        obtain ⟨rfl, -, rfl⟩ := hg2
                        have hT := hcell j hjl
                        have hstep := hid (show (acc.take (j + 1)).any (sameF (f1, f2, z)) = ((acc.take j).any (sameF (f1, f2, z)) || sameF (f1, f2, z) (acc.getD j at0)) by
                          rw [take_snoc_at acc j hjl, List.any_append]; simp)
                        generalize acc.getD j at0 = t at *
                        obtain ⟨t1, t2, t3⟩ := t
                        have e0 := hT.c0
                        have e1 := hT.c1
                        simp only at e0 e1
                        obtain ⟨c0, c1, c2, q0, q1, q2⟩ := S15.out.cells
                        obtain ⟨an, han⟩ : ∃ an, an = (acc.take j).any (sameF (f1, f2, z)) := ⟨_, rfl⟩
                        rw [← han] at hstep ⊢
                        obtain ⟨ob, hob⟩ : ∃ ob, ob = (oa && !an) := ⟨_, rfl⟩
                        rw [← hob]
                        have HOB := hid hob
                        have hj0 : (0 : Int) ≤ (j : Int) := by omega
                        have hj1 : (j : Int) < (acc.length : Int) := by omega
                        clear hT hcell han hob
                        have HNX := hid (show (oa && !(acc.take (j + 1)).any (sameF (f1, f2, z))) = (ob && !(decide (t1 = f1) && decide (t2 = f2))) by
                          rw [hstep.out, HOB.out, Bool.not_or, ← Bool.and_assoc]; rfl)
                        clear hstep
                        cases ob
                        · go_wp2_with fail
                          go_quiet (fail)
                          have S16 := hid (S15.out.grow (gr_drewN nq (gr_refl _ _)))
                          go_wp2
                          go_roundw
                          case rel => exact ⟨j + 1, by go_num, by omega, by rw [HNX.out]; rfl, S16.out⟩
                          case measure => simp [intOf]; omega
                        · by_cases h1 : t1 = f1
                          · have hb1 : (t1 != f1) = false := by simp [h1]
                            have hb1' : (t1 == f1) = true := by simp [h1]
                            by_cases h2 : t2 = f2
                            · have hb2 : (t2 != f2) = false := by simp [h2]
                              have hb2' : (t2 == f2) = true := by simp [h2]
                              have HX := hid (HNX.out.trans (show (true && !(decide (t1 = f1) && decide (t2 = f2))) = false by rw [decide_eq_true h1, decide_eq_true h2]; rfl))
                              clear h1 h2
                              go_wp2_with fail
                              go_quiet (fail)
                              have S16 := hid (S15.out.grow (gr_drewN nq (gr_refl _ _)))
                              go_wp2
                              go_roundw
                              case rel => exact ⟨j + 1, by go_num, by omega, by rw [HX.out], S16.out⟩
                              case measure => simp [intOf]; omega
                            · have hb2 : (t2 != f2) = true := by simpa using h2
                              have hb2' : (t2 == f2) = false := by simpa using h2
                              have HX := hid (HNX.out.trans (show (true && !(decide (t1 = f1) && decide (t2 = f2))) = true by rw [decide_eq_true h1, decide_eq_false h2]; rfl))
                              clear h1 h2
                              go_wp2_with fail
                              go_quiet (fail)
                              have S16 := hid (S15.out.grow (gr_drewN nq (gr_refl _ _)))
                              go_wp2
                              go_roundw
                              case rel => exact ⟨j + 1, by go_num, by omega, by rw [HX.out], S16.out⟩
                              case measure => simp [intOf]; omega
                          · have hb1 : (t1 != f1) = true := by simpa using h1
                            have hb1' : (t1 == f1) = false := by simpa using h1
                            have HX := hid (HNX.out.trans (show (true && !(decide (t1 = f1) && decide (t2 = f2))) = true by rw [decide_eq_false h1]; rfl))
                            clear h1
                            go_wp2_with fail
                            go_quiet (fail)
                            have S16 := hid (S15.out.grow (gr_drewN nq (gr_refl _ _)))
                            go_wp2
                            go_roundw
                            case rel => exact ⟨j + 1, by go_num, by omega, by rw [HX.out], S16.out⟩
                            case measure => simp [intOf]; omega
                      · obtain rfl : j = acc.length := by omega
                        rw [List.take_length]
                        have HVA := hid (show O1 = if oa then U.map (fun x => ((f1, f2, x), r6)) else none by
                          rw [HONE3.out, HVAL.out, HCN.out, Bool.not_not, ← HOA.out]
                          cases oa
                          · rfl
                          · cases U <;> rfl)
                        have hal2 : acc.length ≤ 100000 := by omega
                        have d3 := S15.out.dc.bad
                        have f3' := S15.out.dc.free3
                        obtain ⟨dup, hdup⟩ : ∃ dup, dup = acc.any (sameF (f1, f2, z)) := ⟨_, rfl⟩
                        rw [← hdup]
                        have HDUP := hid hdup
                        clear hdup hj hjl HVAL HONE3 HCN
                        cases oa
                        · have HV := hid (HNO.out HVA.out)
                          go_wp2
                          ((try simp only [Exit.inBlock, Exit.then]); refine bodyPost_ret (results_tmp2 rfl _ _ _) rfl ?_)
                          exact BAD.out wr acc _ _ _ HV.out S15.out.dc S15.out.gr S15.out.own hal2
                        · cases U with
                          | none =>
                            have HV := hid (HNO.out HVA.out)
                            cases dup
                            all_goals
                              go_wp2
                              ((try simp only [Exit.inBlock, Exit.then]); refine bodyPost_ret (results_tmp2 rfl _ _ _) rfl ?_)
                              exact BAD.out wr acc _ _ _ HV.out S15.out.dc S15.out.gr S15.out.own hal2
                          | some x =>
                            obtain rfl : z = x := HZ.out
                            have HY := hid (HYES.out _ _ HVA.out)
                            rw [← HDUP.out] at HY
                            cases dup
                            · have HY2 := hid (show attrsL n r6 (acc ++ [(f1, f2, z)]) = R from HY.out)
                              have hok0 : ok0 = true := by have := HOA.out; simp only [Bool.true_eq, Bool.and_eq_true] at this; exact this.1
                              have hl6 := HR6.out hok0
                              have S16 := hid S15.out
                              rw [hok0] at S16
                              obtain ⟨c0, c1, c2, q0, q1, q2⟩ := S16.out.cells
                              have hbs := S16.out.gr.size
                              have hok := hid hok0
                              clear hok0 S15 HY HYES HNO
                              go_wp2_with (at_builtin; refine wpList_append_own _ rfl _ _ 197 rfl w.heap.size 201 i0 _ 3 48 Tryz.underlying197 hi hz0 hz1 hz2 rfl (by decide) _ _ _ rfl (S16.out.own.alloc _) ⟨wr.heap.size, 0, none⟩ 1 1 [.string ⟨f1.toArray⟩, .string ⟨f2.toArray⟩, .string ⟨z.toArray⟩] rfl rfl ?c1 ?c2 ?c3 ?c4 ?c5 ?_)
                              case c2 => first | exact ⟨rfl, rfl, rfl⟩ | (intro u hu; simp at hu; rcases hu with rfl | rfl | rfl <;> rfl)
                              case c3 => unfold maxLen; omega
                              case c4 => omega
                              case c5 => first | omega | (simp; omega)
                              · intro v' w17 hown' hgrow _
                                have S17 := hid (S16.out.grow (gr_alloc (gr_refl _ _) (.cells #[.string ⟨f1.toArray⟩, .string ⟨f2.toArray⟩, .string ⟨z.toArray⟩] 201)))
                                have D17 : Hid (DcR w17 b S r6 cnt false full) := by
                                  obtain ⟨i7, h7, h8, h9⟩ := S17.out.dc
                                  exact hid ⟨i7, h7, h8, keep_own S17.out.own hgrow h9 (by decide)⟩
                                have G17 := hid (gr_own S17.out.gr S17.out.own (Nat.le_refl _) hgrow)
                                have HP0 := hid (dcJ_of D17.out)
                                clear hgrow c0 c1 c2 q0 q1 q2
                                go_wp2
                                go_roundw
                                case rel => exact ⟨r6, n, acc ++ [(f1, f2, z)], D17.out, G17.out, by rw [List.length_append, tri_snoc]; exact hown', HY2.out, by omega, by rw [List.length_append]; simp only [List.length_cons, List.length_nil]; omega⟩
                                case measure => rw [HP0.out, HPJ.out]; omega
                            · have HV := hid (show R = none from HY.out.symm)
                              go_wp2
                              ((try simp only [Exit.inBlock, Exit.then]); refine bodyPost_ret (results_tmp2 rfl _ _ _) rfl ?_)
                              exact BAD.out wr acc _ _ _ HV.out S15.out.dc S15.out.gr S15.out.own hal2
end Go.Proofs.YtmofnoconhgjmaaGreatDoor
