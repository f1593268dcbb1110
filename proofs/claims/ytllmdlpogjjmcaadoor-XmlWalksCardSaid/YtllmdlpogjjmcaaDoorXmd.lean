/- xml.unescape. -/
import Derived.Test.YtllmdlpogjjmcaaDoorXmc
namespace Go.Proofs.YtllmdlpogjjmcaaDoor
open Go.RowKit
set_option linter.unusedVariables false

theorem index_le (s : List UInt8) : ∀ l : List UInt8, -1 ≤ Lib.index l s ∧ (0 ≤ Lib.index l s → Lib.index l s + s.length ≤ l.length) := by
  intro l
  induction l with
  | nil =>
    unfold Lib.index
    cases s with
    | nil => simp
    | cons _ _ => simp
  | cons x l ih =>
    unfold Lib.index
    split
    · rename_i h
      have := (List.isPrefixOf_iff_prefix.1 h).length_le
      exact ⟨by omega, fun _ => by omega⟩
    · split
      · exact ⟨by omega, fun h => by omega⟩
      · rename_i h
        have h' : Lib.index l s ≠ -1 := by simpa using h
        refine ⟨by omega, fun h0 => ?_⟩
        have := ih.2 (by omega)
        simp only [List.length_cons]
        omega
theorem cut_lens {l s : List UInt8} (h : (Lib.cut l s).2.2 = true) : (Lib.cut l s).1.length + s.length + (Lib.cut l s).2.1.length = l.length := by
  have h1 := index_le s l
  unfold Lib.cut at h ⊢
  by_cases h0 : 0 ≤ Lib.index l s
  · rw [if_pos h0]
    have := h1.2 h0
    simp only [List.length_take, List.length_drop]
    omega
  · rw [if_neg h0] at h; cases h
/-- What a text stands for. -/
def unesc : Nat → List UInt8 → Option (List UInt8)
  | 0, _ => none
  | n + 1, s => if (Lib.cut s [38]).2.2 then (if (Lib.cut (Lib.cut s [38]).2.1 [59]).2.2 then (entL (Lib.cut (Lib.cut s [38]).2.1 [59]).1).bind fun e => (unesc n (Lib.cut (Lib.cut s [38]).2.1 [59]).2.1).map fun o => (Lib.cut s [38]).1 ++ e ++ o else none) else some (Lib.cut s [38]).1
def unescA (s : List UInt8) : Option (List UInt8) := unesc (s.length + 1) s
theorem enc_len (r : Int) : (Lib.encodeRune r).length ≤ 4 := by
  unfold Lib.encodeRune Lib.encodeRuneZ
  rw [List.length_map]
  split
  · simp
  · split
    · simp
    · split
      · simp
      · split <;> simp
theorem chrO_len {q : Int × Bool} {e : List UInt8} (h : chrO q = some e) : e.length ≤ 4 := by
  unfold chrO at h
  split at h
  · cases h; exact enc_len _
  · cases h
theorem entL_len {s e : List UInt8} (h : entL s = some e) : e.length ≤ 4 := by
  unfold entL entD entH at h
  repeat' split at h
  all_goals first
    | (cases h; done)
    | (cases h; simp; done)
    | exact chrO_len h
theorem BldAt.keep {B b : Nat} {l : List UInt8} {w w' : World} (h : BldAt B b l w) (g : w.grownBy w' none) : BldAt B b l w' := by
  obtain ⟨hB, v, hb, hown, hne⟩ := h
  exact ⟨hB, v, gr_keep g hb (by simp), hown.kept g (by cases hv : v.ownBlock <;> simp), hne⟩
theorem bld_new (w : World) : IsBld w.heap.size w.heap.size [] (w.alloc (.cells #[.pointer none, .slice none 0 0] 103)) :=
  .inl ⟨Nat.le_refl _, .slice none 0 0, heap_alloc_new w _, ⟨rfl, .inl ⟨rfl, rfl⟩⟩, by simp [Value.ownBlock]⟩
theorem IsBld.keep {B b : Nat} {l : List UInt8} {w w' : World} (h : IsBld B b l w) (g : w.grownBy w' none) : IsBld B b l w' := by
  rcases h with ⟨hB, v, hb, hown, hne⟩ | ⟨hB, v, hb, hown, hne⟩
  · exact .inl ⟨hB, v, gr_keep g hb (by simp), hown.kept g (by cases hv : v.ownBlock <;> simp), hne⟩
  · exact .inr ⟨hB, v, gr_keep g hb (by simp), hown.kept g (by cases hv : v.ownBlock <;> simp), hne⟩
theorem gr_bel {w W W2 : World} {B : Nat} (hB : B = w.heap.size) (g : w.grownBy W none) (h : Below B W W2) : w.grownBy W2 none := by
  subst hB; exact gr_of_below ((gr_below g).trans h)
set_option maxRecDepth 20000 in
set_option maxHeartbeats 2000000 in
theorem unescape_x (s : List UInt8) (m : Int) (w : World) (hm : w.cell? ⟨0, 0, none⟩ = some (.int .i64 m)) (hs : s.length ≤ 100000) : Calls Tryd.prog 45 #[.string ⟨s.toArray⟩] w (EntPost w (unescA s)) := by
  obtain ⟨R, hR⟩ : ∃ R, unescA s = R := ⟨_, rfl⟩
  rw [hR]
  have HR := hid hR
  have HM := hid hm
  have HN := hid (bld_new w)
  have G0 := hid (show w.grownBy (w.alloc (.cells #[.pointer none, .slice none 0 0] 103)) none from gr_alloc (gr_refl _ _) _)
  clear hR hm
  go_enter Tryd.func45, Tryd.ntmps45
  go_wp2_with fail
  go_loopw [0] (fun v0 wr => ∃ r n l, v0 = .string ⟨r.toArray⟩ ∧ IsBld w.heap.size w.heap.size l wr ∧ w.grownBy wr none ∧ Hid ((unesc n r).map (l ++ ·) = R) ∧ r.length < n ∧ l.length + 4 * r.length ≤ 400000) (fun v0 _ => match v0 with | .string t => t.size | _ => 0)
  case atStart => exact ⟨s, s.length + 1, [], rfl, HN.out, G0.out, by have := HR.out; unfold unescA at this; rw [← this]; simp [hid], by omega, by simp; omega⟩
  case round =>
    obtain ⟨r, n, l, rfl, hbl, gw, hun, hn, hle⟩ := hrel
    obtain ⟨n, rfl⟩ : ∃ k, n = k + 1 := ⟨n - 1, by omega⟩
    have hun' := hun.out
    unfold unesc at hun'
    have HC := hid (Tryd.strings_Cut ⟨r.toArray⟩ ⟨#[38]⟩ m wr (by rw [Lib.size_eq]; simp; omega) (gw.cell HM.out (by simp)))
    rw [show (ByteArray.mk r.toArray).data.toList = r from rfl, show (ByteArray.mk #[38]).data.toList = [38] from rfl] at HC
    have hl1 := cut_lens (l := r) (s := [38])
    have hl0 : (Lib.cut r [38]).1.length ≤ r.length := by
      unfold Lib.cut; split
      · simp only [List.length_take]; omega
      · simp
    generalize Lib.cut r [38] = c at *
    obtain ⟨c1, c2, c3⟩ := c
    have hbs := gw.size
    have HW := hid (fun W (h : IsBld w.heap.size w.heap.size l W) (hb : w.heap.size ≤ W.heap.size) => wstr_x w.heap.size w.heap.size l c1 W h (by simp only at hl0; omega) hb)
    have HBL := hid hbl
    have GW := hid gw
    clear hun hbl gw
    go_wp2_with fail
    refine HC.out.mono ?_
    rintro e w1 ⟨rfl, k1, rfl⟩
    have HB1 := hid (HBL.out.keep (gr_drewN k1 (gr_refl _ _)))
    have G1 := hid (gr_drewN k1 GW.out)
    have hs1 := G1.out.size
    revert HB1 G1 hs1
    generalize wr.drewN k1 = w1
    intro HB1 G1 hs1
    go_wp2_with fail
    refine (HW.out w1 HB1.out (by omega)).mono ?_
    rintro e w2 ⟨⟨v2, rfl⟩, hb2, hbel2⟩
    have G2 := hid (gr_bel rfl G1.out hbel2)
    have hs2 := G2.out.size
    cases c3
    · have HS := hid (Tryd.Builder_String_any w.heap.size w.heap.size (l ++ c1) w2 (.inr hb2) (by omega))
      go_wp2_with fail
      refine HS.out.mono ?_
      rintro e w3 ⟨rfl, hbel3⟩
      go_wp2
      ((try simp only [Exit.inBlock, Exit.then]); refine bodyPost_ret (results_tmp2 rfl _ _ _) rfl ?_)
      rw [← hun']
      exact ⟨rfl, gr_bel rfl G2.out hbel3⟩
    · have hl1' := hl1 rfl
      simp only [List.length_cons, List.length_nil] at hl1'
      have HC2 := hid (Tryd.strings_Cut ⟨c2.toArray⟩ ⟨#[59]⟩ m w2 (by rw [Lib.size_eq]; simp; omega) (G2.out.cell HM.out (by simp)))
      rw [show (ByteArray.mk c2.toArray).data.toList = c2 from rfl, show (ByteArray.mk #[59]).data.toList = [59] from rfl] at HC2
      have hl2 := cut_lens (l := c2) (s := [59])
      simp only [if_true] at hun'
      generalize Lib.cut c2 [59] = d at *
      obtain ⟨d1, d2, d3⟩ := d
      have HB2 := hid hb2
      clear hb2 hbel2 hl1
      go_wp2_with fail
      refine HC2.out.mono ?_
      rintro e w3 ⟨rfl, k3, rfl⟩
      have HB3 := hid (HB2.out.keep (gr_drewN k3 (gr_refl _ _)))
      have G3 := hid (gr_drewN k3 G2.out)
      have hs3 := G3.out.size
      revert HB3 G3 hs3
      generalize w2.drewN k3 = w3
      intro HB3 G3 hs3
      cases d3
      · go_wp2
        ((try simp only [Exit.inBlock, Exit.then]); refine bodyPost_ret (results_tmp2 rfl _ _ _) rfl ?_)
        rw [← hun']
        exact ⟨rfl, G3.out⟩
      · have hl2' := hl2 rfl
        simp only [List.length_cons, List.length_nil] at hl2'
        have HEN := hid (entity_x d1 w3 (by omega))
        have hel := fun e h => entL_len (s := d1) (e := e) h
        unfold EntPost at HEN
        simp only [if_true] at hun'
        generalize entL d1 = E at *
        go_wp2_with fail
        refine HEN.out.mono ?_
        rintro e w4 ⟨rfl, g4⟩
        have G4 := hid (gr_trans G3.out g4)
        have HB4 := hid (HB3.out.keep g4)
        have hs4 := G4.out.size
        cases E with
        | none =>
          unfold str
          go_wp2
          ((try simp only [Exit.inBlock, Exit.then]); refine bodyPost_ret (results_tmp2 rfl _ _ _) rfl ?_)
          rw [← hun']
          exact ⟨rfl, G4.out⟩
        | some x =>
          have hxl := hel x rfl
          have HW2 := hid (wstr_x w.heap.size w.heap.size (l ++ c1) x w4 (.inr HB4.out) (by rw [List.length_append]; omega) hs4)
          unfold str
          simp only [Option.getD_some, Option.isSome_some]
          go_wp2_with fail
          refine HW2.out.mono ?_
          rintro e w5 ⟨⟨v5, rfl⟩, hb5, hbel5⟩
          have G5 := hid (gr_bel rfl G4.out hbel5)
          have HB5 := hid hb5
          clear hb5 hbel5
          go_wp2
          go_roundw
          case rel =>
            refine ⟨d2, n, l ++ c1 ++ x, rfl, .inr HB5.out, G5.out, ?_, by omega, by simp only [List.length_append]; omega⟩
            rw [← hun']
            simp only [Option.bind_some, Option.map_map]
            refine hid (congrArg (fun f => Option.map f (unesc n d2)) ?_)
            funext o
            simp [Function.comp]
          case measure =>
            show (ByteArray.mk d2.toArray).size < (ByteArray.mk r.toArray).size
            rw [Lib.size_eq, Lib.size_eq]
            show d2.length < r.length
            omega
end Go.Proofs.YtllmdlpogjjmcaaDoor
