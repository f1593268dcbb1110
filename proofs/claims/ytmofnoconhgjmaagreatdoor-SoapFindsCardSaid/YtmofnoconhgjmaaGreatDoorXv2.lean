/- xml.quoted; strings.ReplaceAll of one byte. -/
import Derived.Test.YtmofnoconhgjmaaGreatDoorMW
import Derived.Test.YtmofnoconhgjmaaGreatDoorRp6
import Derived.Lib.Replace
import Derived.Lib.ReplaceLaws
namespace Go.Proofs.YtmofnoconhgjmaaGreatDoor
open Go.RowKit
set_option linter.unusedVariables false
set_option linter.unusedSimpArgs false

theorem ba_ap (a b : Bs) : ((⟨a.toArray⟩ : ByteArray) ++ (⟨b.toArray⟩ : ByteArray)) = ⟨(a ++ b).toArray⟩ := by
  apply ByteArray.ext
  simp
theorem map_len6 {m : UInt8 → Bs} (h : ∀ c, (m c).length ≤ 6) (s : Bs) : (s.flatMap m).length ≤ s.length * 6 := by
  induction s with
  | nil => exact Nat.le_refl _
  | cons c s ih =>
    rw [List.flatMap_cons, List.length_append, List.length_cons]
    have := h c
    omega
theorem esc_len6 (s : Bs) : (escL s).length ≤ s.length * 6 := map_len6 (m := rpC escP) (all_bytes (by decide +kernel)) s
theorem qC_len : ∀ c, (qC c).length ≤ 6 := all_bytes (by decide +kernel)
theorem tC_len : ∀ c, (tC c).length ≤ 6 := all_bytes (by decide +kernel)
theorem quoL_len (s : Bs) : (quoL s).length ≤ s.length * 6 + 2 := by
  have := map_len6 qC_len s
  unfold quoL
  rw [List.length_cons, List.length_append, List.length_cons, List.length_nil]
  omega
theorem txtL_len (s : Bs) : (txtL s).length ≤ s.length * 6 := map_len6 tC_len s
theorem idx_none (s : Bs) (q : UInt8) (h : ∀ d ∈ s, d ≠ q) : Lib.index s [q] = -1 := by
  induction s with
  | nil => rfl
  | cons x l ih =>
    rw [idx_cons x q l (h x (List.mem_cons_self ..)), ih fun d hd => h d (List.mem_cons_of_mem _ hd), if_pos rfl]
/-- All of one byte is replaced. -/
theorem replK_one (q : UInt8) (new : Bs) : ∀ (f : Nat) (s : Bs), s.length < f → Lib.replaceK [q] new (Lib.countFrom [q] f s) s = s.flatMap fun c => if c = q then new else [c] := by
  have hfree : ∀ x : Bs, (∀ d ∈ x, d ≠ q) → (x.flatMap fun c => if c = q then new else [c]) = x := by
    intro x hx
    induction x with
    | nil => rfl
    | cons c x ih => rw [List.flatMap_cons, if_neg (hx c (List.mem_cons_self ..)), ih fun d hd => hx d (List.mem_cons_of_mem _ hd)]; rfl
  intro f
  induction f with
  | zero => intro s h; omega
  | succ f ih =>
    intro s h
    by_cases hm : q ∈ s
    · obtain ⟨x, r, rfl, hx⟩ := List.eq_append_cons_of_mem hm
      have hx' : ∀ d ∈ x, d ≠ q := fun d hd e => hx (e ▸ hd)
      have hi := idx_free x q r hx'
      have hne : (Lib.index (x ++ q :: r) [q] == -1) = false := by rw [hi, beq_eq_false_iff_ne]; omega
      have hd : (x ++ q :: r).drop (x.length + 1) = r := by
        rw [List.drop_append]
        simp
      unfold Lib.countFrom
      rw [hne, hi, Int.toNat_natCast, List.length_singleton, hd]
      simp only [Bool.false_eq_true, if_false]
      rw [Nat.add_comm 1, Lib.replaceK_hit [q] new _ _ x.length hi, List.length_singleton, hd, List.take_left, ih r (by simp at h; omega), List.flatMap_append, List.flatMap_cons, if_pos rfl, hfree x hx', List.append_assoc]
    · have hx' : ∀ d ∈ s, d ≠ q := fun d hd e => hm (e ▸ hd)
      unfold Lib.countFrom
      rw [idx_none s q hx', hfree s hx']
      rfl
theorem replA_cr (s : Bs) : Lib.replaceAll s [13] [38, 35, 49, 51, 59] = repL crP s := by
  have h1 : Lib.replaceAll s [13] [38, 35, 49, 51, 59] = s.flatMap fun c => if c = 13 then [38, 35, 49, 51, 59] else [c] := by
    unfold Lib.replaceAll Lib.replace
    rw [if_neg (by decide)]
    unfold Lib.replaceNum
    rw [if_pos (.inl (by decide))]
    exact replK_one 13 _ _ s (Nat.lt_succ_self _)
  rw [h1]
  unfold repL
  congr 1
  funext c
  revert c
  exact all_bytes (by decide +kernel)
set_option maxRecDepth 100000 in
set_option maxHeartbeats 4000000 in
theorem quoted_x (w : World) (s : Bs) (hs : s.length ≤ 15000) : Calls Tryz.prog 93 #[.string ⟨s.toArray⟩] w fun e w' => e = .returned (.string ⟨(quoL s).toArray⟩) ∧ w.grownBy w' none := by
  have HQ := hid (quoL_rep s)
  have HQL := hid (show (repL qP (escL s)).length ≤ 1000000 by
    have h1 := quoL_len s
    rw [quoL_rep, List.length_cons, List.length_append] at h1
    omega)
  have HLE := hid (show (escL s).length ≤ 100000 by have := esc_len6 s; omega)
  have ESC := hid (fun W => escape_x W s (by omega))
  rw [show repL escP s = escL s from rfl] at ESC
  generalize escL s = E at *
  have G1 := hid (gr_alloc (gr_refl w none) (.cells #[.string ⟨#[9]⟩, .string ⟨#[38, 35, 57, 59]⟩, .string ⟨#[10]⟩, .string ⟨#[38, 35, 49, 48, 59]⟩, .string ⟨#[13]⟩, .string ⟨#[38, 35, 49, 51, 59]⟩] 9))
  have N1 := heap_alloc_new w (.cells #[.string ⟨#[9]⟩, .string ⟨#[38, 35, 57, 59]⟩, .string ⟨#[10]⟩, .string ⟨#[38, 35, 49, 48, 59]⟩, .string ⟨#[13]⟩, .string ⟨#[38, 35, 49, 51, 59]⟩] 9)
  have NR := hid (new_rep _ (some ⟨w.heap.size, 0, none⟩) 6 qP (.inr ⟨_, rfl, fun j u hj => by
    rw [Go.WideShapes.add_plain, Nat.zero_add, cell_of_block N1 j, ← hj]
    simp [rpoV, rpoL, qP]⟩) (by decide) (by decide))
  rw [show (rpoL qP).length = 6 from rfl] at NR
  have RR := hid (fun (W : World) (b g c : Nat) (h1 : RpB W b 0 0 .nilIface (.slice (some ⟨g, 0, none⟩) (rpoL qP).length c)) (h2 : SrAt W g 0 (rpoL qP)) (h3 : g ≠ b) => rp_replace W b g 0 c qP E h1 h2 h3 (by decide) (by decide) (by decide) (by decide) HLE.out)
  clear N1 hs
  go_enter Tryz.func93, Tryz.ntmps93
  go_wp2_with fail
  refine NR.out.mono ?_
  rintro e w2 ⟨b, g, c, rfl, h1, h2, h3, g2, hlo⟩
  have HP := hid (And.intro h1 (And.intro h2 h3))
  have G2 := hid (gr_trans G1.out g2)
  have HLO := hid (Nat.le_trans G1.out.size hlo)
  clear h1 h2 h3 g2 hlo NR
  go_wp2_with fail
  refine (ESC.out w2).mono ?_
  rintro e w3 ⟨rfl, g3⟩
  have CALL := hid (RR.out w3 b g c (gr_keep g3 HP.out.1 (by simp)) (fun j s h => g3.cell (HP.out.2.1 j s h) (by simp)) HP.out.2.2)
  have G3 := hid (gr_trans G2.out g3)
  clear g3 ESC RR HP
  go_wp2_with fail
  refine CALL.out.mono ?_
  rintro e w4 ⟨rfl, g4⟩
  have G4 := hid (gr_new G3.out g4 HLO.out)
  clear g4 CALL
  have hl1 : ¬ 9223372036854775807 < 1 + (repL qP E).length := by have := HQL.out; omega
  have hl2 : ¬ 9223372036854775807 < 1 + (repL qP E).length + 1 := by have := HQL.out; omega
  go_wp2_with fail
  go_ret
  refine ⟨?_, G4.out⟩
  rw [HQ.out]
  exact congrArg (fun b => Ending.returned (Value.string b)) (((congrArg (· ++ (⟨#[34]⟩ : ByteArray)) (ba_ap [34] (repL qP E))).trans (ba_ap _ [34])).trans rfl)
/-- How a text is written. -/
theorem text_x (w : World) (s : Bs) (m : Int) (hm : w.cell? ⟨0, 0, none⟩ = some (.int .i64 m)) (hs : s.length ≤ 15000) : Calls Tryz.prog 94 #[.string ⟨(escL s).toArray⟩, .string ⟨#[13]⟩, .string ⟨#[38, 35, 49, 51, 59]⟩] w fun e w' => e = .returned (.string ⟨(txtL s).toArray⟩) ∧ w.grownBy w' none := by
  have hl := esc_len6 s
  have hsz : (⟨(escL s).toArray⟩ : ByteArray).size ≤ 90000 := by rw [Lib.size_eq]; simp; omega
  have hc : Lib.countB ⟨(escL s).toArray⟩ ⟨#[13]⟩ ≤ 1000000 := by
    have := Lib.countB_mul_le ⟨#[13]⟩ (by decide) _ _ (Nat.le_refl (⟨(escL s).toArray⟩ : ByteArray).size)
    rw [show (⟨#[13]⟩ : ByteArray).size = 1 from rfl] at this
    omega
  refine (Tryz.strings_ReplaceAll ⟨(escL s).toArray⟩ ⟨#[13]⟩ ⟨#[38, 35, 49, 51, 59]⟩ m w (by omega) hm (by decide) (by rw [show (⟨#[38, 35, 49, 51, 59]⟩ : ByteArray).size = 5 from rfl]; omega)).mono ?_
  rintro e w' ⟨rfl, hb⟩
  refine ⟨?_, gr_of_below hb⟩
  rw [txtL_rep, ← replA_cr]
end Go.Proofs.YtmofnoconhgjmaaGreatDoor
