/- hearthref16.rest, Response, Ask: the same bytes. -/
import Derived.Test.YtldbcdiomkkinaaGreatDoorHq1
import Derived.Test.YtldbcdiomkkinaaGreatDoorHq2
import Derived.Deep.QuietTactic
import Derived.BigQuiet
namespace Go.Proofs.YtldbcdiomkkinaaGreatDoor
open Go.RowKit

def flatW (fs : List (List UInt8 × List UInt8)) : List UInt8 := fs.flatMap fun f => lineF f ++ [13, 10]
def restL (fs : List (List UInt8 × List UInt8)) (body : List UInt8) (close : Bool) : List UInt8 :=
  flatW fs ++ (clenL body.length ++ [13, 10]) ++ (if close then connL ++ [13, 10] else []) ++ [13, 10] ++ body
theorem tail_turn (sep : List UInt8) : ∀ r : List (List UInt8), Lib.joinTail sep r ++ sep = sep ++ (r.map (· ++ sep)).flatten
  | [] => by simp [Lib.joinTail]
  | x :: r => by
    have ih := tail_turn sep r
    unfold Lib.joinTail at ih ⊢
    rw [List.map_cons, List.flatten_cons, List.append_assoc, ih, List.map_cons, List.flatten_cons]
    simp
theorem write_rest (first : List UInt8) (fs : List (List UInt8 × List UInt8)) (body : List UInt8) (close : Bool) : writeL first fs body close = first ++ [13, 10] ++ restL fs body close := by
  have h := tail_turn [13, 10] (fs.map lineF ++ [clenL body.length] ++ (if close then [connL] else []))
  unfold writeL rowsW restL flatW
  rw [List.cons_append, List.cons_append, Lib.join_cons]
  rw [show first ++ Lib.joinTail [13, 10] (fs.map lineF ++ [clenL body.length] ++ (if close then [connL] else [])) ++ [13, 10, 13, 10] ++ body = first ++ (Lib.joinTail [13, 10] (fs.map lineF ++ [clenL body.length] ++ (if close then [connL] else [])) ++ [13, 10]) ++ [13, 10] ++ body by simp, h]
  cases close <;> simp [List.flatMap_def, List.map_map, Function.comp_def]
theorem flatW_len : ∀ fs : List (List UInt8 × List UInt8), (∀ f ∈ fs, f.1.length ≤ 1000 ∧ f.2.length ≤ 1000) → (flatW fs).length ≤ fs.length * 2004
  | [], _ => by simp [flatW]
  | f :: fs, h => by
    have ih := flatW_len fs (fun g hg => h g (List.mem_cons_of_mem _ hg))
    have hf := h f (List.mem_cons_self ..)
    unfold flatW lineF at ih ⊢
    simp only [List.flatMap_cons, List.length_append, List.length_cons, List.length_nil, Nat.succ_mul] at ih ⊢
    omega
theorem flatW_snoc (fs : List (List UInt8 × List UInt8)) {j : Nat} (hj : j < fs.length) : flatW (fs.take (j + 1)) = flatW (fs.take j) ++ (lineF (fs.getD j ([], [])) ++ [13, 10]) := by
  unfold flatW
  rw [List.take_add_one, List.getElem?_eq_getElem hj, List.getD_eq_getElem?_getD, List.getElem?_eq_getElem hj, List.flatMap_append]
  simp
def RsR (w : World) (fs : List (List UInt8 × List UInt8)) (v7 v8 : Value) (wr : World) : Prop :=
  ∃ j : Nat, j ≤ fs.length ∧ v8 = .int .i64 (j : Int) ∧ v7 = .string ⟨(flatW (fs.take j)).toArray⟩ ∧ w.grownBy wr none
set_option maxRecDepth 20000 in
set_option maxHeartbeats 4000000 in
theorem rrest (fs : List (List UInt8 × List UInt8)) (body : List UInt8) (close : Bool) (fa : Option Addr) (fc : Nat) (vb : Value) (w : World) (hp : PairsAt w fa fs.length (fsN fs) (fsV fs)) (hb : Bytes w vb body)
    (h2 : fs.length ≤ 200) (h3 : ∀ f ∈ fs, f.1.length ≤ 1000 ∧ f.2.length ≤ 1000) (h4 : body.length ≤ 100000) :
    Calls Tryz.prog 27 #[.slice fa fs.length fc, vb, .bool close] w fun e w' => e = .returned (.string ⟨(restL fs body close).toArray⟩) ∧ w.grownBy w' none := by
  obtain ⟨ba, bc, rfl, hb1, hb2, -⟩ := id hb
  have HP := hid hp
  have HB := hid hb
  have H3 := hid h3
  clear hp hb h3
  go_enter Tryz.func27, Tryz.ntmps27
  go_wp2_with fail
  go_loopw [7, 8] (fun v7 v8 wr => RsR w fs v7 v8 wr) (fun _ v8 _ => fs.length - (intOf v8).toNat)
  case atStart => exact ⟨0, Nat.zero_le _, rfl, rfl, gr_refl _ _⟩
  case round =>
    obtain ⟨j, hj, rfl, rfl, hg⟩ := hrel
    have HG := hid hg
    have hal := flatW_len (fs.take j) (fun f hf => H3.out f (List.mem_of_mem_take hf))
    have hal2 : (flatW (fs.take j)).length ≤ 400800 := Nat.le_trans hal (Nat.le_trans (Nat.mul_le_mul_right 2004 (show (fs.take j).length ≤ 200 by rw [List.length_take]; omega)) (by decide))
    by_cases hjn : j < fs.length
    · obtain ⟨b, o, rfl, hpc⟩ : ∃ b o, fa = some ⟨b, o, none⟩ ∧ ∀ i, i < fs.length → PairAt w b (o + i * 2) (fsN fs i) (fsV fs i) := by
        rcases HP.out with h | h
        · omega
        · exact h
      obtain ⟨c0, c1⟩ := (hpc j hjn).grown HG.out
      have hf3 := H3.out (fs.getD j ([], [])) (by rw [List.getD_eq_getElem?_getD, List.getElem?_eq_getElem hjn]; exact List.getElem_mem hjn)
      have hn1 : (fsN fs j).size ≤ 1000 := by unfold fsN; rw [Lib.size_eq]; simpa using hf3.1
      have hn2 : (fsV fs j).size ≤ 1000 := by unfold fsV; rw [Lib.size_eq]; simpa using hf3.2
      have HNX := hid (show ((⟨(flatW (fs.take j)).toArray⟩ : ByteArray) ++ (fsN fs j ++ (⟨#[58, 32]⟩ : ByteArray) ++ fsV fs j ++ (⟨#[13, 10]⟩ : ByteArray))) = ⟨(flatW (fs.take (j + 1))).toArray⟩ by
        rw [flatW_snoc fs hjn]
        unfold fsN fsV lineF
        rw [app_arr, app_arr, app_arr, app_arr])
      have hasz : (⟨(flatW (fs.take j)).toArray⟩ : ByteArray).size ≤ 400800 := by rw [Lib.size_eq]; simpa using hal2
      generalize (⟨(flatW (fs.take j)).toArray⟩ : ByteArray) = A at HNX hasz ⊢
      generalize fsN fs j = s1 at *
      generalize fsV fs j = s2 at *
      have q1 : ¬ 9223372036854775807 < s1.size + 2 := by omega
      have q2 : ¬ 9223372036854775807 < s1.size + 2 + s2.size := by omega
      have q3 : ¬ 9223372036854775807 < s1.size + 2 + s2.size + 2 := by omega
      have q4 : ¬ 9223372036854775807 < A.size + (s1.size + 2 + s2.size + 2) := by omega
      have hjn' : (j : Int) < (fs.length : Int) := by omega
      clear hpc hf3 hal hal2 hasz hn1 hn2 hg
      go_wp2_with fail
      go_quiet (fail)
      go_wp2_with fail
      rw [HNX.out]
      go_roundw
      case rel => exact ⟨j + 1, by omega, by first | go_num | (congr 1; omega), rfl, gr_drewN _ HG.out⟩
      case measure => simp [intOf]; omega
    · obtain rfl : j = fs.length := by omega
      have HNX := hid (show restL fs body close = flatW (fs.take fs.length) ++ (clenL body.length ++ [13, 10]) ++ (if close then connL ++ [13, 10] else []) ++ [13, 10] ++ body by rw [List.take_length]; rfl)
      clear hal hg
      obtain ⟨A, hA⟩ : ∃ A, A = flatW (fs.take fs.length) := ⟨_, rfl⟩
      rw [← hA] at HNX hal2 ⊢
      clear hA
      go_wp2_with fail
      refine (rdigits_all body.length (by omega) wr).mono ?_
      rintro e w2 ⟨rfl, g2⟩
      have hil := dd_len body.length (by omega)
      obtain ⟨it, hit⟩ : ∃ it, it = Lib.decDigits body.length := ⟨_, rfl⟩
      have HCL := hid (show clenL body.length = [67, 79, 78, 84, 69, 78, 84, 45, 76, 69, 78, 71, 84, 72, 58, 32] ++ it by unfold clenL; rw [Lib.itoa_nonneg, hit])
      rw [← hit] at hil ⊢
      have HG2 := hid (gr_trans HG.out g2)
      have HBC := hid (run_b2s (w := w2) Tryz.underlying22 Tryz.underlying5 Tryz.underlying9 (HB.out.grown HG2.out))
      have q1 : ¬ 9223372036854775807 < 16 + it.length := by omega
      have q2 : ¬ 9223372036854775807 < 16 + it.length + 2 := by omega
      have q3 : ¬ 9223372036854775807 < A.length + (16 + it.length + 2) := by omega
      clear hit g2
      unfold str at HBC ⊢
      cases close
      · have q4 : ¬ 9223372036854775807 < A.length + (16 + it.length + 2) + 2 := by omega
        have q5 : ¬ 9223372036854775807 < A.length + (16 + it.length + 2) + 2 + body.length := by omega
        have HFN := hid (show ((⟨A.toArray⟩ : ByteArray) ++ ((⟨#[67, 79, 78, 84, 69, 78, 84, 45, 76, 69, 78, 71, 84, 72, 58, 32]⟩ : ByteArray) ++ (⟨it.toArray⟩ : ByteArray) ++ (⟨#[13, 10]⟩ : ByteArray)) ++ (⟨#[13, 10]⟩ : ByteArray) ++ (⟨body.toArray⟩ : ByteArray)) = ⟨(restL fs body false).toArray⟩ by
          rw [HNX.out, HCL.out, app_arr, app_arr, app_arr, app_arr, app_arr]; simp)
        clear HCL HNX hal2 hil
        go_wp2_with fail
        rw [HBC.out]
        go_simp
        go_wp2_with fail
        rw [HFN.out]
        go_ret
        exact ⟨rfl, HG2.out⟩
      · have q4 : ¬ 9223372036854775807 < A.length + (16 + it.length + 2) + 19 := by omega
        have q5 : ¬ 9223372036854775807 < A.length + (16 + it.length + 2) + 19 + 2 := by omega
        have q6 : ¬ 9223372036854775807 < A.length + (16 + it.length + 2) + 19 + 2 + body.length := by omega
        have HFN := hid (show ((⟨A.toArray⟩ : ByteArray) ++ ((⟨#[67, 79, 78, 84, 69, 78, 84, 45, 76, 69, 78, 71, 84, 72, 58, 32]⟩ : ByteArray) ++ (⟨it.toArray⟩ : ByteArray) ++ (⟨#[13, 10]⟩ : ByteArray)) ++ (⟨#[67, 79, 78, 78, 69, 67, 84, 73, 79, 78, 58, 32, 99, 108, 111, 115, 101, 13, 10]⟩ : ByteArray) ++ (⟨#[13, 10]⟩ : ByteArray) ++ (⟨body.toArray⟩ : ByteArray)) = ⟨(restL fs body true).toArray⟩ by
          rw [HNX.out, HCL.out, app_arr, app_arr, app_arr, app_arr, app_arr, app_arr]; simp [connL])
        clear HCL HNX hal2 hil
        go_wp2_with fail
        rw [HBC.out]
        go_simp
        go_wp2_with fail
        rw [HFN.out]
        go_ret
        exact ⟨rfl, HG2.out⟩
end Go.Proofs.YtldbcdiomkkinaaGreatDoor
