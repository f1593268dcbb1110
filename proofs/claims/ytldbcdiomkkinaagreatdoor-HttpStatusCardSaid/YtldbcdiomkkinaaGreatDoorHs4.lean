/- HttpStatus: the walk. -/
import Derived.Test.YtldbcdiomkkinaaGreatDoorHs3
import Derived.Test.YtldbcdiomkkinaaGreatDoorHty
namespace Go.Proofs.YtldbcdiomkkinaaGreatDoor
open Go.RowKit

theorem i64_and16 (n : Int) : bits .and .i64 n 65535 = n % 65536 := by
  have h1 : (BitVec.ofInt 64 65535).toNat = 2 ^ 16 - 1 := by decide
  have key : (BitVec.ofInt 64 n &&& BitVec.ofInt 64 65535).toNat = (n % ((2 ^ 64 : Nat) : Int)).toNat % 2 ^ 16 := by
    rw [BitVec.toNat_and, BitVec.toNat_ofInt, h1, Nat.and_two_pow_sub_one_eq_mod]
  show IntKind.i64.wrap ((BitVec.ofInt 64 n &&& BitVec.ofInt 64 65535).toNat : Nat) = _
  rw [key, IntKind.wrap_i64]
  omega
def xyL : List (List UInt8 × List UInt8) := [([88], [121])]
theorem xy_pairs {w : World} {g : Nat} (h : w.heap[g]? = some (.cells #[.string ⟨#[88]⟩, .string ⟨#[121]⟩] 26 (0, 0))) : PairsAt w (some ⟨g, 0, none⟩) xyL.length (fsN xyL) (fsV xyL) := by
  refine .inr ⟨g, 0, rfl, fun i hi => ?_⟩
  obtain rfl : i = 0 := by simpa [xyL] using hi
  exact ⟨(cell_of_block h 0).trans rfl, (cell_of_block h 1).trans rfl⟩
theorem resp_shape (n : Int) (body : List UInt8) : ∃ R, respL n xyL body true = firstR (stN n) ++ 13 :: 10 :: R := write_shape _ _ _ _
theorem resp_len (n : Int) (body : List UInt8) (hb : body.length ≤ 3000) : (respL n xyL body true).length ≤ 60000 := by
  unfold respL writeL
  rw [List.length_append, List.length_append]
  have hst := stN_le n
  have hf := (first_len hst.1 hst.2).2
  have := join_len [13, 10] 4096 (rowsW (firstR (stN n)) xyL body.length (!true)) (by
    intro x hx
    unfold rowsW at hx
    have hi := itoa_len body.length (by omega)
    simp [xyL, lineF, clenL] at hx
    rcases hx with rfl | rfl | rfl
    · omega
    · decide
    · simp; omega)
  have hr : (rowsW (firstR (stN n)) xyL body.length (!true)).length = 3 := rfl
  rw [hr] at this
  simp at this ⊢
  omega
theorem respL_get (F R : List UInt8) {j : Nat} (h : 10 ∉ F) (hj : j < F.length + 1) : (F ++ 13 :: 10 :: R).getD j 0 ≠ 10 := by
  rw [show F ++ 13 :: 10 :: R = (F ++ [13]) ++ 10 :: R by simp, List.getD_eq_getElem?_getD, List.getElem?_append_left (by simp; omega), List.getElem?_eq_getElem (by simp; omega)]
  intro e
  have hm : (F ++ [13])[j]'(by simp; omega) ∈ F ++ [13] := List.getElem_mem _
  rw [show (F ++ [13])[j]'(by simp; omega) = 10 from e] at hm
  simp only [List.mem_append, List.mem_singleton] at hm
  rcases hm with h1 | h1
  · exact h h1
  · exact absurd h1 (by decide)
theorem respL_nl (F R : List UInt8) : (F ++ 13 :: 10 :: R).getD (F.length + 1) 0 = 10 := by
  rw [show F ++ 13 :: 10 :: R = (F ++ [13]) ++ 10 :: R by simp, List.getD_eq_getElem?_getD, List.getElem?_append_right (by simp)]
  simp
set_option maxRecDepth 20000 in
set_option maxHeartbeats 4000000 in
theorem status_walk (n : Int) (body : List UInt8) (v1 : Value) (cut mx : Int) (w : World) (hv : Bytes w v1 body) (hm : w.cell? ⟨0, 0, none⟩ = some (.int .i64 mx)) (h10 : P10 w) :
    Calls Tryz.prog 3 #[.int .i64 n, v1, .int .i64 cut] w fun e w' => e = .returned (.bool true) ∧ w.grownBy w' none := by
  obtain ⟨a1, c1, rfl, hc1, hm1, -⟩ := id hv
  have HV := hid hv
  have HM := hid hm
  have HT := hid h10
  clear hv hm h10
  by_cases hl1 : 3000 < body.length
  · have hb1 : decide ((3000 : Int) < (body.length : Int)) = true := by simp; omega
    go_enter Tryz.func3, Tryz.ntmps3
    go_wp2_with fail
    refine (speaks_http w mx HM.out).mono ?_
    rintro e w1 ⟨rfl, g1⟩
    go_wp2_with fail
    go_ret
    exact ⟨rfl, g1⟩
  · have hb1 : decide ((3000 : Int) < (body.length : Int)) = false := by simp; omega
    have hst := stN_le n
    obtain ⟨R, hR⟩ := resp_shape n body
    have hrl := resp_len n body (by omega)
    obtain ⟨m, hmq⟩ : ∃ m, m = stN n := ⟨_, rfl⟩
    rw [← hmq] at hst hR
    have HNM := hid (show (100 ≤ n ∧ n ≤ 999 → n = (m : Int)) ∧ (¬ (100 ≤ n ∧ n ≤ 999) → m = 500) by
      constructor
      · intro h; rw [hmq]; unfold stN; rw [if_pos h]; omega
      · intro h; rw [hmq]; unfold stN; rw [if_neg h])
    have HST := hid hst
    have HR := hid hR
    have HLAW := hid (stat_law hst.1 hst.2 R)
    have HN10 := hid (first_no10 hst.1 hst.2)
    have HFL := hid (first_len hst.1 hst.2)
    have HRL := hid hrl
    clear hmq hst hR hrl
    go_enter Tryz.func3, Tryz.ntmps3
    go_wp2_with fail
    refine (speaks_http w mx HM.out).mono ?_
    rintro e w1 ⟨rfl, g1⟩
    have hN := heap_alloc_new w1 (.cells #[.string ⟨#[88]⟩, .string ⟨#[121]⟩] 26)
    have g2 := World.grownBy_alloc w1 (.cells #[.string ⟨#[88]⟩, .string ⟨#[121]⟩] 26) none
    go_wp2_with fail
    revert hN g2
    generalize w1.alloc _ = w2
    intro hN g2
    have G2 := hid (gr_trans g1 g2)
    have HP := hid (xy_pairs hN)
    clear hN g1 g2
    refine (response_http n xyL body true _ _ _ w2 HP.out (HV.out.grown G2.out) (by decide) (by decide) (by omega) (HT.out.grown G2.out)).mono ?_
    rintro e w3 ⟨v3, rfl, hbo, g3⟩
    rw [HR.out] at hbo
    have G3 := hid (gr_trans G2.out g3)
    have hne : firstR m ++ 13 :: 10 :: R ≠ [] := by simp
    have hby := hbo.bytes
    obtain ⟨F, hF⟩ : ∃ F, F = firstR m := ⟨_, rfl⟩
    rw [← hF] at hby HLAW HN10 HFL HR hne
    clear hF hbo g3 G2 HP
    obtain ⟨b, hbq⟩ : ∃ b, b = F ++ 13 :: 10 :: R := ⟨_, rfl⟩
    rw [← hbq] at hby hne HLAW HR
    rw [HR.out] at HRL
    have HB := hid hby
    have HBQ := hid hbq
    have hlb : F.length + 1 < b.length := by rw [hbq]; simp
    obtain ⟨a3, c3, rfl, hc3, hm3, h3⟩ := hby
    obtain ⟨g, off, rfl, hcell⟩ := h3 hne
    have HC := hid hcell
    obtain ⟨L, hL⟩ : ∃ L, L = b.length := ⟨_, rfl⟩
    have HL := hid hL
    obtain ⟨f, hf⟩ : ∃ f, f = F.length + 1 := ⟨_, rfl⟩
    have HF := hid hf
    rw [← hL] at hc3 hlb ⊢
    rw [← hf] at hlb
    clear hbq hne hcell hL hf
    by_cases h1 : n < 100
    · have hmm := HNM.out.2 (fun h => by omega)
      go_wp2_with fail
      rw [show (500 : Int) = (m : Int) by rw [hmm]; rfl]
      go_loop [9] (fun v9 => ∃ j : Nat, j ≤ f ∧ v9 = .int .i64 (j : Int)) (fun v9 => f - (intOf v9).toNat)
      case atStart => exact ⟨0, Nat.zero_le _, rfl⟩
      case round =>
        obtain ⟨j, hj, rfl⟩ := hrel
        have hLb : L ≤ 60000 := by rw [HL.out]; exact HRL.out
        have hjL : (j : Int) < (L : Int) := by omega
        have hc := HC.out j (by rw [← HL.out]; omega)
        by_cases hjf : j < f
        · have hx : b.getD j 0 ≠ 10 := by rw [HBQ.out]; exact respL_get F R HN10.out (by rw [← HF.out]; exact hjf)
          obtain ⟨x, hxq⟩ : ∃ x, x = b.getD j 0 := ⟨_, rfl⟩
          rw [← hxq] at hc hx
          have z : ((x.toNat : Int) != 10) = true := ne_of_byte (n := 10) (by omega) hx
          clear hx hxq
          go_wp2_with fail
          go_round
          case rel => exact ⟨j + 1, by omega, by first | go_num | (congr 1; omega)⟩
          case measure => simp [intOf]; omega
        · obtain rfl : j = f := by omega
          have hx : b.getD j 0 = 10 := by rw [HBQ.out, HF.out]; exact respL_nl F R
          rw [hx] at hc
          replace hc : w3.cell? ⟨g, off + j, none⟩ = some (.int .u8 10) := hc
          have hand := i64_and16 cut
          obtain ⟨kk, hkk⟩ : ∃ kk : Nat, (kk : Int) = cut % 65536 := ⟨(cut % 65536).toNat, by omega⟩
          rw [← hkk] at hand
          have hkb : (kk : Int) ≤ 65535 := by omega
          have htm : (kk : Int).tmod ((L : Int) + 1) = ((kk % (L + 1) : Nat) : Int) := by rw [Int.tmod_eq_emod_of_nonneg (by omega)]; simp
          obtain ⟨k, hkd⟩ : ∃ k, k = kk % (L + 1) := ⟨_, rfl⟩
          have hkL : k ≤ L := by rw [hkd]; have := Nat.mod_lt kk (show 0 < L + 1 by omega); omega
          rw [← hkd] at htm
          clear hkk hkd hx hjf
          have HLW := hid (HLAW.out k (by rw [← HL.out]; exact hkL))
          have HBP := hid (show Bytes w3 (.slice (some ⟨g, off, none⟩) k c3) (b.take k) from Bytes.part (n := L) (by rw [HL.out]; exact HB.out) k hkL)
          have HLT := hid (show (b.take k).length ≤ 1000000 by rw [List.length_take]; omega)
          go_wp2_with fail
          refine (status_http (b.take k) _ w3 HBP.out (.inr ⟨_, _, _, rfl⟩) HLT.out).mono ?_
          rintro e w4 ⟨rfl, g4⟩
          rw [HLW.out]
          have G4 := hid (gr_trans G3.out g4)
          have HFJ := HF.out
          by_cases hkf : k ≤ j
          · rw [if_pos (by omega)]
            clear HFJ hand htm hc g4
            go_wp2_with fail
            go_ret
            exact ⟨rfl, G4.out⟩
          · rw [if_neg (by omega)]
            clear HFJ hand htm hc g4
            go_wp2_with fail
            go_ret
            exact ⟨rfl, G4.out⟩
    · by_cases h9 : 999 < n
      · have hmm := HNM.out.2 (fun h => by omega)
        go_wp2_with fail
        rw [show (500 : Int) = (m : Int) by rw [hmm]; rfl]
        go_loop [9] (fun v9 => ∃ j : Nat, j ≤ f ∧ v9 = .int .i64 (j : Int)) (fun v9 => f - (intOf v9).toNat)
        case atStart => exact ⟨0, Nat.zero_le _, rfl⟩
        case round =>
          obtain ⟨j, hj, rfl⟩ := hrel
          have hLb : L ≤ 60000 := by rw [HL.out]; exact HRL.out
          have hjL : (j : Int) < (L : Int) := by omega
          have hc := HC.out j (by rw [← HL.out]; omega)
          by_cases hjf : j < f
          · have hx : b.getD j 0 ≠ 10 := by rw [HBQ.out]; exact respL_get F R HN10.out (by rw [← HF.out]; exact hjf)
            obtain ⟨x, hxq⟩ : ∃ x, x = b.getD j 0 := ⟨_, rfl⟩
            rw [← hxq] at hc hx
            have z : ((x.toNat : Int) != 10) = true := ne_of_byte (n := 10) (by omega) hx
            clear hx hxq
            go_wp2_with fail
            go_round
            case rel => exact ⟨j + 1, by omega, by first | go_num | (congr 1; omega)⟩
            case measure => simp [intOf]; omega
          · obtain rfl : j = f := by omega
            have hx : b.getD j 0 = 10 := by rw [HBQ.out, HF.out]; exact respL_nl F R
            rw [hx] at hc
            replace hc : w3.cell? ⟨g, off + j, none⟩ = some (.int .u8 10) := hc
            have hand := i64_and16 cut
            obtain ⟨kk, hkk⟩ : ∃ kk : Nat, (kk : Int) = cut % 65536 := ⟨(cut % 65536).toNat, by omega⟩
            rw [← hkk] at hand
            have hkb : (kk : Int) ≤ 65535 := by omega
            have htm : (kk : Int).tmod ((L : Int) + 1) = ((kk % (L + 1) : Nat) : Int) := by rw [Int.tmod_eq_emod_of_nonneg (by omega)]; simp
            obtain ⟨k, hkd⟩ : ∃ k, k = kk % (L + 1) := ⟨_, rfl⟩
            have hkL : k ≤ L := by rw [hkd]; have := Nat.mod_lt kk (show 0 < L + 1 by omega); omega
            rw [← hkd] at htm
            clear hkk hkd hx hjf
            have HLW := hid (HLAW.out k (by rw [← HL.out]; exact hkL))
            have HBP := hid (show Bytes w3 (.slice (some ⟨g, off, none⟩) k c3) (b.take k) from Bytes.part (n := L) (by rw [HL.out]; exact HB.out) k hkL)
            have HLT := hid (show (b.take k).length ≤ 1000000 by rw [List.length_take]; omega)
            go_wp2_with fail
            refine (status_http (b.take k) _ w3 HBP.out (.inr ⟨_, _, _, rfl⟩) HLT.out).mono ?_
            rintro e w4 ⟨rfl, g4⟩
            rw [HLW.out]
            have G4 := hid (gr_trans G3.out g4)
            have HFJ := HF.out
            by_cases hkf : k ≤ j
            · rw [if_pos (by omega)]
              clear HFJ hand htm hc g4
              go_wp2_with fail
              go_ret
              exact ⟨rfl, G4.out⟩
            · rw [if_neg (by omega)]
              clear HFJ hand htm hc g4
              go_wp2_with fail
              go_ret
              exact ⟨rfl, G4.out⟩
      · have hmm := HNM.out.1 ⟨by omega, by omega⟩
        subst hmm
        go_wp2_with fail
        go_loop [9] (fun v9 => ∃ j : Nat, j ≤ f ∧ v9 = .int .i64 (j : Int)) (fun v9 => f - (intOf v9).toNat)
        case atStart => exact ⟨0, Nat.zero_le _, rfl⟩
        case round =>
          obtain ⟨j, hj, rfl⟩ := hrel
          have hLb : L ≤ 60000 := by rw [HL.out]; exact HRL.out
          have hjL : (j : Int) < (L : Int) := by omega
          have hc := HC.out j (by rw [← HL.out]; omega)
          by_cases hjf : j < f
          · have hx : b.getD j 0 ≠ 10 := by rw [HBQ.out]; exact respL_get F R HN10.out (by rw [← HF.out]; exact hjf)
            obtain ⟨x, hxq⟩ : ∃ x, x = b.getD j 0 := ⟨_, rfl⟩
            rw [← hxq] at hc hx
            have z : ((x.toNat : Int) != 10) = true := ne_of_byte (n := 10) (by omega) hx
            clear hx hxq
            go_wp2_with fail
            go_round
            case rel => exact ⟨j + 1, by omega, by first | go_num | (congr 1; omega)⟩
            case measure => simp [intOf]; omega
          · obtain rfl : j = f := by omega
            have hx : b.getD j 0 = 10 := by rw [HBQ.out, HF.out]; exact respL_nl F R
            rw [hx] at hc
            replace hc : w3.cell? ⟨g, off + j, none⟩ = some (.int .u8 10) := hc
            have hand := i64_and16 cut
            obtain ⟨kk, hkk⟩ : ∃ kk : Nat, (kk : Int) = cut % 65536 := ⟨(cut % 65536).toNat, by omega⟩
            rw [← hkk] at hand
            have hkb : (kk : Int) ≤ 65535 := by omega
            have htm : (kk : Int).tmod ((L : Int) + 1) = ((kk % (L + 1) : Nat) : Int) := by rw [Int.tmod_eq_emod_of_nonneg (by omega)]; simp
            obtain ⟨k, hkd⟩ : ∃ k, k = kk % (L + 1) := ⟨_, rfl⟩
            have hkL : k ≤ L := by rw [hkd]; have := Nat.mod_lt kk (show 0 < L + 1 by omega); omega
            rw [← hkd] at htm
            clear hkk hkd hx hjf
            have HLW := hid (HLAW.out k (by rw [← HL.out]; exact hkL))
            have HBP := hid (show Bytes w3 (.slice (some ⟨g, off, none⟩) k c3) (b.take k) from Bytes.part (n := L) (by rw [HL.out]; exact HB.out) k hkL)
            have HLT := hid (show (b.take k).length ≤ 1000000 by rw [List.length_take]; omega)
            go_wp2_with fail
            refine (status_http (b.take k) _ w3 HBP.out (.inr ⟨_, _, _, rfl⟩) HLT.out).mono ?_
            rintro e w4 ⟨rfl, g4⟩
            rw [HLW.out]
            have G4 := hid (gr_trans G3.out g4)
            have HFJ := HF.out
            by_cases hkf : k ≤ j
            · rw [if_pos (by omega)]
              clear HFJ hand htm hc g4
              go_wp2_with fail
              go_ret
              exact ⟨rfl, G4.out⟩
            · rw [if_neg (by omega)]
              clear HFJ hand htm hc g4
              go_wp2_with fail
              go_ret
              exact ⟨rfl, G4.out⟩
end Go.Proofs.YtldbcdiomkkinaaGreatDoor
