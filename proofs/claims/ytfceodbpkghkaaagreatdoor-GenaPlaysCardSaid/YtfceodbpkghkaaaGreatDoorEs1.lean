/- hearthref17.change, Escape (as Xt2, without the texts of chapter 17). -/
import Derived.Test.YtfceodbpkghkaaaGreatDoorRp6
import Derived.Test.YtfceodbpkghkaaaGreatDoorMH
namespace Go.Proofs.YtfceodbpkghkaaaGreatDoor
open Go.RowKit
set_option linter.unusedVariables false
set_option linter.unusedSimpArgs false

abbrev Bs := List UInt8
abbrev escL (s : Bs) : Bs := repL escP s
theorem escL_cons (c : UInt8) (s : Bs) : escL (c :: s) = rpC escP c ++ escL s := rfl
def chC (b : UInt8) (t : Bs) (c : UInt8) : Bs := if c = b then t else [c]
def chL (l : Bs) (b : UInt8) (t : Bs) : Bs := l.flatMap (chC b t)
theorem chL_len (l : Bs) (b : UInt8) (t : Bs) : (chL l b t).length ≤ l.length * (t.length + 1) := by
  induction l with
  | nil => exact Nat.zero_le _
  | cons c l ih =>
    unfold chL at ih ⊢
    rw [List.flatMap_cons, List.length_append, List.length_cons, Nat.add_mul]
    have : (chC b t c).length ≤ t.length + 1 := by unfold chC; split <;> simp
    omega
theorem chL_take (l : Bs) (b : UInt8) (t : Bs) (i : Nat) (c : UInt8) (h : l[i]? = some c) : chL (l.take (i + 1)) b t = chL (l.take i) b t ++ chC b t c := by
  unfold chL
  rw [List.take_add_one, h, List.flatMap_append]
  simp
theorem ba_app3 (a b : List UInt8) : ((⟨a.toArray⟩ : ByteArray) ++ (⟨b.toArray⟩ : ByteArray)) = ⟨(a ++ b).toArray⟩ := by
  apply ByteArray.ext
  simp
theorem ext_one (l : Bs) (i : Nat) (c : UInt8) (h : l[i]? = some c) : (⟨l.toArray⟩ : ByteArray).extract i (i + 1) = ⟨#[c]⟩ := by
  apply ByteArray.ext
  have hi := (List.getElem?_eq_some_iff.1 h).1
  have := (List.getElem?_eq_some_iff.1 h).2
  apply Array.ext'
  simp [List.extract_eq_take_drop]
  rw [List.drop_eq_getElem_cons hi, this]
  rfl
set_option maxRecDepth 20000 in
set_option maxHeartbeats 4000000 in
theorem change_r (w : World) (l t : Bs) (b : UInt8) (hl : l.length ≤ 3000000) (ht : t.length ≤ 10) :
    Calls Tryz.prog 74 #[.string ⟨l.toArray⟩, .int .u8 (b.toNat : Int), .string ⟨t.toArray⟩] w fun e w' => e = .returned (.string ⟨(chL l b t).toArray⟩) ∧ w = w' := by
  obtain ⟨S, hS⟩ : ∃ S, S = (⟨l.toArray⟩ : ByteArray) := ⟨_, rfl⟩
  have hss : S.size = l.length := by rw [hS, Lib.size_eq]
  obtain ⟨T, hT⟩ : ∃ T, T = (⟨t.toArray⟩ : ByteArray) := ⟨_, rfl⟩
  have hts : T.size ≤ 10 := by rw [hT, Lib.size_eq]; simpa using ht
  have hs1 : S.size ≤ 3000000 := by omega
  rw [← hS, ← hT]
  have HS := hid hS
  have HT := hid hT
  have HSS := hid hss
  have HB := hid (And.intro hl ht)
  clear hS hT hss hl ht
  go_enter Tryz.func74, Tryz.ntmps74
  go_wp2_with fail
  go_loop [7, 8] (fun v7 v8 => ∃ (i : Nat) (O : ByteArray), v8 = .int .i64 (i : Int) ∧ i ≤ l.length ∧ v7 = .string O ∧ Hid (O = ⟨(chL (l.take i) b t).toArray⟩)) (fun _ v8 => l.length - (intOf v8).toNat)
  case atStart => exact ⟨0, _, rfl, Nat.zero_le _, rfl, hid rfl⟩
  case round =>
    obtain ⟨i, O, rfl, hi, rfl, hO⟩ := hrel
    have hos : O.size ≤ 40000000 := by
      rw [hO.out, Lib.size_eq]
      have h1 := chL_len (l.take i) b t
      have h2 : (l.take i).length ≤ 3000000 := Nat.le_trans (List.length_take_le' _ _) HB.out.1
      have h3 : (l.take i).length * (t.length + 1) ≤ 3000000 * 11 := Nat.mul_le_mul h2 (by have := HB.out.2; omega)
      simp only
      omega
    by_cases hlt : i < l.length
    · obtain ⟨c, hc⟩ : ∃ c, l[i]? = some c := ⟨_, List.getElem?_eq_getElem hlt⟩
      have hSi : i < S.size := by rw [HSS.out]; exact hlt
      have hsc : S[i]'hSi = c := by
        have h1 := HS.out
        subst h1
        rw [List.getElem?_eq_getElem hlt] at hc
        exact Option.some.inj hc
      have hex : S.extract i (i + 1) = ⟨#[c]⟩ := by rw [HS.out]; exact ext_one l i c hc
      have HTK := hid (chL_take l b t i c hc)
      have hi2 : (i : Int) + 1 ≤ 3000001 := by have := HB.out.1; omega
      have hi0 : (0 : Int) ≤ (i : Int) := by omega
      have hi3 : i + 1 ≤ S.size := by omega
      have hg1 : ¬ 9223372036854775807 < O.size + T.size := by omega
      have hg2 : ¬ 9223372036854775807 < O.size + 1 := by omega
      clear hc
      by_cases hb : c = b
      · have hbb : ((c.toNat : Int) == (b.toNat : Int)) = true := by rw [hb]; simp
        have HN := hid (show O ++ T = ⟨(chL (l.take (i + 1)) b t).toArray⟩ by rw [HTK.out, hO.out, HT.out, ba_app3]; unfold chC; rw [if_pos hb])
        clear hb hos hts hs1
        go_wp2_with fail
        go_round
        case rel => exact ⟨i + 1, _, by go_num, by omega, rfl, HN⟩
        case measure => simp [intOf]; omega
      · have hbb : ((c.toNat : Int) == (b.toNat : Int)) = false := by
          rw [beq_eq_false_iff_ne]
          intro e
          exact hb (UInt8.toNat_inj.1 (by omega))
        have HN := hid (show O ++ ⟨#[c]⟩ = ⟨(chL (l.take (i + 1)) b t).toArray⟩ by rw [HTK.out, hO.out, show (⟨#[c]⟩ : ByteArray) = ⟨([c] : Bs).toArray⟩ from rfl, ba_app3]; unfold chC; rw [if_neg hb])
        clear hb hos hts hs1
        go_wp2_with fail
        go_round
        case rel => exact ⟨i + 1, _, by go_num, by omega, rfl, HN⟩
        case measure => simp [intOf]; omega
    · obtain rfl : l.length = i := by omega
      have HF := hid (show O = ⟨(chL l b t).toArray⟩ by rw [hO.out, List.take_length])
      have hge : ¬ l.length < S.size := by rw [HSS.out]; omega
      clear hO hi hlt hos
      go_wp2_with fail
      go_ret
      exact ⟨by rw [HF.out]; rfl, rfl⟩
theorem esc_byte : ∀ c, ((((chC 38 [38, 97, 109, 112, 59] c).flatMap (chC 60 [38, 108, 116, 59])).flatMap (chC 62 [38, 103, 116, 59])).flatMap (chC 34 [38, 113, 117, 111, 116, 59])) = rpC escP c := all_bytes (by decide +kernel)
theorem esc_ch (s : Bs) : chL (chL (chL (chL s 38 [38, 97, 109, 112, 59]) 60 [38, 108, 116, 59]) 62 [38, 103, 116, 59]) 34 [38, 113, 117, 111, 116, 59] = escL s := by
  unfold chL
  rw [List.flatMap_assoc, List.flatMap_assoc, List.flatMap_assoc]
  show _ = repL escP s
  unfold repL
  congr 1
  funext c
  rw [← List.flatMap_assoc, ← List.flatMap_assoc]
  exact esc_byte c
theorem escL_len (s : Bs) : (escL s).length ≤ s.length * 6 := by
  have h : ∀ c, (rpC escP c).length ≤ 6 := all_bytes (by decide +kernel)
  induction s with
  | nil => exact Nat.zero_le _
  | cons c s ih => rw [escL_cons, List.length_append, List.length_cons]; have := h c; omega
set_option maxRecDepth 20000 in
theorem rescape_any (w : World) (s : Bs) (hs : s.length ≤ 10000) : Calls Tryz.prog 36 #[.string ⟨s.toArray⟩] w fun e w' => e = .returned (.string ⟨(escL s).toArray⟩) ∧ w = w' := by
  have L1 := chL_len s 38 [38, 97, 109, 112, 59]
  have L2 := chL_len (chL s 38 [38, 97, 109, 112, 59]) 60 [38, 108, 116, 59]
  have L3 := chL_len (chL (chL s 38 [38, 97, 109, 112, 59]) 60 [38, 108, 116, 59]) 62 [38, 103, 116, 59]
  simp only [List.length_cons, List.length_nil, Nat.zero_add, Nat.reduceAdd] at L1 L2 L3
  have C1 := hid (fun W => change_r W s [38, 97, 109, 112, 59] 38 (by omega) (by decide))
  have C2 := hid (fun W => change_r W (chL s 38 [38, 97, 109, 112, 59]) [38, 108, 116, 59] 60 (by omega) (by decide))
  have C3 := hid (fun W => change_r W (chL (chL s 38 [38, 97, 109, 112, 59]) 60 [38, 108, 116, 59]) [38, 103, 116, 59] 62 (by omega) (by decide))
  have C4 := hid (fun W => change_r W (chL (chL (chL s 38 [38, 97, 109, 112, 59]) 60 [38, 108, 116, 59]) 62 [38, 103, 116, 59]) [38, 113, 117, 111, 116, 59] 34 (by omega) (by decide))
  rw [esc_ch] at C4
  clear L1 L2 L3
  go_enter Tryz.func36, Tryz.ntmps36
  go_wp2_with fail
  refine (C1.out w).mono ?_
  rintro e w' ⟨rfl, rfl⟩
  go_wp2_with fail
  refine (C2.out w).mono ?_
  rintro e w' ⟨rfl, rfl⟩
  go_wp2_with fail
  refine (C3.out w).mono ?_
  rintro e w' ⟨rfl, rfl⟩
  go_wp2_with fail
  refine (C4.out w).mono ?_
  rintro e w' ⟨rfl, rfl⟩
  go_wp2_with fail
  go_ret
  exact ⟨rfl, rfl⟩
end Go.Proofs.YtfceodbpkghkaaaGreatDoor
