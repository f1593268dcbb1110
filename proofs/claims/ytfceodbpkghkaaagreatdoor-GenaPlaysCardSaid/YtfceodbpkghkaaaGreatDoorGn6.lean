/- hearthref22.Body and what is told of variables, plainly. -/
import Derived.Test.YtfceodbpkghkaaaGreatDoorME
import Derived.Test.YtfceodbpkghkaaaGreatDoorEs1
import Derived.Test.YtfceodbpkghkaaaGreatDoorPairs
namespace Go.Proofs.YtfceodbpkghkaaaGreatDoor
open Go.RowKit
set_option linter.unusedVariables false
set_option linter.unusedSimpArgs false

abbrev Gp := List (Gs × Gs)
def gN (xs : Gp) (i : Nat) : ByteArray := ⟨(xs.getD i ([], [])).1.toArray⟩
def gV (xs : Gp) (i : Nat) : ByteArray := ⟨(xs.getD i ([], [])).2.toArray⟩
def ArgsAt (w : World) (v : Value) (xs : Gp) : Prop := ∃ a c, v = .slice a xs.length c ∧ PairsAt w a xs.length (gN xs) (gV xs)
theorem ArgsAt.grown {w w' : World} {v : Value} {xs : Gp} (h : ArgsAt w v xs) (g : w.grownBy w' none) : ArgsAt w' v xs := by
  obtain ⟨a, c, h1, h4⟩ := h
  exact ⟨a, c, h1, h4.grown g⟩
structure SmP (xs : Gp) : Prop where
  n : xs.length ≤ 20
  each : ∀ x ∈ xs, x.1.length ≤ 100 ∧ x.2.length ≤ 500
def bdA : Gs := [60, 101, 58, 112, 114, 111, 112, 101, 114, 116, 121, 115, 101, 116, 32, 120, 109, 108, 110, 115, 58, 101, 61, 34, 117, 114, 110, 58, 115, 99, 104, 101, 109, 97, 115, 45, 117, 112, 110, 112, 45, 111, 114, 103, 58, 101, 118, 101, 110, 116, 45, 49, 45, 48, 34, 62]
def bdZ : Gs := [60, 47, 101, 58, 112, 114, 111, 112, 101, 114, 116, 121, 115, 101, 116, 62]
def bdM (xs : Gp) : Gs := bdA ++ xs.flatMap oneP
def bodL (xs : Gp) : Gs := bdM xs ++ bdZ
theorem oneP_len (x : Gs × Gs) (h1 : x.1.length ≤ 100) (h2 : x.2.length ≤ 500) : (oneP x).length ≤ 3400 := by
  unfold oneP
  have := escL_len x.2
  unfold escL at this
  simp only [List.length_append]
  simp only [prA, prB, prC, List.length_cons, List.length_nil]
  omega
theorem bdM_len (xs : Gp) (h : ∀ x ∈ xs, x.1.length ≤ 100 ∧ x.2.length ≤ 500) : (bdM xs).length ≤ 60 + xs.length * 3400 := by
  have : (xs.flatMap oneP).length ≤ xs.length * 3400 := by
    induction xs with
    | nil => simp
    | cons x xs ih =>
      rw [List.flatMap_cons, List.length_append, List.length_cons]
      have h1 := h x (List.mem_cons_self ..)
      have := oneP_len x h1.1 h1.2
      have := ih (fun y hy => h y (List.mem_cons_of_mem _ hy))
      omega
  unfold bdM
  rw [List.length_append]
  have : bdA.length = 56 := rfl
  omega
theorem bdM_snoc (xs : Gp) (i : Nat) (hi : i < xs.length) : bdM (xs.take (i + 1)) = bdM (xs.take i) ++ oneP (xs.getD i ([], [])) := by
  unfold bdM
  rw [List.take_add_one, List.getElem?_eq_getElem hi, List.flatMap_append, List.append_assoc, List.getD_eq_getElem?_getD, List.getElem?_eq_getElem hi]
  simp
theorem g_app (a b : Gs) : ((⟨a.toArray⟩ : ByteArray) ++ (⟨b.toArray⟩ : ByteArray)) = ⟨(a ++ b).toArray⟩ := by
  apply ByteArray.ext
  simp
theorem oneP_bytes (x : Gs × Gs) : (((((⟨#[60, 101, 58, 112, 114, 111, 112, 101, 114, 116, 121, 62, 60]⟩ : ByteArray) ++ ⟨x.1.toArray⟩) ++ ⟨#[62]⟩) ++ ⟨(repL escP x.2).toArray⟩) ++ ⟨#[60, 47]⟩) ++ ⟨x.1.toArray⟩ ++ (⟨#[62, 60, 47, 101, 58, 112, 114, 111, 112, 101, 114, 116, 121, 62]⟩ : ByteArray) = ⟨(oneP x).toArray⟩ := by
  apply ByteArray.ext
  simp [oneP, prA, prB, prC]
set_option maxHeartbeats 4000000 in
set_option maxRecDepth 20000 in
theorem rbody_x (xs : Gp) (v : Value) (w : World) (hv : ArgsAt w v xs) (hx : SmP xs) :
    Calls Tryz.prog 13 #[v] w fun e w' => e = .returned (.string ⟨(bodL xs).toArray⟩) ∧ w = w' := by
  obtain ⟨a, c, rfl, hp⟩ := hv
  have HP := hid hp
  have HX := hid hx
  have hn := hx.n
  clear hp hx
  go_enter Tryz.func13, Tryz.ntmps13
  go_wp2_with fail
  go_loop [3, 4] (fun v3 v4 => ∃ (i : Nat) (O : ByteArray), v4 = .int .i64 (i : Int) ∧ i ≤ xs.length ∧ v3 = .string O ∧ Hid (O = ⟨(bdM (xs.take i)).toArray⟩)) (fun _ v4 => xs.length - (intOf v4).toNat)
  case atStart => exact ⟨0, _, rfl, Nat.zero_le _, rfl, hid rfl⟩
  case round =>
    obtain ⟨i, O, rfl, hi, rfl, hO⟩ := hrel
    by_cases hlt : i < xs.length
    · rcases HP.out with h0 | ⟨b, o, rfl, hc⟩
      · omega
      obtain ⟨c1, c2⟩ := hc i hlt
      have hmem : xs.getD i ([], []) ∈ xs := by rw [List.getD_eq_getElem?_getD, List.getElem?_eq_getElem hlt]; exact List.getElem_mem hlt
      obtain ⟨h1, h2⟩ := HX.out.each _ hmem
      have HNX := bdM_snoc xs i hlt
      have hOl := bdM_len (xs.take i) (fun x hx => HX.out.each x (List.mem_of_mem_take hx))
      unfold gN at c1
      unfold gV at c2
      generalize xs.getD i ([], []) = x at c1 c2 h1 h2 HNX
      obtain ⟨N, hN⟩ : ∃ N : ByteArray, N = ⟨x.1.toArray⟩ := ⟨_, rfl⟩
      obtain ⟨V, hV⟩ : ∃ N : ByteArray, N = ⟨x.2.toArray⟩ := ⟨_, rfl⟩
      obtain ⟨E, hE⟩ : ∃ N : ByteArray, N = ⟨(escL x.2).toArray⟩ := ⟨_, rfl⟩
      have HESC := rescape_any w x.2 (by omega)
      rw [← hV, ← hE] at HESC
      rw [← hN] at c1
      rw [← hV] at c2
      have hNs : N.size ≤ 100 := by rw [hN, Lib.size_eq]; simpa using h1
      have hEs : E.size ≤ 3000 := by rw [hE, Lib.size_eq]; have := escL_len x.2; simp only; omega
      have hOs : O.size ≤ 70000 := by rw [hO.out, Lib.size_eq]; have : (xs.take i).length ≤ 20 := Nat.le_trans (List.length_take_le' _ _) hn; simp only; omega
      have HB := hid (oneP_bytes x)
      rw [← hN, show (⟨(repL escP x.2).toArray⟩ : ByteArray) = E from hE.symm] at HB
      have HR := hid (show O ++ (((((((⟨#[60, 101, 58, 112, 114, 111, 112, 101, 114, 116, 121, 62, 60]⟩ : ByteArray) ++ N) ++ ⟨#[62]⟩) ++ E) ++ ⟨#[60, 47]⟩) ++ N) ++ ⟨#[62, 60, 47, 101, 58, 112, 114, 111, 112, 101, 114, 116, 121, 62]⟩) = ⟨(bdM (xs.take (i + 1))).toArray⟩ by rw [HB.out, hO.out, g_app, HNX])
      have HESC := hid HESC
      clear hN hV hE HNX hOl hO h1 h2 HB hmem
      go_wp2_with fail
      refine HESC.out.mono ?_
      rintro e w' ⟨rfl, rfl⟩
      go_wp2_with fail
      go_round
      case rel => exact ⟨i + 1, _, by go_num, by omega, rfl, HR⟩
      case measure => simp [intOf]; omega
    · obtain rfl : i = xs.length := by omega
      have hOl := bdM_len xs HX.out.each
      have hOs : O.size ≤ 70000 := by rw [hO.out, List.take_length, Lib.size_eq]; simp only; omega
      have HF := hid (show O ++ (⟨#[60, 47, 101, 58, 112, 114, 111, 112, 101, 114, 116, 121, 115, 101, 116, 62]⟩ : ByteArray) = ⟨(bodL xs).toArray⟩ by rw [hO.out, List.take_length, show (⟨#[60, 47, 101, 58, 112, 114, 111, 112, 101, 114, 116, 121, 115, 101, 116, 62]⟩ : ByteArray) = ⟨bdZ.toArray⟩ from rfl, g_app]; rfl)
      clear hO hOl hlt hi
      go_wp2_with fail
      go_ret
      exact ⟨by rw [HF.out]; rfl, rfl⟩
end Go.Proofs.YtfceodbpkghkaaaGreatDoor
