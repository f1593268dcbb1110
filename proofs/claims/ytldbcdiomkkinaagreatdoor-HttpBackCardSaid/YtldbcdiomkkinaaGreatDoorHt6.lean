/- octet.Join of two parts; bytes.Clone; (*http.Parser).chunk. -/
import Derived.Test.YtldbcdiomkkinaaGreatDoorHt5
namespace Go.Proofs.YtldbcdiomkkinaaGreatDoor
open Go.RowKit

theorem bytes_fresh {B : Nat} {w : World} {v : Value} {l : List UInt8} (h : Lib.FreshBytes B w v l) : Bytes w v l := by
  obtain ⟨g, cap, zs, rfl, hB, hlc, hm, hz, hzb, hbo, hc, _⟩ := h
  refine ⟨_, cap, rfl, hlc, hm, fun _ => ⟨g, 0, rfl, fun i hi => ?_⟩⟩
  rw [Nat.zero_add, hc i (by omega)]
  have hi2 : i < zs.length := by omega
  have e1 : l[i]? = some (UInt8.ofNat (zs[i]).toNat) := by
    rw [← hbo]
    unfold Lib.bytesOf
    rw [List.getElem?_map, List.getElem?_take, if_pos hi, List.getElem?_eq_getElem hi2]; rfl
  have e2 : l.getD i 0 = UInt8.ofNat (zs[i]).toNat := by rw [List.getD_eq_getElem?_getD, e1]; rfl
  have e3 : zs.getD i 0 = zs[i] := by rw [List.getD_eq_getElem?_getD, List.getElem?_eq_getElem hi2]; rfl
  have hb := hzb _ (List.getElem_mem hi2)
  rw [e2, e3]
  have : ((UInt8.ofNat (zs[i]).toNat).toNat : Int) = zs[i] := by simp; omega
  rw [this]
theorem holds_of {w : World} {v : Value} {l : List UInt8} (h : Bytes w v l) : Lib.HoldsBytes w v l := by
  obtain ⟨a, c, rfl, h1, h2, h3⟩ := h
  refine ⟨a, c, rfl, fun e => ?_, fun ad e i x hx => ?_⟩
  · subst e
    cases l with
    | nil => rfl
    | cons y l => obtain ⟨b, o, e, _⟩ := h3 (by simp); cases e
  · subst e
    have hi : i < l.length := (List.getElem?_eq_some_iff.1 hx).1
    obtain ⟨b, o, e, hc⟩ := h3 (by intro e; rw [e] at hi; simp at hi)
    obtain rfl : ad = ⟨b, o, none⟩ := by simpa using e
    rw [Go.WideShapes.add_plain, hc i hi, List.getD_eq_getElem?_getD, hx]; rfl
theorem bo_fresh {B : Nat} {w : World} {v : Value} {l : List UInt8} (h : Lib.FreshBytes B w v l) : BoAt w v l := by
  have hb := bytes_fresh h
  obtain ⟨g, cap, zs, rfl, hB, hlc, hm, -⟩ := h
  refine ⟨_, cap, rfl, hlc, hm, ?_⟩
  rcases l with _ | ⟨x, l⟩
  · exact .inl rfl
  · obtain ⟨-, -, -, h4⟩ := hb.at
    obtain ⟨b', o', e, hc⟩ := h4 (by simp)
    cases e
    exact .inr ⟨g, 0, rfl, .inr rfl, hc⟩
theorem join_two (w : World) (b o c : Nat) (v1 v2 : Value) (l1 l2 : List UInt8) (hc : 2 ≤ c) (h1 : w.cell? ⟨b, o, none⟩ = some v1) (h2 : w.cell? ⟨b, o + 1, none⟩ = some v2) (hb1 : Bytes w v1 l1) (hb2 : Bytes w v2 l2) (hlen : l1.length + l2.length ≤ 1000000) :
    Calls Tryz.prog 30 #[.slice (some ⟨b, o, none⟩) 2 c] w fun e w' => ∃ v, e = .returned v ∧ BoAt w' v (l1 ++ l2) ∧ w.grownBy w' none := by
  have hP : Lib.PartsAt w ⟨b, o, none⟩ [v1, v2] [l1, l2] := by
    refine ⟨rfl, fun i v hv => ?_, fun i v l hv hl => ?_⟩
    · rw [Go.WideShapes.add_plain]
      match i, hv with
      | 0, hv => obtain rfl : v1 = v := by simpa using hv
                 exact h1
      | 1, hv => obtain rfl : v2 = v := by simpa using hv
                 exact h2
    · match i, hv, hl with
      | 0, hv, hl => obtain rfl : v1 = v := by simpa using hv
                     obtain rfl : l1 = l := by simpa using hl
                     exact holds_of hb1
      | 1, hv, hl => obtain rfl : v2 = v := by simpa using hv
                     obtain rfl : l2 = l := by simpa using hl
                     exact holds_of hb2
  have hj := Tryz.bytes_Join_many b o 2 c [v1, v2] [l1, l2] (.slice none 0 0) [] w rfl (Nat.le_refl _) hP hc (holds_of (Bytes.nil w)) (by omega) (by simp [Lib.lens]; omega)
  go_enter Tryz.func30, Tryz.ntmps30
  go_wp2_with fail
  refine hj.mono ?_
  rintro e w' ⟨v', rfl, hf, hbl⟩
  have hbo := bo_fresh hf
  rw [show Lib.join [l1, l2] [] = l1 ++ l2 by simp [Lib.join]] at hbo
  go_wp2_with fail
  go_ret
  exact ⟨v', rfl, hbo, gr_of_below hbl⟩
theorem clone_by (l : List UInt8) (v : Value) (w : World) (h : Bytes w v l) (hn : v = .slice none 0 0 ∨ ∃ ad n c, v = .slice (some ad) n c) (hl : l.length ≤ 1000000) :
    Calls Tryz.prog 28 #[v] w fun e w' => ∃ v', e = .returned v' ∧ Own8 w' w.heap.size v' l ∧ w.grownBy w' none := by
  rcases hn with rfl | ⟨ad, n, c, rfl⟩
  · have hl0 : l = [] := List.eq_nil_of_length_eq_zero (h.at).1.symm
    subst hl0
    refine (Tryz.bytes_Clone_nil 0 0 w).mono ?_
    rintro e w' ⟨rfl, rfl⟩
    exact ⟨_, rfl, ⟨rfl, .inl ⟨rfl, rfl⟩⟩, gr_refl _ _⟩
  · obtain ⟨rfl, h1, h2, h3⟩ := h.at
    refine (Tryz.bytes_Clone_at ad l.length c (l.map fun u => (u.toNat : Int)) w (by simp) (by omega) (fun i hi => ?_)).mono ?_
    · obtain ⟨b', o', e, hc⟩ := h3 (by omega)
      cases e
      rw [Go.WideShapes.add_plain, hc i hi]
      simp [List.getD_eq_getElem?_getD, List.getElem?_map, List.getElem?_eq_getElem hi]
    · rintro e w' ⟨v', rfl, hown, -, hbl⟩
      refine ⟨v', rfl, ?_, gr_of_below hbl⟩
      rw [List.map_map] at hown
      exact hown
end Go.Proofs.YtldbcdiomkkinaaGreatDoor
