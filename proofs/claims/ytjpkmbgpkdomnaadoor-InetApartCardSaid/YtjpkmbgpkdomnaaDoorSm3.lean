/- bytes.Clone, octet.Join. -/
import Derived.Test.YtjpkmbgpkdomnaaDoorSm2
namespace Go.Proofs.YtjpkmbgpkdomnaaDoor
open Go.RowKit

theorem ints_at (l : List UInt8) (i : Nat) : (l.map fun b => (b.toNat : Int)).getD i 0 = ((l.getD i 0).toNat : Int) := by
  rw [List.getD_eq_getElem?_getD, List.getD_eq_getElem?_getD, List.getElem?_map]
  cases l[i]? <;> rfl
def BytesPost (w : World) (l : List UInt8) (e : Ending) (w' : World) : Prop := ∃ v, e = .returned v ∧ Bytes w' v l ∧ w.grownBy w' none
/-- Where a slice with bytes lies. -/
def Far (base : Nat) (v : Value) : Prop := ∀ b o n c, v = .slice (some ⟨b, o, none⟩) n c → 0 < n → base ≤ b
theorem far_of_own {w : World} {base : Nat} {e : TypeId} {size n : Nat} {v : Value} {xs : List Value} (h : w.ownsRow base e size v n xs) : Far base v := by
  intro b o n' c hv hn
  rcases h.2 with ⟨rfl, _⟩ | ⟨g, cap, cur, rfl, hb, _⟩
  · cases hv
  · simp only [Value.slice.injEq, Option.some.injEq, Addr.mk.injEq, and_true] at hv
    obtain ⟨⟨rfl, _⟩, _⟩ := hv
    exact hb
theorem far_le {b b' : Nat} {v : Value} (h : Far b v) (hl : b' ≤ b) : Far b' v := fun k o n c e hn => Nat.le_trans hl (h k o n c e hn)
theorem far_nil (b c : Nat) (a : Option Addr) : Far b (.slice a 0 c) := fun k o n c' e hn => by simp only [Value.slice.injEq] at e; omega
def FarPost (w0 w : World) (l : List UInt8) (e : Ending) (w' : World) : Prop := ∃ v, e = .returned v ∧ Bytes w' v l ∧ Far w0.heap.size v ∧ w.grownBy w' none
theorem clone_far (l : List UInt8) (v : Value) (w0 w : World) (g : w0.grownBy w none) (hb : Bytes w v l) (hl : l.length ≤ 140737488355328) : Calls Tryd.prog 66 #[v] w (FarPost w0 w l) := by
  obtain ⟨a, c, rfl, h1, h2, h3⟩ := hb
  cases a with
  | none =>
    have h0 : l = [] := by
      cases l with
      | nil => rfl
      | cons x l => obtain ⟨b, o, e, _⟩ := h3 (by simp); cases e
    subst h0
    exact (Tryd.bytes_Clone_nil _ c w).mono fun e w' ⟨he, hw⟩ => ⟨_, he, Bytes.nil w', far_nil _ _ _, by rw [hw]; exact gr_refl _ _⟩
  | some ad =>
    refine (Tryd.bytes_Clone_at ad l.length c (l.map fun b => (b.toNat : Int)) w (by simp) hl (fun i hi => ?_)).mono ?_
    · obtain ⟨b, o, e, hc⟩ := h3 (by intro e; rw [e] at hi; simp at hi)
      obtain rfl : ad = ⟨b, o, none⟩ := by simpa using e
      rw [ints_at, Go.WideShapes.add_plain]; exact hc i hi
    · rintro e w' ⟨v', rfl, hown, -, hbl⟩
      refine ⟨v', rfl, ?_, far_le (far_of_own hown) g.size, gr_of_below hbl⟩
      rw [List.map_map] at hown
      exact bytes_of_own hown
theorem clone_any (l : List UInt8) (v : Value) (w : World) (hb : Bytes w v l) (hl : l.length ≤ 140737488355328) : Calls Tryd.prog 66 #[v] w (BytesPost w l) :=
  (clone_far l v w w (gr_refl _ _) hb hl).mono fun _ _ ⟨v, h1, h2, _, h4⟩ => ⟨v, h1, h2, h4⟩
theorem bytes_fresh {B : Nat} {w : World} {v : Value} {l : List UInt8} (h : Lib.FreshBytes B w v l) : Bytes w v l := by
  obtain ⟨g, cap, zs, rfl, hB, hlc, hm, hz, hzb, hbo, hc, _⟩ := h
  refine ⟨_, cap, rfl, hlc, hm, fun _ => ⟨g, 0, rfl, fun i hi => ?_⟩⟩
  rw [Nat.zero_add, hc i (by omega)]
  have hi2 : i < zs.length := by omega
  have e1 : l[i]? = some (UInt8.ofNat (zs[i]).toNat) := by
    rw [← hbo]
    unfold Lib.bytesOf
    rw [List.getElem?_map, List.getElem?_take, if_pos hi, List.getElem?_eq_getElem hi2]; rfl
  have e2 : l.getD i 0 = UInt8.ofNat (zs[i]).toNat := by rw [List.getD_eq_getElem?_getD, e1]; rfl
  have e3 : zs.getD i 0 = zs[i] := by rw [List.getD_eq_getElem?_getD, List.getElem?_eq_getElem hi2]; rfl
  have hb := hzb _ (List.getElem_mem hi2)
  rw [e2, e3]
  have : ((UInt8.ofNat (zs[i]).toNat).toNat : Int) = zs[i] := by simp; omega
  rw [this]
theorem holds_of {w : World} {v : Value} {l : List UInt8} (h : Bytes w v l) : Lib.HoldsBytes w v l := by
  obtain ⟨a, c, rfl, h1, h2, h3⟩ := h
  refine ⟨a, c, rfl, fun e => ?_, fun ad e i x hx => ?_⟩
  · subst e
    cases l with
    | nil => rfl
    | cons y l => obtain ⟨b, o, e, _⟩ := h3 (by simp); cases e
  · subst e
    have hi : i < l.length := (List.getElem?_eq_some_iff.1 hx).1
    obtain ⟨b, o, e, hc⟩ := h3 (by intro e; rw [e] at hi; simp at hi)
    obtain rfl : ad = ⟨b, o, none⟩ := by simpa using e
    rw [Go.WideShapes.add_plain, hc i hi, List.getD_eq_getElem?_getD, hx]; rfl
/-- octet.Join of one part. -/
theorem join_one (b o c : Nat) (l : List UInt8) (v : Value) (w : World) (hcell : w.cell? ⟨b, o, none⟩ = some v) (hb : Bytes w v l) (hl : l.length ≤ 140737488355328) :
    Calls Tryd.prog 54 #[.slice (some ⟨b, o, none⟩) 1 c] w (BytesPost w l) := by
  have hj : Calls Tryd.prog 69 #[.slice (some ⟨b, o, none⟩) 1 c, .slice none 0 0] w (BytesPost w l) := by
    by_cases h0 : l = []
    · subst h0
      obtain ⟨a, c', rfl, h1, h2, h3⟩ := hb
      exact (Tryd.bytes_Join_one_empty b o c a c' (.slice none 0 0) w hcell).mono fun e w' ⟨he, hw⟩ => ⟨_, he, Bytes.nil w', by rw [hw]; exact gr_refl _ _⟩
    · obtain ⟨a, c', rfl, h1, h2, h3⟩ := hb
      obtain ⟨bb, oo, rfl, hc⟩ := h3 h0
      refine (Tryd.bytes_Join_one b o c ⟨bb, oo, none⟩ c' l (.slice none 0 0) w hcell (fun i x hx => ?_) (List.length_pos_iff.2 h0) hl).mono ?_
      · have hi : i < l.length := (List.getElem?_eq_some_iff.1 hx).1
        rw [Go.WideShapes.add_plain, hc i hi, List.getD_eq_getElem?_getD, hx]; rfl
      · rintro e w' ⟨v', rfl, hf, hbl⟩
        exact ⟨v', rfl, bytes_fresh hf, gr_of_below hbl⟩
  have HJ := hid hj
  clear hj hcell hb
  go_enter Tryd.func54, Tryd.ntmps54
  go_wp2_with fail
  refine HJ.out.mono ?_
  rintro e w1 ⟨u, rfl, hu, g1⟩
  go_wp2
  go_ret
  exact ⟨u, rfl, hu, g1⟩
/-- octet.Join of many parts. -/
theorem join_many (b o c n : Nat) (ls : List (List UInt8)) (vs : List Value) (w : World) (hn : ls.length = n) (h2 : 2 ≤ n) (hP : Lib.PartsAt w ⟨b, o, none⟩ vs ls) (hc : n ≤ c) (hn47 : n ≤ 1000) (hlen : Lib.lens ls ≤ 1000000) :
    Calls Tryd.prog 54 #[.slice (some ⟨b, o, none⟩) n c] w (fun e w' => ∃ v, e = .returned v ∧ Lib.FreshBytes w.heap.size w' v (Lib.join ls []) ∧ w.grownBy w' none) := by
  have hj := Tryd.bytes_Join_many b o n c vs ls (.slice none 0 0) [] w hn h2 hP hc ⟨none, 0, rfl, fun _ => rfl, fun a h => by cases h⟩ (by omega) (by simp; omega)
  have HJ := hid hj
  clear hj hP
  go_enter Tryd.func54, Tryd.ntmps54
  go_wp2_with fail
  refine HJ.out.mono ?_
  rintro e w1 ⟨u, rfl, hu, hb1⟩
  go_wp2
  go_ret
  exact ⟨u, rfl, hu, gr_of_below hb1⟩
end Go.Proofs.YtjpkmbgpkdomnaaDoor
