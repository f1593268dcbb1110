/- sum.Right; octet.NewEye, (*Eye).Bytes, (*Eye).Num. -/
import Derived.Test.YtjpkmbgpkdomnaaDoorSm5
import Derived.Deep.RegionWith
namespace Go.Proofs.YtjpkmbgpkdomnaaDoor
open Go.RowKit

theorem right_one (b o c : Nat) (l : List UInt8) (v : Value) (w : World) (hcell : w.cell? ⟨b, o, none⟩ = some v) (hb : Bytes w v l) (hl : l.length ≤ 100000) :
    Calls Tryd.prog 51 #[.slice (some ⟨b, o, none⟩) 1 c] w fun e w' => e = .returned (.bool (decide (sum16 l = 0))) ∧ w.grownBy w' none := by
  have h := sum_one b o c l v w hcell hb hl
  have hd : (((sum16 l : Nat) : Int) == 0) = decide (sum16 l = 0) := by rw [Bool.eq_iff_iff]; simp
  generalize sum16 l = t at *
  have H := hid h
  have HD := hid hd
  clear h hcell hb hd
  go_enter Tryd.func51, Tryd.ntmps51
  go_wp2_with fail
  refine H.out.mono ?_
  rintro e w1 ⟨rfl, g1⟩
  go_wp2
  go_ret
  exact ⟨by rw [← HD.out]; rfl, g1⟩
/-- An Eye, its bytes, and that they lie from block k on. -/
def EyeAt (k : Nat) (w : World) (p : Nat) (l : List UInt8) (bad : Bool) : Prop := ∃ a c, w.heap[p]? = some (.cells #[.slice a l.length c, .bool bad] 97 (0, 0)) ∧ Bytes w (.slice a l.length c) l ∧ (∀ b o, a = some ⟨b, o, none⟩ → 0 < l.length → b ≠ p ∧ k ≤ b)
def NewPost (w : World) (l : List UInt8) (e : Ending) (w' : World) : Prop := ∃ p, e = .returned (.pointer (some ⟨p, 0, none⟩)) ∧ w.heap.size ≤ p ∧ EyeAt w.heap.size w' p l false ∧ w.grownBy w' none
theorem neweye_any (l : List UInt8) (v : Value) (w : World) (hb : Bytes w v l) (hl : l.length ≤ 140737488355328) : Calls Tryd.prog 49 #[v] w (NewPost w l) := by
  have h := hid (clone_far l v w w (gr_refl _ _) hb hl)
  clear hb hl
  go_enter Tryd.func49, Tryd.ntmps49
  go_wp2_with fail
  refine h.out.mono ?_
  rintro e w1 ⟨u, rfl, hu, hf, g1⟩
  obtain ⟨a, c, rfl, h1, h2, h3⟩ := hu
  have HU := hid (show Bytes w1 (.slice a l.length c) l from ⟨a, c, rfl, h1, h2, h3⟩)
  clear h3
  go_wp2
  go_ret
  refine ⟨w1.heap.size, rfl, g1.size, ⟨a, c, heap_alloc_new w1 _, HU.out.grown (World.grownBy_alloc w1 _ none), fun b o e hp => ?_⟩, gr_alloc g1 _⟩
  obtain ⟨b', o', e2, hc⟩ := HU.out.cellAt hp
  rw [e] at e2
  simp only [Option.some.injEq, Addr.mk.injEq, and_true] at e2
  obtain ⟨rfl, rfl⟩ := e2
  have := World.block_lt_of_cell? _ _ (hc 0 hp)
  exact ⟨Nat.ne_of_lt this, hf _ _ _ _ (by rw [e]) hp⟩
theorem Bytes.kept {w w' : World} {row : Nat} {a : Option Addr} {n c : Nat} {l : List UInt8} (h : Bytes w (.slice a n c) l) (g : w.grownBy w' (some row)) (hne : ∀ b o, a = some ⟨b, o, none⟩ → 0 < l.length → b ≠ row) : Bytes w' (.slice a n c) l := by
  obtain ⟨a', c', e, h1, h2, h3⟩ := h
  simp only [Value.slice.injEq] at e
  obtain ⟨rfl, rfl, rfl⟩ := e
  refine ⟨a, c, rfl, h1, h2, fun hl => ?_⟩
  obtain ⟨b, o, rfl, hc⟩ := h3 hl
  exact ⟨b, o, rfl, fun i hi => g.cell (hc i hi) (by simp; exact hne b o rfl (List.length_pos_iff.2 hl))⟩
theorem eye_kept {k : Nat} {w : World} {p b i : Nat} {l : List UInt8} {bad : Bool} {x : Value} (h : EyeAt k w p l bad) (hp : p ≠ b) (hk : b < k) : EyeAt k (w.setCell ⟨b, i, none⟩ x) p l bad := by
  obtain ⟨a, c, h1, h2, h3⟩ := h
  have gs : w.grownBy (w.setCell ⟨b, i, none⟩ x) (some b) := gr_set (gr_refl w (some b))
  exact ⟨a, c, gr_keep gs h1 (by simp; exact hp), h2.kept gs (fun b' o e hl => by have := (h3 b' o e hl).2; omega), h3⟩
/-- A part of a slice of bytes. -/
theorem Bytes.part {w : World} {a : Option Addr} {n c : Nat} {l : List UInt8} (h : Bytes w (.slice a n c) l) (k : Nat) (hk : k ≤ n) : Bytes w (.slice a k c) (l.take k) := by
  obtain ⟨a', c', e, h1, h2, h3⟩ := h
  simp only [Value.slice.injEq] at e
  obtain ⟨rfl, rfl, rfl⟩ := e
  have hl : (l.take k).length = k := by simp; omega
  refine ⟨a, c, by rw [hl], by rw [hl]; omega, h2, fun hne => ?_⟩
  have hk0 : 0 < k := by rw [← hl]; exact List.length_pos_iff.2 hne
  obtain ⟨b, o, rfl, hc⟩ := h3 (by intro e; rw [e] at hk; simp at hk; omega)
  refine ⟨b, o, rfl, fun i hi => ?_⟩
  rw [hl] at hi
  rw [hc i (by omega)]
  simp [List.getD_eq_getElem?_getD, hi]
end Go.Proofs.YtjpkmbgpkdomnaaDoor
