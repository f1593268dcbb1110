/- (*octet.Eye).Bytes. -/
import Derived.Test.YtjpkmbgpkdomnaaDoorEy1
namespace Go.Proofs.YtjpkmbgpkdomnaaDoor
open Go.RowKit

def EyePost (k : Nat) (w : World) (p : Nat) (t r : List UInt8) (bad : Bool) (e : Ending) (w' : World) : Prop := ∃ v, e = .returned v ∧ Bytes w' v t ∧ EyeAt k w' p r bad ∧ w.grownBy w' (some p) ∧ Far w.heap.size v
theorem Bytes.rest {w : World} {b o n c : Nat} {l : List UInt8} (h : Bytes w (.slice (some ⟨b, o, none⟩) n c) l) (k : Nat) (hk : k ≤ n) : Bytes w (.slice (some ⟨b, o + k, none⟩) (n - k) (c - k)) (l.drop k) := by
  obtain ⟨a', c', e, h1, h2, h3⟩ := h
  simp only [Value.slice.injEq] at e
  obtain ⟨rfl, rfl, rfl⟩ := e
  have hl : (l.drop k).length = l.length - k := by simp
  refine ⟨_, _, by rw [hl], by rw [hl]; omega, by omega, fun hne => ?_⟩
  have hk0 : 0 < l.length - k := by rw [← hl]; exact List.length_pos_iff.2 hne
  obtain ⟨b', o', e, hc⟩ := h3 (by intro e; rw [e] at hk0; simp at hk0)
  simp only [Option.some.injEq, Addr.mk.injEq, and_true] at e
  obtain ⟨rfl, rfl⟩ := e
  refine ⟨_, _, rfl, fun i hi => ?_⟩
  rw [hl] at hi
  rw [Nat.add_assoc, hc (k + i) (by omega)]
  simp [List.getD_eq_getElem?_getD, List.getElem?_drop]
theorem eye_far {w : World} {p : Nat} {x y : Value} {t : TypeId} (h : w.heap[p]? = some (.cells #[x, y] t (0, 0))) (hx : ∀ n, x ≠ .int .u8 n) (hy : ∀ n, y ≠ .int .u8 n) {a : Option Addr} {n c : Nat} {l : List UInt8} (hb : Bytes w (.slice a n c) l) :
    ∀ b o, a = some ⟨b, o, none⟩ → 0 < l.length → b ≠ p := fun b o e hl => by
  obtain ⟨b', o', e2, hc⟩ := hb.cellAt hl
  rw [e] at e2
  simp only [Option.some.injEq, Addr.mk.injEq, and_true] at e2
  obtain ⟨rfl, rfl⟩ := e2
  have h0 := hc 0 hl
  intro e3
  subst e3
  rw [cell_of_block h] at h0
  match o, h0 with
  | 0, h0 => simp at h0; exact hx _ h0
  | 1, h0 => simp at h0; exact hy _ h0
  | o + 2, h0 => simp at h0
/-- What is known behind the region. -/
theorem eye_end {w w2 : World} {p b o c n : Nat} {l : List UInt8} {bad : Bool} {v2 : Value} (hn : n ≤ l.length) (hb : Bytes w (.slice (some ⟨b, o, none⟩) l.length c) l) {k : Nat} (hbp : 0 < l.length → b ≠ p ∧ k ≤ b)
    (B2 : w2.heap[p]? = some (.cells #[.slice (some ⟨b, o, none⟩) l.length c, .bool bad] 97 (0, 0))) (hv2 : Bytes w2 v2 (l.take n)) (GW : w.grownBy w2 none) (a : Option Addr) (ha : a = some ⟨b, o + n, none⟩ ∨ (a = some ⟨b, o, none⟩ ∧ n = l.length)) (c' : Nat) (hc : c' = c - n) :
    Bytes (w2.setCell ⟨p, 0, none⟩ (.slice a (l.length - n) c')) v2 (l.take n) ∧ EyeAt k (w2.setCell ⟨p, 0, none⟩ (.slice a (l.length - n) c')) p (l.drop n) bad ∧ w.grownBy (w2.setCell ⟨p, 0, none⟩ (.slice a (l.length - n) c')) (some p) := by
  subst hc
  have gs : w2.grownBy (w2.setCell ⟨p, 0, none⟩ (.slice a (l.length - n) (c - n))) (some p) := gr_set (gr_refl w2 (some p))
  refine ⟨?_, ⟨a, c - n, ?_, ?_, ?_⟩, gr_trans (gr_none GW) gs⟩
  · obtain ⟨va, vc, rfl, h1, h2, h3⟩ := hv2
    have hv : Bytes w2 (.slice va (l.take n).length vc) (l.take n) := ⟨va, vc, rfl, h1, h2, h3⟩
    exact hv.kept gs (eye_far B2 (by simp) (by simp) hv)
  · rw [heap_set B2]; simp
  · have hr : Bytes w2 (.slice a (l.length - n) (c - n)) (l.drop n) := by
      rcases ha with rfl | ⟨rfl, hnl⟩
      · exact (hb.rest n hn).grown GW
      · rw [hnl, List.drop_length, Nat.sub_self]
        have := hb.at
        exact ⟨_, _, rfl, by simp, by omega, fun h => absurd rfl h⟩
    rw [show (l.drop n).length = l.length - n by simp]
    exact hr.kept gs (fun b' o' e hl => by
      rcases ha with rfl | ⟨rfl, hnl⟩
      · simp only [Option.some.injEq, Addr.mk.injEq, and_true] at e
        exact e.1 ▸ (hbp (by simp at hl; omega)).1
      · rw [hnl] at hl; simp at hl)
  · intro b' o' e hl
    rcases ha with rfl | ⟨rfl, hnl⟩
    · simp only [Option.some.injEq, Addr.mk.injEq, and_true] at e
      exact e.1 ▸ hbp (by simp at hl; omega)
    · rw [hnl] at hl; simp at hl
set_option maxRecDepth 20000 in
set_option maxHeartbeats 4000000 in
theorem eye_bytes (k p : Nat) (l : List UInt8) (bad : Bool) (n : Nat) (w : World) (hE : EyeAt k w p l bad) (hn : n ≤ l.length) (hl : l.length ≤ 100000) (h0 : 0 < l.length) :
    Calls Tryd.prog 52 #[.pointer (some ⟨p, 0, none⟩), .int .i64 n] w (EyePost k w p (l.take n) (l.drop n) bad) := by
  obtain ⟨a, c, hh, hb, hne⟩ := hE
  obtain ⟨b, o, rfl, -⟩ := hb.cellAt h0
  have hcc := hb.at
  have hpart := hb.part n hn
  have hcl := fun W (g : w.grownBy W none) => clone_far (l.take n) (.slice (some ⟨b, o, none⟩) n c) w W g (hpart.grown g) (by simp; omega)
  have hcp : c ≤ 9223372036854775807 := hcc.2.2.1
  have hlc : l.length ≤ c := hcc.2.1
  have HB := hid hb
  have HH := hid hh
  have Hne := hid hne
  have Hcl := hid hcl
  have k0 := (cell_of_block hh 0).trans (show _ = some (Value.slice (some ⟨b, o, none⟩) l.length c) from rfl)
  have f0 := free_of_block hh 0
  have hlt := lt_of_block hh
  clear hb hcc hpart hcl hh hne
  by_cases hcn : c = n
  · obtain rfl : n = l.length := by omega
    obtain rfl : c = l.length := hcn
    have i1 : (0 : Int) ≤ (l.length : Int) := by omega
    go_enter Tryd.func52, Tryd.ntmps52
    go_wp2_with fail
    go_region_with (go_at_call 66; refine (Hcl.out _ (by (repeat (first | exact gr_refl _ _ | assumption | refine gr_drew ?_ | refine gr_drewN _ ?_ | refine gr_alloc ?_ _ | refine gr_set ?_ | refine gr_set_new ?_ (by first | omega | (simp; omega)))))).mono ?_; rintro e w2 ⟨v2, rfl, hv2, hf2, g2⟩; have GW := gr_trans (by (repeat (first | exact gr_refl _ _ | assumption | refine gr_drew ?_ | refine gr_drewN _ ?_ | refine gr_alloc ?_ _ | refine gr_set ?_ | refine gr_set_new ?_ (by first | omega | (simp; omega)))) : w.grownBy _ none) g2; have B2 := gr_keep GW HH.out (by simp); have q0 := (cell_of_block B2 0).trans (show _ = some (Value.slice (some ⟨b, o, none⟩) l.length l.length) from rfl); have qf := free_of_block B2 0; have qlt := lt_of_block B2)
    all_goals
      obtain ⟨r1, r2, r3⟩ := eye_end hn HB.out (fun h => Hne.out b o rfl h) B2 hv2 GW (some ⟨b, o, none⟩) (.inr ⟨rfl, rfl⟩) (l.length - l.length) rfl
      rw [Nat.sub_self] at r1 r2 r3
      go_wp2
      go_ret
      exact ⟨v2, rfl, r1, r2, r3, hf2⟩
  · have hnc : n < c := by omega
    have i1 : (0 : Int) ≤ (n : Int) := by omega
    have i2 : (n : Int) ≤ (c : Int) := by omega
    have i3 : (n : Int) < (c : Int) := by omega
    have i4 : (n : Int) ≤ (l.length : Int) := by omega
    have i5 : (l.length : Int) ≤ (c : Int) := by omega
    go_enter Tryd.func52, Tryd.ntmps52
    go_wp2_with fail
    go_region_with (go_at_call 66; refine (Hcl.out _ (by (repeat (first | exact gr_refl _ _ | assumption | refine gr_drew ?_ | refine gr_drewN _ ?_ | refine gr_alloc ?_ _ | refine gr_set ?_ | refine gr_set_new ?_ (by first | omega | (simp; omega)))))).mono ?_; rintro e w2 ⟨v2, rfl, hv2, hf2, g2⟩; have GW := gr_trans (by (repeat (first | exact gr_refl _ _ | assumption | refine gr_drew ?_ | refine gr_drewN _ ?_ | refine gr_alloc ?_ _ | refine gr_set ?_ | refine gr_set_new ?_ (by first | omega | (simp; omega)))) : w.grownBy _ none) g2; have B2 := gr_keep GW HH.out (by simp); have q0 := (cell_of_block B2 0).trans (show _ = some (Value.slice (some ⟨b, o, none⟩) l.length c) from rfl); have qf := free_of_block B2 0; have qlt := lt_of_block B2)
    all_goals
      obtain ⟨r1, r2, r3⟩ := eye_end hn HB.out (fun h => Hne.out b o rfl h) B2 hv2 GW (some ⟨b, o + n, none⟩) (.inl rfl) (c - n) rfl
      go_wp2
      go_ret
      exact ⟨v2, rfl, r1, r2, r3, hf2⟩
end Go.Proofs.YtjpkmbgpkdomnaaDoor
