/- http.line of whatever bytes; http.Status. -/
import Derived.Test.YtldbcdiomkkinaaGreatDoorME
namespace Go.Proofs.YtldbcdiomkkinaaGreatDoor
open Go.RowKit

theorem Bytes.part {W : World} {a : Option Addr} {n c : Nat} {l : List UInt8} (h : Bytes W (.slice a n c) l) (k : Nat) (hk : k ≤ n) : Bytes W (.slice a k c) (l.take k) := by
  obtain ⟨h0, h1, h2, h3⟩ := h.at
  have hl : (l.take k).length = k := by rw [List.length_take]; omega
  refine ⟨a, c, by rw [hl], by omega, h2, fun hne => ?_⟩
  have hk0 : 0 < k := by rw [← hl]; exact List.length_pos_iff.2 hne
  obtain ⟨b, o, e, hc⟩ := h3 (by omega)
  refine ⟨b, o, e, fun i hi => ?_⟩
  rw [hl] at hi
  rw [hc i (by omega), List.getD_eq_getElem?_getD, List.getD_eq_getElem?_getD, List.getElem?_take, if_pos hi]
/-- A slice that is nil, or leads somewhere. -/
def NilOr (v : Value) : Prop := v = .slice none 0 0 ∨ ∃ ad n c, v = .slice (some ad) n c
theorem bindex_by (l : List UInt8) (v : Value) (c : UInt8) (w : World) (h : Bytes w v l) (hn : NilOr v) :
    Calls Tryz.prog 33 #[v, .int .u8 (c.toNat : Int)] w fun e w' => e = .returned (.int .i64 (Lib.indexByte l c)) ∧ w' = w := by
  rcases hn with rfl | ⟨ad, n, cap, rfl⟩
  · have hl0 : l = [] := List.eq_nil_of_length_eq_zero (h.at).1.symm
    subst hl0
    exact Tryz.bytes_IndexByte_nil (c.toNat : Int) w
  · obtain ⟨rfl, h1, h2, h3⟩ := h.at
    refine (Tryz.bytes_IndexByte_at ad l.length cap (l.map fun u => (u.toNat : Int)) (c.toNat : Int) w (by simp) (fun i hi => ?_)).mono ?_
    · obtain ⟨b', o', e, hc⟩ := h3 (by omega)
      cases e
      rw [Go.WideShapes.add_plain, hc i hi]
      simp [List.getD_eq_getElem?_getD, List.getElem?_map, List.getElem?_eq_getElem hi]
    · rintro e w' ⟨rfl, rfl⟩
      refine ⟨?_, rfl⟩
      rw [show Lib.bytesOf (l.map fun u => (u.toNat : Int)) = l by simp [Lib.bytesOf, List.map_map, Function.comp_def]]
      simp
def LineBy (w : World) (v : Value) (b : List UInt8) (e : Ending) (w' : World) : Prop :=
  w.grownBy w' none ∧ ((lineL b = none ∧ e = .returned (.tuple #[.string ⟨#[]⟩, .bool false, v, .bool false])) ∨
    ∃ t x r a c, lineL b = some (t, x, r) ∧ e = .returned (.tuple #[.string ⟨t.toArray⟩, .bool x, .slice a r.length c, .bool true]))
set_option maxRecDepth 20000 in
set_option maxHeartbeats 2000000 in
theorem line_by (b : List UInt8) (v : Value) (w : World) (h : Bytes w v b) (hnv : NilOr v) (hb : b.length ≤ 1000000) : Calls Tryz.prog 21 #[v] w (LineBy w v b) := by
  obtain ⟨a, c, rfl, h1, h2, h3⟩ := id h
  obtain ⟨i, hi⟩ : ∃ i, i = Lib.indexByte b 10 := ⟨_, rfl⟩
  have hlt := indexByte_lt 10 b
  have HB := hid (bindex_by b (.slice a b.length c) 10 w h hnv)
  rw [← hi] at hlt HB
  have h2' : c ≤ 9223372036854775807 := h2
  have HA := hid h
  clear h hnv
  by_cases h0 : i < 0
  · have hn : lineL b = none := by unfold lineL; rw [if_neg (by rw [← hi]; omega)]
    have HN := hid hn
    have HI := hid hi
    clear hi hn h3
    go_enter Tryz.func21, Tryz.ntmps21
    go_wp2_with fail
    refine HB.out.mono ?_
    rintro e w' ⟨rfl, rfl⟩
    go_wp2_with fail
    ((try simp only [Exit.inBlock, Exit.then]); refine bodyPost_ret (results_tmp4 rfl _ _ _) rfl ?_)
    exact ⟨gr_refl _ _, .inl ⟨HN.out, rfl⟩⟩
  · obtain ⟨k, rfl⟩ := Int.eq_ofNat_of_zero_le (Int.not_lt.1 h0)
    have hn : lineL b = some (Lib.trimSuffix (b.take k) [13], !Lib.hasSuffix (b.take k) [13], b.drop (k + 1)) := by unfold lineL; rw [if_pos (by rw [← hi]; omega), ← hi]; rfl
    have HN := hid hn
    have HI := hid hi
    have hk : k < b.length := by omega
    have HBy := hid (HA.out.part k (by omega))
    obtain ⟨g, off, rfl, -⟩ := h3 (by intro e; rw [e] at hk; simp at hk)
    have hlk : (b.take k).length = k := by rw [List.length_take]; omega
    obtain ⟨n, hnn⟩ : ∃ n, n = b.length := ⟨_, rfl⟩
    rw [← hnn] at hk h1 HB ⊢
    have HLN := hid hnn
    clear hi hn hlt hnn h3
    go_enter Tryz.func21, Tryz.ntmps21
    go_wp2_with fail
    refine HB.out.mono ?_
    rintro e w' ⟨rfl, rfl⟩
    go_wp2_with fail
    rw [run_b2s (l := b.take k) Tryz.underlying22 Tryz.underlying5 Tryz.underlying9 (v := .slice (some ⟨g, off, none⟩) k c) HBy.out]
    unfold str
    go_wp2_with fail
    refine (Tryz.strings_CutSuffix ⟨(b.take k).toArray⟩ ⟨#[13]⟩ w' (by rw [Lib.size_eq]; simp; omega)).mono ?_
    rintro e w2 ⟨rfl, rfl⟩
    rw [show (ByteArray.mk (b.take k).toArray).data.toList = b.take k from rfl, show (ByteArray.mk #[13]).data.toList = [13] from rfl]
    generalize hx1 : Lib.trimSuffix (b.take k) [13] = x1 at *
    generalize hx2 : Lib.hasSuffix (b.take k) [13] = x2 at *
    clear hx1 hx2
    have hk1 : IntKind.i64.wrap ((k : Int) + 1) = (k : Int) + 1 := IntWalk.i64_in _ (by have := HLN.out; omega)
    have hk2 : ((k : Int) + 1).toNat = k + 1 := by omega
    have hdl : (b.drop (k + 1)).length = n - (k + 1) := by rw [List.length_drop, HLN.out]
    have HDL := hid hdl
    clear hdl
    go_wp2_with fail
    by_cases hck : c = k + 1
    · subst hck
      go_region
      go_wp2_with fail
      ((try simp only [Exit.inBlock, Exit.then]); refine bodyPost_ret (results_tmp4 rfl _ _ _) rfl ?_)
      exact ⟨gr_drew (gr_refl _ _), .inr ⟨x1, !x2, b.drop (k + 1), some ⟨g, off, none⟩, 0, HN.out, by rw [show (b.drop (k + 1)).length = 0 by rw [HDL.out]; omega]; rfl⟩⟩
    · go_region
      go_wp2_with fail
      ((try simp only [Exit.inBlock, Exit.then]); refine bodyPost_ret (results_tmp4 rfl _ _ _) rfl ?_)
      exact ⟨gr_drew (gr_refl _ _), .inr ⟨x1, !x2, b.drop (k + 1), some ⟨g, off + (k + 1), none⟩, c - (k + 1), HN.out, by rw [HDL.out]; rfl⟩⟩
end Go.Proofs.YtldbcdiomkkinaaGreatDoor
