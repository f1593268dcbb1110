/- (*stream.Conn).acked, where all that was sent is acknowledged. -/
import Derived.Test.YtcgmbeibhingcaaSw6
namespace Go.Proofs.Ytcgmbeibhingcaa
open Go.RowKit

theorem ack_k (own : Int) (M U : Nat) (h0 : U ≤ M) (h1 : M ≤ 100000) : ((own + M) % 4294967296 - (own + U) % 4294967296) % 4294967296 = ((M - U : Nat) : Int) := by
  omega
theorem ByAt.drop2 {W : World} {a : Option Addr} {n c : Nat} {l : List UInt8} (h : ByAt W (.slice a n c) l) (k : Nat) (hk : k ≤ n) : ByAt W (.slice (if c = k then a else a.map (fun x => x.add k)) (n - k) (c - k)) (l.drop k) := by
  rcases h with ⟨h0, rfl⟩ | ⟨g, off, cap, cs, e, hh, h1, h2, h3⟩
  · cases h0
    obtain rfl : k = 0 := by omega
    exact .inl ⟨rfl, rfl⟩
  · cases e
    by_cases hck : c = k
    · rw [if_pos hck]
      subst hck
      have hl : l.drop c = [] := List.drop_eq_nil_of_le h1
      rw [hl]
      exact .inr ⟨g, off, c - c, cs, by simp; omega, hh, by simp, by omega, by simp⟩
    · rw [if_neg hck]
      have := ByAt.drop (W := W) (.inr ⟨g, off, c, cs, rfl, hh, h1, h2, h3⟩) k hk
      rw [Option.map_some, Go.WideShapes.add_plain]
      exact this
/-- What acked leaves. -/
def AckPost (w : World) (b : Nat) (c : Cn) (M wi : Nat) (l : List UInt8) (e : Ending) (w' : World) : Prop :=
  e = .returned (.tuple #[]) ∧ (∃ out t, ConnAt w' b { c with una := (M : Nat), window := (wi : Nat), out := out, tries := 0, timed := t, phase := 2 } ∧ ByAt w' out l) ∧ w.grownBy w' (some b)
set_option maxRecDepth 20000 in
set_option maxHeartbeats 4000000 in
theorem acked_any (b : Nat) (c : Cn) (w : World) (now : Int) (B U M W un wi : Nat) (l : List UInt8) (f t sq fl ur : Int) (oa da : Option Addr) (on oc dn dc : Nat) (h : ConnAt w b c) (hc : CnN c B U M M W un l) (hU : U ≤ M) (hB : B = max U 1) (hM1 : 1 ≤ M) (hM : M ≤ B + l.length) (hM2 : M ≤ 20000) (hwi : wi ≤ 65535) (htr : c.tries = 0) (hph : U = M → c.phase = 2) (ho : ByAt w c.out l) :
    Calls Try.prog 29 #[.pointer (some ⟨b, 0, none⟩), .agg #[.int .u16 f, .int .u16 t, .int .u32 sq, .int .u32 ((c.own + M) % 4294967296), .int .u8 fl, .int .u16 wi, .int .u16 ur, .slice oa on oc, .slice da dn dc], .int .u64 now] w (AckPost w b c M wi (l.drop (M - B))) := by
  have hlt := h.lt
  have h2 := h.all.c2
  have h5 := h.all.c5
  have h7 := h.all.c7
  have f11 := h.free 11
  have h11 := h.all.c11
  rw [hc.una] at h5
  rw [hc.most] at h7
  have HK := hid (ack_k c.own M U hU (by omega))
  have HC := hid h
  have HO := hid ho
  have HBU := hid hB
  clear h ho hB
  go_enter Try.func29, Try.ntmps29
  go_wp2_with fail
  generalize hw1 : w.alloc _ = w1
  have g1 : w.grownBy w1 none := by rw [← hw1]; exact World.grownBy_alloc _ _ none
  have hs1 := heap_alloc_new w (.cells #[.int .u16 f, .int .u16 t, .int .u32 sq, .int .u32 ((c.own + M) % 4294967296), .int .u8 fl, .int .u16 wi, .int .u16 ur, .slice oa on oc, .slice da dn dc] 34)
  rw [hw1] at hs1
  clear hw1
  have s3 := (cell_of_block hs1 3).trans (show _ = some (Value.int .u32 ((c.own + M) % 4294967296)) from rfl)
  have s5 := (cell_of_block hs1 5).trans (show _ = some (Value.int .u16 wi) from rfl)
  have hc1 := HC.out.keep g1 (by simp)
  have k2 := hc1.all.c2
  have k5 := hc1.all.c5
  have k7 := hc1.all.c7
  have k11 := hc1.all.c11
  rw [hc.una] at k5
  rw [hc.most] at k7
  have b1 := hc1.lt
  have q11 := hc1.free 11
  have HC1 := hid hc1
  have HS := hid hs1
  clear hc1 hs1 h2 h5 h7 f11 h11
  go_quiet (fail)
  rw [HK.out]
  obtain ⟨w2, hnew⟩ : ∃ x, x = w1.drewN nq := ⟨_, rfl⟩
  rw [← hnew]
  have gs : w1.grownBy w2 none := by rw [hnew]; exact gr_drewN _ (gr_refl _ _)
  replace k2 := gs.cell k2 (by simp)
  replace k5 := gs.cell k5 (by simp)
  replace k7 := gs.cell k7 (by simp)
  replace k11 := gs.cell k11 (by simp)
  replace s5 := gs.cell s5 (by simp)
  have HC2 := hid (HC1.out.keep gs (by simp))
  have HS2 := hid (gr_keep gs HS.out (by simp))
  have G2 := hid (gr_trans g1 gs)
  have f11 := HC2.out.free 11
  have b2 := HC2.out.lt
  have e1 : IntKind.u32.wrap ((M : Int) - (U : Int)) = ((M - U : Nat) : Int) := by rw [show IntKind.u32.wrap ((M : Int) - (U : Int)) = ((M : Int) - (U : Int)) % 4294967296 from IntKind.wrap_u32 _]; omega
  clear hnew gs HC1 HS q11 b1 s3
  go_wp2_with fail
  go_quiet (fail)
  obtain ⟨w3, hnew⟩ : ∃ x, x = w2.drewN nq := ⟨_, rfl⟩
  rw [← hnew]
  have gs : w2.grownBy w3 none := by rw [hnew]; exact gr_drewN _ (gr_refl _ _)
  replace k5 := gs.cell k5 (by simp)
  replace k11 := gs.cell k11 (by simp)
  replace s5 := gs.cell s5 (by simp)
  have HC3 := hid (HC2.out.keep gs (by simp))
  have G3 := hid (gr_trans G2.out gs)
  have f11 := HC3.out.free 11
  have b3 := HC3.out.lt
  have hwi2 : IntKind.u32.wrap (wi : Int) = (wi : Int) := IntWalk.u32_in _ (by omega)
  clear hnew gs HC2 HS2 G2 b2 k2 k7
  go_upto_region 4 with fail
  obtain ⟨w4, hw4⟩ : ∃ x, x = w3.setCell { block := b, off := 11 } (.int .u32 (wi : Int)) := ⟨_, rfl⟩
  rw [← hw4]
  have hc4 : ConnAt w4 b { c with window := (wi : Int) } := by rw [hw4]; exact heap_set HC3.out
  have g34 : w3.grownBy w4 (some b) := by rw [hw4]; exact gr_set (gr_refl _ _)
  have G4 := hid (gr_trans (gr_none G3.out) g34)
  have ho4 := (HO.out.grow G3.out).kept g34 HC3.out (by decide)
  clear hw4 g34 k5 k11 s5 f11 b3 HC3 G3
  obtain ⟨K, hK⟩ : ∃ K, K = M - U := ⟨_, rfl⟩
  rw [← hK]
  have HKK := hid hK
  clear hK
  by_cases hK0 : K = 0
  · have hKb : (((K : Nat) : Int) == 0) = true := by simp [hK0]
    have HMU := hid (show U = M by have := HKK.out; omega)
    go_wp2_with fail
    refine bodyPost_ret (results_none rfl _ _ _) rfl ⟨rfl, ⟨c.out, c.timed, ?_, ?_⟩, G4.out⟩
    · have e : ({ c with una := (M : Nat), window := (wi : Nat), out := c.out, tries := 0, timed := c.timed, phase := 2 } : Cn) = { c with window := (wi : Int) } := by
        have h1 := hc.una
        have h2 := hph HMU.out
        have h3 := HMU.out
        cases c
        simp_all
      rw [e]
      exact hc4
    · rw [show M - B = 0 by have := HMU.out; have := HBU.out; omega, List.drop_zero]
      exact ho4
  · have hKb : (((K : Nat) : Int) == 0) = false := by simp; omega
    have k5 := hc4.all.c5
    replace k5 : _ = some (Value.int .u32 c.una) := k5
    rw [hc.una] at k5
    have f5 := hc4.free 5
    have b4 := hc4.lt
    have hM5 : (U : Int) + (K : Int) = (M : Int) := by have := HKK.out; omega
    have hM6 : IntKind.u32.wrap ((U : Int) + (K : Int)) = (M : Int) := by rw [hM5]; exact IntWalk.u32_in _ (by omega)
    have HC4 := hid hc4
    have HO4 := hid ho4
    clear hc4 ho4
    go_upto_region 6 with fail
    obtain ⟨w5, hw5⟩ : ∃ x, x = w4.setCell { block := b, off := 5 } (.int .u32 (M : Int)) := ⟨_, rfl⟩
    rw [← hw5]
    have hc5 : ConnAt w5 b { c with window := (wi : Int), una := (M : Int) } := by rw [hw5]; exact heap_set HC4.out
    have g45 : w4.grownBy w5 (some b) := by rw [hw5]; exact gr_set (gr_refl _ _)
    have G5 := hid (gr_trans G4.out g45)
    have ho5 := HO4.out.kept g45 HC4.out (by decide)
    obtain ⟨oa5, oc5, eo, hoc, hom⟩ : ∃ a cap, c.out = .slice a l.length cap ∧ l.length ≤ cap ∧ cap ≤ maxLen := by
      obtain ⟨a, cap, e, h1, h2, -⟩ := ho5.bytes
      exact ⟨a, cap, e, h1, h2⟩
    have HO5 := hid ho5
    have k5 := hc5.all.c5
    replace k5 : _ = some (Value.int .u32 (M : Int)) := k5
    have k8 := hc5.all.c8
    replace k8 : _ = some c.out := k8
    rw [eo] at k8
    have k9 := hc5.all.c9
    replace k9 : _ = some (Value.int .u32 c.tail) := k9
    rw [hc.tail] at k9
    have f8 := hc5.free 8
    have b5 := hc5.lt
    have HC5 := hid hc5
    have hom' : oc5 ≤ 9223372036854775807 := hom
    have hl9 := hc.hl
    have hB9 := hc.hB
    clear hw5 hc5 g45 ho5 HC4 HO4 G4 f5 b4 hom
    obtain ⟨T, hT⟩ : ∃ T, T = B + l.length := ⟨_, rfl⟩
    rw [← hT] at k9
    have hTM : M ≤ T := by omega
    have hMB : B ≤ M := by have := HBU.out; have := HKK.out; omega
    have HT := hid hT
    have hT2 : (B : Int) = (T : Int) - (l.length : Int) := by omega
    clear hT
    go_region
    have hd5 := ByAt.drop2 (eo ▸ HO5.out) (M - B) (by have := HT.out; omega)
    rw [show l.length - (T - M) = M - B by have := HT.out; omega]
    revert hd5
    generalize (if oc5 = M - B then oa5 else Option.map (fun x => x.add (M - B)) oa5) = oa6
    generalize oc5 - (M - B) = oc6
    intro hd5
    obtain ⟨w6, hw6⟩ : ∃ x, x = (w5.setCell { block := b, off := 8 } (.slice oa6 (l.length - (M - B)) oc6)).drew := ⟨_, rfl⟩
    rw [← hw6]
    have hc6 : ConnAt w6 b { c with window := (wi : Int), una := (M : Int), out := .slice oa6 (l.length - (M - B)) oc6 } := by rw [hw6]; exact heap_set HC5.out
    have g56 : w5.grownBy w6 (some b) := by rw [hw6]; exact gr_drew (gr_set (gr_refl _ _))
    have G6 := hid (gr_trans G5.out g56)
    have HO6 := hid (hd5.kept g56 HC5.out (by decide))
    have k5 := hc6.all.c5
    replace k5 : _ = some (Value.int .u32 (M : Int)) := k5
    have k6 := hc6.all.c6
    replace k6 : _ = some (Value.int .u32 c.next) := k6
    rw [hc.next] at k6
    have f6 := hc6.free 6
    have b6 := hc6.lt
    have HC6 := hid hc6
    clear hw6 hc6 g56 hd5 G5 HO5 HC5 k8 k9 f8 b5
    go_wp2_with fail
    go_region
    obtain ⟨w7, hw7⟩ : ∃ x, x = (w6.setCell { block := b, off := 6 } (.int .u32 (M : Int))).drew := ⟨_, rfl⟩
    rw [← hw7]
    have hc7 : ConnAt w7 b { c with window := (wi : Int), una := (M : Int), out := .slice oa6 (l.length - (M - B)) oc6, next := (M : Int) } := by rw [hw7]; exact heap_set HC6.out
    have g67 : w6.grownBy w7 (some b) := by rw [hw7]; exact gr_drew (gr_set (gr_refl _ _))
    have G7 := hid (gr_trans G6.out g67)
    have HO7 := hid (HO6.out.kept g67 HC6.out (by decide))
    have k17 := hc7.all.c17
    have k15 := hc7.all.c15
    replace k17 : _ = some (Value.int .i64 c.tries) := k17
    replace k15 : _ = some (Value.bool c.timed) := k15
    have f17 := hc7.free 17
    have f15 := hc7.free 15
    have b7 := hc7.lt
    have HC7 := hid hc7
    clear hw7 hc7 g67 G6 HO6 HC6 k5 k6 f6 b6
    go_upto_region 9 with fail
    obtain ⟨w8, hw8⟩ : ∃ x, x = (w7.setCell { block := b, off := 17 } (.int .i64 0)).setCell { block := b, off := 15 } (.bool false) := ⟨_, rfl⟩
    rw [← hw8]
    have hc8 : ConnAt w8 b { c with window := (wi : Int), una := (M : Int), out := .slice oa6 (l.length - (M - B)) oc6, next := (M : Int), tries := 0, timed := false } := by rw [hw8]; exact heap_set (heap_set HC7.out)
    have g78 : w7.grownBy w8 (some b) := by rw [hw8]; exact gr_set (gr_set (gr_refl _ _))
    have G8 := hid (gr_trans G7.out g78)
    have HO8 := hid (HO7.out.kept g78 HC7.out (by decide))
    have k5 := hc8.all.c5
    have k7 := hc8.all.c7
    have k4 := hc8.all.c4
    replace k5 : _ = some (Value.int .u32 (M : Int)) := k5
    replace k7 : _ = some (Value.int .u32 c.most) := k7
    replace k4 : _ = some (Value.int .i64 c.phase) := k4
    rw [hc.most] at k7
    have b8 := hc8.lt
    have HC8 := hid hc8
    clear hw8 hc8 g78 G7 HO7 HC7 k17 k15 f17 f15 b7
    go_quiet (fail)
    obtain ⟨w9, hnew⟩ : ∃ x, x = w8.drewN nq := ⟨_, rfl⟩
    rw [← hnew]
    have gs : w8.grownBy w9 none := by rw [hnew]; exact gr_drewN _ (gr_refl _ _)
    replace k4 := gs.cell k4 (by simp)
    have HC9 := hid (HC8.out.keep gs (by simp))
    have HO9 := hid (HO8.out.grow gs)
    have G9 := hid (gr_trans G8.out (gr_none gs))
    have f4 := HC9.out.free 4
    have b9 := HC9.out.lt
    clear hnew gs HC8 HO8 G8 b8 k5 k7
    go_wp2_with fail
    go_end0
    have gE : w9.grownBy (w9.setCell ⟨b, 4, none⟩ (.int .i64 2)) (some b) := gr_set (gr_refl _ _)
    refine ⟨rfl, ⟨.slice oa6 (l.length - (M - B)) oc6, false, ?_, HO9.out.kept gE HC9.out (by decide)⟩, gr_trans G9.out gE⟩
    have e : ({ c with una := (M : Nat), window := (wi : Nat), out := .slice oa6 (l.length - (M - B)) oc6, tries := 0, timed := false, phase := 2 } : Cn) = { c with window := (wi : Int), una := (M : Int), out := .slice oa6 (l.length - (M - B)) oc6, next := (M : Int), tries := 0, timed := false, phase := 2 } := by
      have h1 := hc.next
      cases c
      simp_all
    rw [e]
    exact heap_set HC9.out
end Go.Proofs.Ytcgmbeibhingcaa
