/- (*stream.Conn).received of nothing; Take of an ACK of all that was sent. -/
import Derived.Test.YtcgmbeibhingcaaSw7
namespace Go.Proofs.Ytcgmbeibhingcaa
open Go.RowKit

theorem app_nil (ty : TypeId) (w : World) : (Builtin.append_ #[32, 32] ty #[.slice none 0 0, .slice none 0 0]).run Try.prog w = .ok (.slice none 0 0) w := by
  obtain ⟨i, hi, hz, hs, hby⟩ := info_parts infoU8'
  simp [Builtin.append_, run_underlying Try.underlying32, sizeOf, typeInfo, hi, Builtin.lenOf, Builtin.firstCells]
set_option maxRecDepth 20000 in
set_option maxHeartbeats 4000000 in
theorem received_none (b : Nat) (c : Cn) (w : World) (f t sq ak ur wi : Int) (oa : Option Addr) (on oc : Nat) (h : ConnAt w b c) (hu : c.unread = .slice none 0 0) (he : c.ended = false) (ho : c.other = 9) (hs : c.seen = 1) (hsq : sq = 10) :
    Calls Try.prog 30 #[.pointer (some ⟨b, 0, none⟩), .agg #[.int .u16 f, .int .u16 t, .int .u32 sq, .int .u32 ak, .int .u8 16, .int .u16 wi, .int .u16 ur, .slice oa on oc, .slice none 0 0]] w fun e w' => e = .returned (.tuple #[]) ∧ ConnAt w' b c ∧ w.grownBy w' (some b) := by
  subst hsq
  have hlt := h.lt
  have HC := hid h
  have happ := app_nil
  have hb1 : bits BinOp.and IntKind.u8 16 1 = 0 := by decide
  clear h
  go_enter Try.func30, Try.ntmps30
  go_wp2_with fail
  generalize hw1 : w.alloc _ = w1
  have g1 : w.grownBy w1 none := by rw [← hw1]; exact World.grownBy_alloc _ _ none
  have hs1 := heap_alloc_new w (.cells #[.int .u16 f, .int .u16 t, .int .u32 10, .int .u32 ak, .int .u8 16, .int .u16 wi, .int .u16 ur, .slice oa on oc, .slice none 0 0] 34)
  rw [hw1] at hs1
  clear hw1
  have s2 := (cell_of_block hs1 2).trans (show _ = some (Value.int .u32 10) from rfl)
  have hc1 := HC.out.keep g1 (by simp)
  have k3 := hc1.all.c3
  have k12 := hc1.all.c12
  rw [ho] at k3
  rw [hs] at k12
  have HC1 := hid hc1
  have HS := hid hs1
  clear hc1 hs1
  go_quiet (fail)
  obtain ⟨w2, hnew⟩ : ∃ x, x = w1.drewN nq := ⟨_, rfl⟩
  rw [← hnew]
  have gs : w1.grownBy w2 none := by rw [hnew]; exact gr_drewN _ (gr_refl _ _)
  have HC2 := hid (HC1.out.keep gs (by simp))
  have HS2 := hid (gr_keep gs HS.out (by simp))
  have G2 := hid (gr_trans g1 gs)
  clear hnew gs HC1 HS s2 k3 k12 g1
  have k13 := HC2.out.all.c13
  rw [he] at k13
  have k14 := HC2.out.all.c14
  rw [hu] at k14
  have s8 := (cell_of_block HS2.out 8).trans (show _ = some (Value.slice none 0 0) from rfl)
  have f14 := HC2.out.free 14
  have b2 := HC2.out.lt
  go_wp2_with fail
  go_region
  obtain ⟨w3, hw3⟩ : ∃ x, x = (w2.setCell { block := b, off := 14 } (.slice none 0 0)).drew := ⟨_, rfl⟩
  rw [← hw3]
  have hc3 : ConnAt w3 b c := by
    have e : ({ c with unread := .slice none 0 0 } : Cn) = c := by cases c; simp_all
    have := (show ConnAt w3 b { c with unread := .slice none 0 0 } by rw [hw3]; exact heap_set HC2.out)
    rw [e] at this
    exact this
  have g23 : w2.grownBy w3 (some b) := by rw [hw3]; exact gr_drew (gr_set (gr_refl _ _))
  have HS3 := hid (gr_keep g23 HS2.out (blk_ne HS2.out HC2.out (by decide)))
  have G3 := hid (gr_trans (gr_none G2.out) g23)
  have k12 := hc3.all.c12
  rw [hs] at k12
  have f12 := hc3.free 12
  have b3 := hc3.lt
  have HC3 := hid hc3
  clear hw3 hc3 g23 HC2 HS2 G2 k13 k14 s8 f14 b2
  go_upto_region 7 with fail
  obtain ⟨w4, hw4⟩ : ∃ x, x = (w3.setCell { block := b, off := 12 } (.int .u32 1)) := ⟨_, rfl⟩
  rw [← hw4]
  have hc4 : ConnAt w4 b c := by
    have e : ({ c with seen := 1 } : Cn) = c := by cases c; simp_all
    have := (show ConnAt w4 b { c with seen := 1 } by rw [hw4]; exact heap_set HC3.out)
    rw [e] at this
    exact this
  have g34 : w3.grownBy w4 (some b) := by rw [hw4]; exact gr_set (gr_refl _ _)
  have HS4 := gr_keep g34 HS3.out (blk_ne HS3.out HC3.out (by decide))
  have G4 := hid (gr_trans G3.out g34)
  have s4 := (cell_of_block HS4 4).trans (show _ = some (Value.int .u8 16) from rfl)
  clear hw4 g34 HC3 HS3 G3 k12 f12 b3
  go_wp2_with fail
  go_end0
  exact ⟨rfl, hc4, G4.out⟩

theorem own_base {w : World} {base base' size n : Nat} {e : TypeId} {v : Value} {xs : List Value} (h : w.ownsRow base e size v n xs) (hb : base' ≤ base) : w.ownsRow base' e size v n xs := by
  refine ⟨h.1, ?_⟩
  rcases h.2 with h0 | ⟨g, cap, cur, rfl, hg, r⟩
  · exact .inl h0
  · exact .inr ⟨g, cap, cur, rfl, by omega, r⟩
/-- What Take of an ACK leaves. -/
def TakePost (w : World) (b : Nat) (c : Cn) (l : List UInt8) (B un T E N M wi : Nat) (e : Ending) (w' : World) : Prop :=
  ∃ outv segs N' out, e = .returned outv ∧ w'.ownsRow w.heap.size 34 9 outv segs.length (segsL { c with phase := 2 } un segs) ∧ (∀ s ∈ segs, ByAt w' s.2.2 ((l.drop (s.1 - B)).take s.2.1)) ∧ Chain T E N segs N' ∧ (T ≤ N' ∨ E ≤ N') ∧
    ConnT w' b { c with una := (M : Nat), window := (wi : Nat), out := out, tries := 0, phase := 2, next := (N' : Nat), most := (max M N' : Nat) } ∧ w.grownBy w' (some b) ∧ ByAt w' out l
theorem takePost_grow {w W W' : World} {b : Nat} {c : Cn} {l : List UInt8} {B un T E N M wi : Nat} {e : Ending} (h : TakePost w b c l B un T E N M wi e W) (g : W.grownBy W' none) : TakePost w b c l B un T E N M wi e W' := by
  obtain ⟨outv, segs, N', out, h1, h2, h3, h4, h5, ⟨t, d, h6⟩, h7, h8⟩ := h
  exact ⟨outv, segs, N', out, h1, row_none h2 g, fun s hs => (h3 s hs).grow g, h4, h5, ⟨t, d, h6.keep g (by simp)⟩, gr_trans h7 (gr_none g), h8.grow g⟩
set_option maxRecDepth 20000 in
set_option maxHeartbeats 4000000 in
theorem take_ack (b : Nat) (c : Cn) (w : World) (now : Int) (B U M W wi : Nat) (l : List UInt8) (f t ur : Int) (oa : Option Addr) (on oc : Nat) (h : ConnAt w b c) (hc : CnN c B U M M W 0 l) (hU : U ≤ M) (hB : B = max U 1) (hM1 : 1 ≤ M) (hM : M ≤ B + l.length) (hM2 : M ≤ 20000) (hwi : wi ≤ 65535) (htr : c.tries = 0) (hph : U = M → c.phase = 2) (hp2 : c.phase = 1 ∨ c.phase = 2)
    (hu : c.unread = .slice none 0 0) (he : c.ended = false) (hcl : c.closing = false) (hot : c.other = 9) (hs : c.seen = 1) (ho : ByAt w c.out l) :
    Calls Try.prog 13 #[.pointer (some ⟨b, 0, none⟩), .agg #[.int .u16 f, .int .u16 t, .int .u32 10, .int .u32 ((c.own + M) % 4294967296), .int .u8 16, .int .u16 wi, .int .u16 ur, .slice oa on oc, .slice none 0 0], .int .u64 now] w (TakePost w b c (l.drop (M - B)) M 0 (B + l.length) (M + max wi 1) M M wi) := by
  have hlt := h.lt
  have h4 := h.all.c4
  have hb4 : bits BinOp.and IntKind.u8 16 4 = 0 := by decide
  have hb2 : bits BinOp.and IntKind.u8 16 2 = 0 := by decide
  have hb16 : bits BinOp.and IntKind.u8 16 16 = 16 := by decide
  have hb1 : bits BinOp.and IntKind.u8 16 1 = 0 := by decide
  have hp0 : (c.phase == 0) = false := by rcases hp2 with e | e <;> rw [e] <;> rfl
  have hov : overB c = false := by rcases hp2 with e | e <;> simp [overB, e]
  have HC := hid h
  have HO := hid ho
  have HBU := hid hB
  clear h ho hB
  go_enter Try.func13, Try.ntmps13
  go_wp2_with fail
  have g1 := World.grownBy_alloc w (.cells #[.int .u16 f, .int .u16 t, .int .u32 10, .int .u32 ((c.own + M) % 4294967296), .int .u8 16, .int .u16 wi, .int .u16 ur, .slice oa on oc, .slice none 0 0] 34) none
  have hs1 := heap_alloc_new w (.cells #[.int .u16 f, .int .u16 t, .int .u32 10, .int .u32 ((c.own + M) % 4294967296), .int .u8 16, .int .u16 wi, .int .u16 ur, .slice oa on oc, .slice none 0 0] 34)
  revert g1 hs1
  generalize w.alloc _ = w1
  intro g1 hs1
  have hc1 := HC.out.keep g1 (by simp)
  have k4 := hc1.all.c4
  have s0 := (cell_of_block hs1 0).trans (show _ = some (Value.int .u16 f) from rfl)
  have s1 := (cell_of_block hs1 1).trans (show _ = some (Value.int .u16 t) from rfl)
  have s2 := (cell_of_block hs1 2).trans (show _ = some (Value.int .u32 10) from rfl)
  have s3 := (cell_of_block hs1 3).trans (show _ = some (Value.int .u32 ((c.own + M) % 4294967296)) from rfl)
  have s4 := (cell_of_block hs1 4).trans (show _ = some (Value.int .u8 16) from rfl)
  have s5 := (cell_of_block hs1 5).trans (show _ = some (Value.int .u16 wi) from rfl)
  have s6 := (cell_of_block hs1 6).trans (show _ = some (Value.int .u16 ur) from rfl)
  have s7 := (cell_of_block hs1 7).trans (show _ = some (Value.slice oa on oc) from rfl)
  have s8 := (cell_of_block hs1 8).trans (show _ = some (Value.slice none 0 0) from rfl)
  have HC1 := hid hc1
  have HS := hid hs1
  have l1 := lt_of_block hs1
  refine (over_any b c _ hc1).mono ?_
  rintro e w2 ⟨rfl, rfl⟩
  rw [hov]
  clear hc1 hs1 h4
  go_wp2_with fail
  refine (acked_any b c w1 now B U M W 0 wi l f t 10 16 ur oa none on oc 0 0 HC1.out hc hU HBU.out hM1 hM hM2 hwi htr hph (HO.out.grow g1)).mono ?_
  rintro e w2 ⟨rfl, ⟨out, ti, hc2, ho2⟩, g12⟩
  have hs2 := gr_keep g12 HS.out (blk_ne HS.out HC1.out (by decide))
  have G2 := hid (gr_trans (gr_none g1) g12)
  have HC2 := hid hc2
  have HO2 := hid ho2
  have HS2 := hid hs2
  clear s0 s1 s2 s3 s4 s5 s6 s7 s8 HC1 HS HC HO l1 g12 k4
  have k4 := hc2.all.c4
  replace k4 : _ = some (Value.int .i64 2) := k4
  have s0 := (cell_of_block hs2 0).trans (show _ = some (Value.int .u16 f) from rfl)
  have s1 := (cell_of_block hs2 1).trans (show _ = some (Value.int .u16 t) from rfl)
  have s2 := (cell_of_block hs2 2).trans (show _ = some (Value.int .u32 10) from rfl)
  have s3 := (cell_of_block hs2 3).trans (show _ = some (Value.int .u32 ((c.own + M) % 4294967296)) from rfl)
  have s4 := (cell_of_block hs2 4).trans (show _ = some (Value.int .u8 16) from rfl)
  have s5 := (cell_of_block hs2 5).trans (show _ = some (Value.int .u16 wi) from rfl)
  have s6 := (cell_of_block hs2 6).trans (show _ = some (Value.int .u16 ur) from rfl)
  have s7 := (cell_of_block hs2 7).trans (show _ = some (Value.slice oa on oc) from rfl)
  have s8 := (cell_of_block hs2 8).trans (show _ = some (Value.slice none 0 0) from rfl)
  have l2 := lt_of_block hs2
  have b2 := hc2.lt
  clear hc2 ho2 hs2
  go_wp2_with fail
  refine (received_none b { c with una := (M : Nat), window := (wi : Nat), out := out, tries := 0, timed := ti, phase := 2 } w2 f t 10 ((c.own + M) % 4294967296) ur wi oa on oc HC2.out hu he hot hs rfl).mono ?_
  rintro e w3 ⟨rfl, hc3, g23⟩
  have HS3 := hid (gr_keep g23 HS2.out (blk_ne HS2.out HC2.out (by decide)))
  have HC3 := hid hc3
  have HO3 := hid (HO2.out.kept g23 HC2.out (by decide))
  have G3 := hid (gr_trans G2.out g23)
  clear s0 s1 s2 s3 s4 s5 s6 s7 s8 hc3 g23 HS2 HC2 HO2 G2 l2 b2 k4
  go_wp2_with fail
  have hcn : CnN { c with una := (M : Nat), window := (wi : Nat), out := out, tries := 0, timed := ti, phase := 2 } M M M M wi 0 (l.drop (M - B)) := ⟨rfl, hc.next, hc.most, rfl, by
    have h1 := hc.tail
    have h2 : (l.drop (M - B)).length = l.length - (M - B) := List.length_drop
    have h3 := HBU.out
    show c.tail = _
    rw [h1, h2]
    omega, hM1, Nat.le_refl _, by have h2 : (l.drop (M - B)).length = l.length - (M - B) := List.length_drop
                                  have := hc.hl; omega, hM2, hM2, by omega, by omega, hwi, by omega⟩
  refine (flush_any b { c with una := (M : Nat), window := (wi : Nat), out := out, tries := 0, timed := ti, phase := 2 } w3 now M M M M wi 0 (l.drop (M - B)) none 0 HC3.out hcn hu rfl hcl rfl HO3.out hM2 (Nat.le_refl _)).mono ?_
  rintro e w4 ⟨outv, segs, N', rfl, hrow, hdat, hch, hdone, hct, g34, ho4⟩
  rw [show M + (l.drop (M - B)).length = B + l.length by
    have h2 : (l.drop (M - B)).length = l.length - (M - B) := List.length_drop
    have h3 := HBU.out
    omega] at hch hdone
  obtain ⟨va, vc, hov4, -⟩ := row_shape hrow
  obtain ⟨ti2, du2, hc4⟩ := hct
  have HS4 := hid (gr_keep g34 HS3.out (blk_ne HS3.out HC3.out (by decide)))
  have G4 := hid (gr_trans G3.out g34)
  have HC4 := hid hc4
  have sz3 := G3.out.size
  have FIN := hid (show TakePost w b c (l.drop (M - B)) M 0 (B + l.length) (M + max wi 1) M M wi (.returned outv) w4 from ⟨outv, segs, N', out, rfl, own_base hrow sz3, hdat, hch, hdone, ⟨ti2, du2, hc4⟩, G4.out, ho4⟩)
  rw [hov4] at FIN ⊢
  clear hrow hdat hch hdone hc4 g34 ho4 HS3 HC3 HO3 G3 hcn hov4
  have s4 := (cell_of_block HS4.out 4).trans (show _ = some (Value.int .u8 16) from rfl)
  have s8 := (cell_of_block HS4.out 8).trans (show _ = some (Value.slice none 0 0) from rfl)
  have k13 := HC4.out.all.c13
  replace k13 : _ = some (Value.bool c.ended) := k13
  rw [he] at k13
  have b4 := HC4.out.lt
  have l4 := lt_of_block HS4.out
  obtain ⟨n, hn⟩ : ∃ n, n = segs.length := ⟨_, rfl⟩
  rw [← hn] at FIN ⊢
  clear hn
  by_cases hn0 : n = 0
  · subst hn0
    go_wp2_with fail
    go_quiet (fail)
    go_wp2_with fail
    go_ret
    exact takePost_grow FIN.out (gr_drewN _ (gr_refl _ _))
  · have hnb : (((n : Nat) : Int) == 0) = false := by simp; omega
    go_wp2_with fail
    go_quiet (fail)
    go_wp2_with fail
    go_ret
    exact takePost_grow FIN.out (gr_drewN _ (gr_refl _ _))
end Go.Proofs.Ytcgmbeibhingcaa
