/- (*http.Parser).step: what a callee's step is, stored and handed on. -/
import Derived.Test.YtldbcdiomkkinaaGreatDoorHt7
import Derived.Test.YtldbcdiomkkinaaGreatDoorHt8
namespace Go.Proofs.YtldbcdiomkkinaaGreatDoor
open Go.RowKit

theorem StepPost.shape {w w' : World} {b : Nat} {r : Ps × Option Pd} {e : Ending} (h : StepPost w b r e w') : ∃ (st : Int) (m t : List UInt8) (mi : Int) (fa : Option Addr) (fn fc : Nat) (ba : Option Addr) (bn bc : Nat) (k ok : Bool), e = .returned (.tuple #[.agg #[.int .i64 st, .string ⟨m.toArray⟩, .string ⟨t.toArray⟩, .int .i64 mi, .slice fa fn fc, .slice ba bn bc, .bool k], .bool ok]) := by
  obtain ⟨-, -, ⟨-, rfl⟩ | ⟨p, fa, fc, ba, bc, -, rfl, -, -⟩⟩ := h
  · exact ⟨0, [], [], 0, none, 0, 0, none, 0, 0, false, false, rfl⟩
  · exact ⟨p.status, p.req.method, p.req.target, p.req.minor, fa, p.req.fields.length, fc, ba, p.req.body.length, bc, p.req.keep, true, rfl⟩
theorem StepPost.wrap {w w1 w3 w9 : World} {b n0 : Nat} {r : Ps × Option Pd} {e : Ending} {cs : Array Value} (h : StepPost w1 b r e w3) (g1 : w.grownBy w1 none) (hn : w3.heap[n0]? = some (.cells cs 46 (0, 0))) (g9 : w3.grownBy w9 (some n0)) (h0 : w.heap.size ≤ n0) (hu : NoU8 cs) : StepPost w b r e w9 := by
  obtain ⟨hp, g, hh⟩ := h
  refine ⟨hp.kept g9 hn (by decide) (by decide) (by decide) hu, gr_new (gr_trans (gr_none g1) g) g9 h0, ?_⟩
  rcases hh with h1 | ⟨p, fa, fc, ba, bc, h1, h2, h3, h4⟩
  · exact .inl h1
  · exact .inr ⟨p, fa, fc, ba, bc, h1, h2, h3.kept g9 hn (by decide), h4.kept g9 hn (by decide) hu⟩
set_option maxRecDepth 20000 in
set_option maxHeartbeats 4000000 in
theorem step_call (b : Nat) (s : Ps) (w : World) (h : PLive w b s) (hok : PsOk s) (hst : s.stage = 2 ∨ s.stage = 3 ∨ s.stage = 4) : Calls Tryz.prog 29 #[.pointer (some ⟨b, 0, none⟩)] w (StepPost w b (stepS s)) := by
  have HL := hid h
  have HOK := hid hok
  have hh := h
  obtain ⟨rv, fv, bv, hh, -, -, -⟩ := hh
  have c1 := (cell_of_block hh 1).trans (show _ = some (Value.int .i64 (s.stage : Int)) from rfl)
  have HH := hid hh
  clear h hok hh
  have hN := heap_alloc_new w (.cells #[.int .i64 0, .string ⟨#[]⟩, .string ⟨#[]⟩, .int .i64 0, .slice none 0 0, .slice none 0 0, .bool false] 46)
  have g1 := World.grownBy_alloc w (.cells #[.int .i64 0, .string ⟨#[]⟩, .string ⟨#[]⟩, .int .i64 0, .slice none 0 0, .slice none 0 0, .bool false] 46) none
  replace c1 := g1.cell c1 (by simp)
  rcases hst with hs | hs | hs
  · rw [hs] at c1
    have HSS := hid (show stepS s = sizeS s by unfold stepS; rw [hs]; rfl)
    have HSZ := hid hs
    clear hs
    go_enter Tryz.func29, Tryz.ntmps29
    go_wp2_with fail
    revert hN g1 c1
    generalize w.alloc _ = w1
    intro hN g1 c1
    refine (size_http b s w1 (HL.out.grow g1) HSZ.out HOK.out).mono ?_
    intro e w3 hp
    obtain ⟨st, m, t, mi, fa, fn, fc, ba, bn, bc, k, ok, rfl⟩ := hp.shape
    have HPP := hid hp
    have hg3 := hp.2.1
    have HN3 := hid (gr_keep hg3 hN (blk_ne hN (gr_keep g1 HH.out (by simp)) (by decide)))
    have HG1 := hid g1
    clear hp hg3 hN g1 c1
    have y0 := free_of_block HN3.out 0
    have y1 := free_of_block HN3.out 1
    have y2 := free_of_block HN3.out 2
    have y3 := free_of_block HN3.out 3
    have y4 := free_of_block HN3.out 4
    have y5 := free_of_block HN3.out 5
    have y6 := free_of_block HN3.out 6
    have n0 := (cell_of_block HN3.out 0).trans (show _ = some (Value.int .i64 0) from rfl)
    have n1 := (cell_of_block HN3.out 1).trans (show _ = some (Value.string ⟨#[]⟩) from rfl)
    have n2 := (cell_of_block HN3.out 2).trans (show _ = some (Value.string ⟨#[]⟩) from rfl)
    have n3 := (cell_of_block HN3.out 3).trans (show _ = some (Value.int .i64 0) from rfl)
    have n4 := (cell_of_block HN3.out 4).trans (show _ = some (Value.slice none 0 0) from rfl)
    have n5 := (cell_of_block HN3.out 5).trans (show _ = some (Value.slice none 0 0) from rfl)
    have n6 := (cell_of_block HN3.out 6).trans (show _ = some (Value.bool false) from rfl)
    have lnn := lt_of_block HN3.out
    go_wp2_with fail
    have H7 := pd_set7 (.int .i64 st) (.string ⟨m.toArray⟩) (.string ⟨t.toArray⟩) (.int .i64 mi) (.slice fa fn fc) (.slice ba bn bc) (.bool k) HN3.out
    revert H7
    generalize ((((((w3.setCell _ _).setCell _ _).setCell _ _).setCell _ _).setCell _ _).setCell _ _).setCell _ _ = w9
    rintro ⟨hn9, g9⟩
    have e0 := cell_of_block hn9 0
    have e1 := cell_of_block hn9 1
    have e2 := cell_of_block hn9 2
    have e3 := cell_of_block hn9 3
    have e4 := cell_of_block hn9 4
    have e5 := cell_of_block hn9 5
    have e6 := cell_of_block hn9 6
    (try simp only [Exit.inBlock, Exit.then])
    refine bodyPost_ret (v := .tuple #[.agg #[.int .i64 st, .string ⟨m.toArray⟩, .string ⟨t.toArray⟩, .int .i64 mi, .slice fa fn fc, .slice ba bn bc, .bool k], .bool ok]) ?_ rfl (by rw [HSS.out]; exact HPP.out.wrap HG1.out HN3.out g9 (Nat.le_refl _) (no_u8_pd _ _ _ _ _ _ _))
    simp [results, Tryz.results29, go_sem, e0, e1, e2, e3, e4, e5, e6]
  · rw [hs] at c1
    have HSS := hid (show stepS s = chunkS s by unfold stepS; rw [hs]; rfl)
    have HSZ := hid hs
    clear hs
    go_enter Tryz.func29, Tryz.ntmps29
    go_wp2_with fail
    revert hN g1 c1
    generalize w.alloc _ = w1
    intro hN g1 c1
    refine (chunk_http b s w1 (HL.out.grow g1) HSZ.out HOK.out).mono ?_
    intro e w3 hp
    obtain ⟨st, m, t, mi, fa, fn, fc, ba, bn, bc, k, ok, rfl⟩ := hp.shape
    have HPP := hid hp
    have hg3 := hp.2.1
    have HN3 := hid (gr_keep hg3 hN (blk_ne hN (gr_keep g1 HH.out (by simp)) (by decide)))
    have HG1 := hid g1
    clear hp hg3 hN g1 c1
    have y0 := free_of_block HN3.out 0
    have y1 := free_of_block HN3.out 1
    have y2 := free_of_block HN3.out 2
    have y3 := free_of_block HN3.out 3
    have y4 := free_of_block HN3.out 4
    have y5 := free_of_block HN3.out 5
    have y6 := free_of_block HN3.out 6
    have n0 := (cell_of_block HN3.out 0).trans (show _ = some (Value.int .i64 0) from rfl)
    have n1 := (cell_of_block HN3.out 1).trans (show _ = some (Value.string ⟨#[]⟩) from rfl)
    have n2 := (cell_of_block HN3.out 2).trans (show _ = some (Value.string ⟨#[]⟩) from rfl)
    have n3 := (cell_of_block HN3.out 3).trans (show _ = some (Value.int .i64 0) from rfl)
    have n4 := (cell_of_block HN3.out 4).trans (show _ = some (Value.slice none 0 0) from rfl)
    have n5 := (cell_of_block HN3.out 5).trans (show _ = some (Value.slice none 0 0) from rfl)
    have n6 := (cell_of_block HN3.out 6).trans (show _ = some (Value.bool false) from rfl)
    have lnn := lt_of_block HN3.out
    go_wp2_with fail
    have H7 := pd_set7 (.int .i64 st) (.string ⟨m.toArray⟩) (.string ⟨t.toArray⟩) (.int .i64 mi) (.slice fa fn fc) (.slice ba bn bc) (.bool k) HN3.out
    revert H7
    generalize ((((((w3.setCell _ _).setCell _ _).setCell _ _).setCell _ _).setCell _ _).setCell _ _).setCell _ _ = w9
    rintro ⟨hn9, g9⟩
    have e0 := cell_of_block hn9 0
    have e1 := cell_of_block hn9 1
    have e2 := cell_of_block hn9 2
    have e3 := cell_of_block hn9 3
    have e4 := cell_of_block hn9 4
    have e5 := cell_of_block hn9 5
    have e6 := cell_of_block hn9 6
    (try simp only [Exit.inBlock, Exit.then])
    refine bodyPost_ret (v := .tuple #[.agg #[.int .i64 st, .string ⟨m.toArray⟩, .string ⟨t.toArray⟩, .int .i64 mi, .slice fa fn fc, .slice ba bn bc, .bool k], .bool ok]) ?_ rfl (by rw [HSS.out]; exact HPP.out.wrap HG1.out HN3.out g9 (Nat.le_refl _) (no_u8_pd _ _ _ _ _ _ _))
    simp [results, Tryz.results29, go_sem, e0, e1, e2, e3, e4, e5, e6]
  · rw [hs] at c1
    have HSS := hid (show stepS s = trailerS s by unfold stepS; rw [hs]; rfl)
    have HSZ := hid hs
    clear hs
    go_enter Tryz.func29, Tryz.ntmps29
    go_wp2_with fail
    revert hN g1 c1
    generalize w.alloc _ = w1
    intro hN g1 c1
    refine (trailer_http b s w1 (HL.out.grow g1) HSZ.out HOK.out).mono ?_
    intro e w3 hp
    obtain ⟨st, m, t, mi, fa, fn, fc, ba, bn, bc, k, ok, rfl⟩ := hp.shape
    have HPP := hid hp
    have hg3 := hp.2.1
    have HN3 := hid (gr_keep hg3 hN (blk_ne hN (gr_keep g1 HH.out (by simp)) (by decide)))
    have HG1 := hid g1
    clear hp hg3 hN g1 c1
    have y0 := free_of_block HN3.out 0
    have y1 := free_of_block HN3.out 1
    have y2 := free_of_block HN3.out 2
    have y3 := free_of_block HN3.out 3
    have y4 := free_of_block HN3.out 4
    have y5 := free_of_block HN3.out 5
    have y6 := free_of_block HN3.out 6
    have n0 := (cell_of_block HN3.out 0).trans (show _ = some (Value.int .i64 0) from rfl)
    have n1 := (cell_of_block HN3.out 1).trans (show _ = some (Value.string ⟨#[]⟩) from rfl)
    have n2 := (cell_of_block HN3.out 2).trans (show _ = some (Value.string ⟨#[]⟩) from rfl)
    have n3 := (cell_of_block HN3.out 3).trans (show _ = some (Value.int .i64 0) from rfl)
    have n4 := (cell_of_block HN3.out 4).trans (show _ = some (Value.slice none 0 0) from rfl)
    have n5 := (cell_of_block HN3.out 5).trans (show _ = some (Value.slice none 0 0) from rfl)
    have n6 := (cell_of_block HN3.out 6).trans (show _ = some (Value.bool false) from rfl)
    have lnn := lt_of_block HN3.out
    go_wp2_with fail
    have H7 := pd_set7 (.int .i64 st) (.string ⟨m.toArray⟩) (.string ⟨t.toArray⟩) (.int .i64 mi) (.slice fa fn fc) (.slice ba bn bc) (.bool k) HN3.out
    revert H7
    generalize ((((((w3.setCell _ _).setCell _ _).setCell _ _).setCell _ _).setCell _ _).setCell _ _).setCell _ _ = w9
    rintro ⟨hn9, g9⟩
    have e0 := cell_of_block hn9 0
    have e1 := cell_of_block hn9 1
    have e2 := cell_of_block hn9 2
    have e3 := cell_of_block hn9 3
    have e4 := cell_of_block hn9 4
    have e5 := cell_of_block hn9 5
    have e6 := cell_of_block hn9 6
    (try simp only [Exit.inBlock, Exit.then])
    refine bodyPost_ret (v := .tuple #[.agg #[.int .i64 st, .string ⟨m.toArray⟩, .string ⟨t.toArray⟩, .int .i64 mi, .slice fa fn fc, .slice ba bn bc, .bool k], .bool ok]) ?_ rfl (by rw [HSS.out]; exact HPP.out.wrap HG1.out HN3.out g9 (Nat.le_refl _) (no_u8_pd _ _ _ _ _ _ _))
    simp [results, Tryz.results29, go_sem, e0, e1, e2, e3, e4, e5, e6]
end Go.Proofs.YtldbcdiomkkinaaGreatDoor
