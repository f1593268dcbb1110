/- (*http.Parser).step as one law; what was read, as it lies in memory. -/
import Derived.Test.YtldbcdiomkkinaaGreatDoorHtp
import Derived.Test.YtldbcdiomkkinaaGreatDoorHtt
import Derived.Test.YtldbcdiomkkinaaGreatDoorHtd
namespace Go.Proofs.YtldbcdiomkkinaaGreatDoor
open Go.RowKit

set_option maxRecDepth 20000 in
set_option maxHeartbeats 4000000 in
theorem step_head (b : Nat) (s : Ps) (w : World) (mx : Int) (h : PLive w b s) (hok : PsOk s) (hs : s.stage = 0) (hz : s.req = Rq.zero) (hm : w.cell? ⟨0, 0, none⟩ = some (.int .i64 mx)) (hb0 : b ≠ 0) : Calls Tryz.prog 29 #[.pointer (some ⟨b, 0, none⟩)] w (StepPost w b (stepS s)) := by
  have HL := hid h
  have HOK := hid hok
  have HRZ := hid hz
  have HM := hid hm
  have HB0 := hid hb0
  have hh := h
  obtain ⟨rv, fv, bv, hh, -, -, -⟩ := hh
  have c1 := (cell_of_block hh 1).trans (show _ = some (Value.int .i64 (s.stage : Int)) from rfl)
  have HH := hid hh
  clear h hok hh hz hm hb0
  have hN := heap_alloc_new w (.cells #[.int .i64 0, .string ⟨#[]⟩, .string ⟨#[]⟩, .int .i64 0, .slice none 0 0, .slice none 0 0, .bool false] 46)
  have g1 := World.grownBy_alloc w (.cells #[.int .i64 0, .string ⟨#[]⟩, .string ⟨#[]⟩, .int .i64 0, .slice none 0 0, .slice none 0 0, .bool false] 46) none
  replace c1 := g1.cell c1 (by simp)
  rw [hs] at c1
  have HSS := hid (show stepS s = headS s by unfold stepS; rw [hs]; rfl)
  have HSZ := hid hs
  clear hs
  go_enter Tryz.func29, Tryz.ntmps29
  go_wp2_with fail
  revert hN g1 c1
  generalize w.alloc _ = w1
  intro hN g1 c1
  refine ((fun _ _ _ h hs hok => head_http b s w1 mx h hs HRZ.out hok (g1.cell HM.out (by simp)) HB0.out) b s w1 (HL.out.grow g1) HSZ.out HOK.out).mono ?_
  intro e w3 hp
  obtain ⟨st, m, t, mi, fa, fn, fc, ba, bn, bc, k, ok, rfl⟩ := hp.shape
  have HPP := hid hp
  have hg3 := hp.2.1
  have HN3 := hid (gr_keep hg3 hN (blk_ne hN (gr_keep g1 HH.out (by simp)) (by decide)))
  have HG1 := hid g1
  clear hp hg3 hN g1 c1
  have y0 := free_of_block HN3.out 0
  have y1 := free_of_block HN3.out 1
  have y2 := free_of_block HN3.out 2
  have y3 := free_of_block HN3.out 3
  have y4 := free_of_block HN3.out 4
  have y5 := free_of_block HN3.out 5
  have y6 := free_of_block HN3.out 6
  have n0 := (cell_of_block HN3.out 0).trans (show _ = some (Value.int .i64 0) from rfl)
  have n1 := (cell_of_block HN3.out 1).trans (show _ = some (Value.string ⟨#[]⟩) from rfl)
  have n2 := (cell_of_block HN3.out 2).trans (show _ = some (Value.string ⟨#[]⟩) from rfl)
  have n3 := (cell_of_block HN3.out 3).trans (show _ = some (Value.int .i64 0) from rfl)
  have n4 := (cell_of_block HN3.out 4).trans (show _ = some (Value.slice none 0 0) from rfl)
  have n5 := (cell_of_block HN3.out 5).trans (show _ = some (Value.slice none 0 0) from rfl)
  have n6 := (cell_of_block HN3.out 6).trans (show _ = some (Value.bool false) from rfl)
  have lnn := lt_of_block HN3.out
  go_wp2_with fail
  have H7 := pd_set7 (.int .i64 st) (.string ⟨m.toArray⟩) (.string ⟨t.toArray⟩) (.int .i64 mi) (.slice fa fn fc) (.slice ba bn bc) (.bool k) HN3.out
  revert H7
  generalize ((((((w3.setCell _ _).setCell _ _).setCell _ _).setCell _ _).setCell _ _).setCell _ _).setCell _ _ = w9
  rintro ⟨hn9, g9⟩
  have e0 := cell_of_block hn9 0
  have e1 := cell_of_block hn9 1
  have e2 := cell_of_block hn9 2
  have e3 := cell_of_block hn9 3
  have e4 := cell_of_block hn9 4
  have e5 := cell_of_block hn9 5
  have e6 := cell_of_block hn9 6
  (try simp only [Exit.inBlock, Exit.then])
  refine bodyPost_ret (v := .tuple #[.agg #[.int .i64 st, .string ⟨m.toArray⟩, .string ⟨t.toArray⟩, .int .i64 mi, .slice fa fn fc, .slice ba bn bc, .bool k], .bool ok]) ?_ rfl (by rw [HSS.out]; exact HPP.out.wrap HG1.out HN3.out g9 (Nat.le_refl _) (no_u8_pd _ _ _ _ _ _ _))
  simp [results, Tryz.results29, go_sem, e0, e1, e2, e3, e4, e5, e6]
theorem step_http (b : Nat) (s : Ps) (w : World) (mx : Int) (h : PLive w b s) (hi : PsInv s) (h5 : s.stage ≠ 5) (hm : w.cell? ⟨0, 0, none⟩ = some (.int .i64 mx)) (hb0 : b ≠ 0) : Calls Tryz.prog 29 #[.pointer (some ⟨b, 0, none⟩)] w (StepPost w b (stepS s)) := by
  have h4 := hi.2.2.2.1
  by_cases h0 : s.stage = 0
  · exact step_head b s w mx h hi.ok h0 (hi.2.2.2.2 h0) hm hb0
  · by_cases h1 : s.stage = 1
    · exact step_body b s w h hi.ok h1
    · exact step_call b s w h hi.ok (by omega)
def cellsPd (p : Pd) (x : Value × Value) : List Value := [.int .i64 p.status, str p.req.method, str p.req.target, .int .i64 p.req.minor, x.1, x.2, .bool p.req.keep]
def cellsPds (pds : List Pd) (vs : List (Value × Value)) : List Value := (pds.zip vs).flatMap fun q => cellsPd q.1 q.2
theorem cellsPds_snoc {pds : List Pd} {vs : List (Value × Value)} (h : vs.length = pds.length) (p : Pd) (x : Value × Value) : cellsPds (pds ++ [p]) (vs ++ [x]) = cellsPds pds vs ++ cellsPd p x := by
  unfold cellsPds
  rw [List.zip_append h.symm, List.flatMap_append]
  simp
/-- What was read, in memory. -/
def PdsAt (W : World) (base : Nat) (v : Value) (pds : List Pd) : Prop :=
  ∃ vs : List (Value × Value), vs.length = pds.length ∧ W.ownsRow base 46 7 v pds.length (cellsPds pds vs) ∧ (∀ (i : Nat) (p : Pd) (x : Value × Value), pds[i]? = some p → vs[i]? = some x → FsAt W x.1 p.req.fields ∧ BoAt W x.2 p.req.body) ∧ (pds = [] → v = .slice none 0 0)
theorem PdsAt.nil (W : World) (base : Nat) : PdsAt W base (.slice none 0 0) [] := ⟨[], rfl, ⟨rfl, .inl ⟨rfl, rfl⟩⟩, fun i p x h => by simp at h, fun _ => rfl⟩
theorem PdsAt.grow {W W' : World} {base : Nat} {v : Value} {pds : List Pd} (h : PdsAt W base v pds) (g : W.grownBy W' none) : PdsAt W' base v pds := by
  obtain ⟨vs, h1, h2, h3, h4⟩ := h
  exact ⟨vs, h1, row_none h2 g, fun i p x hp hx => ⟨(h3 i p x hp hx).1.grow g, (h3 i p x hp hx).2.grow g⟩, h4⟩
theorem PdsAt.kept {W W' : World} {base k : Nat} {v : Value} {pds : List Pd} {cs : Array Value} {T : TypeId} (h : PdsAt W base v pds) (g : W.grownBy W' (some k)) (hk : W.heap[k]? = some (.cells cs T (0, 0))) (h1 : 46 ≠ T) (h2 : 5 ≠ T) (h3 : 26 ≠ T) (hu : NoU8 cs) : PdsAt W' base v pds := by
  obtain ⟨vs, x1, x2, x3, x4⟩ := h
  exact ⟨vs, x1, row_ty x2 g hk h1, fun i p x hp hx => ⟨(x3 i p x hp hx).1.kept g hk h3, (x3 i p x hp hx).2.kept g hk h2 hu⟩, x4⟩
/-- The row's own block: none, or one whose first cell is no byte. -/
theorem pds_block {W : World} {base : Nat} {v : Value} {pds : List Pd} {vs : List (Value × Value)} (hl : vs.length = pds.length) (h : W.ownsRow base 46 7 v pds.length (cellsPds pds vs)) (hz : pds = [] → v = .slice none 0 0) :
    v.ownBlock = none ∨ ∃ g cs, v.ownBlock = some g ∧ base ≤ g ∧ W.heap[g]? = some (.cells cs 46 (0, 0)) ∧ NoU8 cs := by
  rcases h.2 with ⟨rfl, _⟩ | ⟨g, cap, cur, rfl, hg, hh, hc, hm, hs, ht⟩
  · exact .inl rfl
  · refine .inr ⟨g, cur, rfl, hg, hh, ?_⟩
    rcases pds with _ | ⟨p, r⟩
    · cases hz rfl
    · rcases vs with _ | ⟨x, vr⟩
      · simp at hl
      · intro y hy
        have h0 : (cur.toList.take ((p :: r).length * 7))[0]? = some (.int .i64 p.status) := by rw [ht]; rfl
        rw [List.getElem?_take, if_pos (by simp), Array.getElem?_toList, hy] at h0
        cases h0
theorem PdsAt.block {W : World} {base : Nat} {v : Value} {pds : List Pd} (h : PdsAt W base v pds) :
    v.ownBlock = none ∨ ∃ g cs, v.ownBlock = some g ∧ base ≤ g ∧ W.heap[g]? = some (.cells cs 46 (0, 0)) ∧ NoU8 cs := by
  obtain ⟨vs, h1, h2, h3, h4⟩ := h
  exact pds_block h1 h2 h4
theorem FsAt.own {W W' : World} {base : Nat} {v fv : Value} {pds : List Pd} {fs : List (List UInt8 × List UInt8)} (h : FsAt W fv fs) (hp : PdsAt W base v pds) (g : W.grownBy W' v.ownBlock) : FsAt W' fv fs := by
  rcases hp.block with e | ⟨k, cs, e, hk, hh, hu⟩
  · rw [e] at g; exact h.grow g
  · rw [e] at g; exact h.kept g hh (by decide)
theorem BoAt.own {W W' : World} {base : Nat} {v bv : Value} {pds : List Pd} {l : List UInt8} (h : BoAt W bv l) (hp : PdsAt W base v pds) (g : W.grownBy W' v.ownBlock) : BoAt W' bv l := by
  rcases hp.block with e | ⟨k, cs, e, hk, hh, hu⟩
  · rw [e] at g; exact h.grow g
  · rw [e] at g; exact h.kept g hh (by decide) hu
theorem PAt.own {W W' : World} {base b : Nat} {v : Value} {pds : List Pd} {s : Ps} (h : PAt W b s) (hp : PdsAt W base v pds) (g : W.grownBy W' v.ownBlock) : PAt W' b s := by
  rcases hp.block with e | ⟨k, cs, e, hk, hh, hu⟩
  · rw [e] at g; exact h.grow g
  · rw [e] at g; exact h.kept g hh (by decide) (by decide) (by decide) hu
/-- The append of one more. -/
theorem PdsAt.snoc {W W' : World} {base : Nat} {v v' : Value} {pds : List Pd} {vs : List (Value × Value)} {p : Pd} {x : Value × Value} (hl : vs.length = pds.length) (h : W.ownsRow base 46 7 v pds.length (cellsPds pds vs))
    (h3 : ∀ (i : Nat) (p : Pd) (x : Value × Value), pds[i]? = some p → vs[i]? = some x → FsAt W x.1 p.req.fields ∧ BoAt W x.2 p.req.body) (hz : pds = [] → v = .slice none 0 0) (hf : FsAt W x.1 p.req.fields) (hb : BoAt W x.2 p.req.body)
    (h' : W'.ownsRow base 46 7 v' (pds.length + 1) (cellsPds pds vs ++ cellsPd p x)) (g : W.grownBy W' v.ownBlock) : PdsAt W' base v' (pds ++ [p]) := by
  have hp : PdsAt W base v pds := ⟨vs, hl, h, h3, hz⟩
  refine ⟨vs ++ [x], by simp [hl], ?_, fun i q y hq hy => ?_, fun e => by simp at e⟩
  · rw [cellsPds_snoc hl, List.length_append, List.length_singleton]; exact h'
  · by_cases hi : i < pds.length
    · rw [List.getElem?_append_left hi] at hq
      rw [List.getElem?_append_left (by omega)] at hy
      exact ⟨(h3 i q y hq hy).1.own hp g, (h3 i q y hq hy).2.own hp g⟩
    · rw [List.getElem?_append_right (by omega)] at hq
      rw [List.getElem?_append_right (by omega), hl] at hy
      generalize i - pds.length = j at hq hy
      rcases j with _ | j
      · obtain rfl : p = q := by simpa using hq
        obtain rfl : x = y := by simpa using hy
        exact ⟨hf.own hp g, hb.own hp g⟩
      · simp at hq
theorem infoParsed : (Tryz.prog.info? 46).map (fun i => (i.zero, i.size, i.bytes)) = some (some (.agg #[.int .i64 0, .string ⟨#[]⟩, .string ⟨#[]⟩, .int .i64 0, .slice none 0 0, .slice none 0 0, .bool false]), 7, 104) := by kernel_rfl
end Go.Proofs.YtldbcdiomkkinaaGreatDoor
