/- What a step of a reader leaves; (*http.Parser).size. -/
import Derived.Test.YtldbcdiomkkinaaGreatDoorHt4
namespace Go.Proofs.YtldbcdiomkkinaaGreatDoor
open Go.RowKit

/-- Fields as they lie in memory. -/
def FsAt (W : World) (v : Value) (fs : List (List UInt8 × List UInt8)) : Prop :=
  (v = .slice none 0 0 ∧ fs = []) ∨ ∃ g cap cs, v = .slice (some ⟨g, 0, none⟩) fs.length cap ∧ W.heap[g]? = some (.cells cs 26 (0, 0)) ∧ fs.length ≤ cap ∧ cap ≤ maxLen ∧ cs.toList.take (fs.length * 2) = (fs.flatMap fun f => [str f.1, str f.2]) ∧ fs ≠ []
theorem FsAt.nil (W : World) : FsAt W (.slice none 0 0) [] := .inl ⟨rfl, rfl⟩
theorem FsAt.shape {W : World} {v : Value} {fs : List (List UInt8 × List UInt8)} (h : FsAt W v fs) : ∃ a c, v = .slice a fs.length c := by
  rcases h with ⟨rfl, rfl⟩ | ⟨g, cap, cs, rfl, _⟩
  · exact ⟨none, 0, rfl⟩
  · exact ⟨_, cap, rfl⟩
theorem FsAt.empty {W : World} {v : Value} (h : FsAt W v []) : v = .slice none 0 0 := by
  rcases h with ⟨h, _⟩ | ⟨g, cap, cs, _, _, _, _, _, h⟩
  · exact h
  · exact absurd rfl h
theorem FsAt.grow {W W' : World} {v : Value} {fs : List (List UInt8 × List UInt8)} (h : FsAt W v fs) (g : W.grownBy W' none) : FsAt W' v fs := by
  rcases h with h | ⟨g0, cap, cs, rfl, hh, r⟩
  · exact .inl h
  · exact .inr ⟨g0, cap, cs, rfl, gr_keep g hh (by simp), r⟩
theorem FsAt.kept {W W' : World} {v : Value} {fs : List (List UInt8 × List UInt8)} {k : Nat} {cs : Array Value} {T : TypeId} (h : FsAt W v fs) (g : W.grownBy W' (some k)) (hk : W.heap[k]? = some (.cells cs T (0, 0))) (hT : 26 ≠ T) : FsAt W' v fs := by
  rcases h with h | ⟨g0, cap, cs, rfl, hh, r⟩
  · exact .inl h
  · exact .inr ⟨g0, cap, cs, rfl, gr_keep g hh (blk_ne hh hk hT), r⟩
/-- The first cell is no byte. -/
def NoU8 (cs : Array Value) : Prop := ∀ x, cs[0]? ≠ some (.int .u8 x)
/-- A body as it lies in memory. -/
def BoAt (W : World) (v : Value) (l : List UInt8) : Prop :=
  ∃ a cap, v = .slice a l.length cap ∧ l.length ≤ cap ∧ cap ≤ maxLen ∧ (l = [] ∨ ∃ g off, a = some ⟨g, off, none⟩ ∧ ((∃ cs, W.heap[g]? = some (.cells cs 5 (0, 0))) ∨ off = 0) ∧ ∀ i, i < l.length → W.cell? ⟨g, off + i, none⟩ = some (.int .u8 ((l.getD i 0).toNat : Int)))
theorem BoAt.bytes {W : World} {v : Value} {l : List UInt8} (h : BoAt W v l) : Bytes W v l := by
  obtain ⟨a, cap, rfl, h1, h2, h3⟩ := h
  refine ⟨a, cap, rfl, h1, h2, fun hne => ?_⟩
  rcases h3 with h3 | ⟨g, off, e, -, hc⟩
  · exact absurd h3 hne
  · exact ⟨g, off, e, hc⟩
theorem BoAt.shape {W : World} {v : Value} {l : List UInt8} (h : BoAt W v l) : ∃ a c, v = .slice a l.length c ∧ l.length ≤ c ∧ c ≤ maxLen := by
  obtain ⟨a, c, e, h1, h2, -⟩ := h
  exact ⟨a, c, e, h1, h2⟩
theorem BoAt.nil (W : World) : BoAt W (.slice none 0 0) [] := ⟨none, 0, rfl, by simp, by simp [maxLen], .inl rfl⟩
theorem ByAt.bo {W : World} {v : Value} {l : List UInt8} (h : ByAt W v l) : BoAt W v l := by
  have hb := h.bytes
  rcases h with ⟨rfl, rfl⟩ | ⟨g, off, cap, cs, rfl, hh, h1, h2, h3⟩
  · exact BoAt.nil W
  · refine ⟨_, cap, rfl, h1, h2, ?_⟩
    rcases l with _ | ⟨x, l⟩
    · exact .inl rfl
    · obtain ⟨-, -, -, h4⟩ := hb.at
      obtain ⟨b', o', e, hc⟩ := h4 (by simp)
      cases e
      exact .inr ⟨g, off, rfl, .inl ⟨cs, hh⟩, hc⟩
theorem BoAt.grow {W W' : World} {v : Value} {l : List UInt8} (h : BoAt W v l) (g : W.grownBy W' none) : BoAt W' v l := by
  obtain ⟨a, cap, rfl, h1, h2, h3⟩ := h
  refine ⟨a, cap, rfl, h1, h2, ?_⟩
  rcases h3 with h3 | ⟨g0, off, e, ht, hc⟩
  · exact .inl h3
  · refine .inr ⟨g0, off, e, ?_, fun i hi => g.cell (hc i hi) (by simp)⟩
    rcases ht with ⟨cs, ht⟩ | ht
    · exact .inl ⟨cs, gr_keep g ht (by simp)⟩
    · exact .inr ht
theorem BoAt.kept {W W' : World} {v : Value} {l : List UInt8} {k : Nat} {cs : Array Value} {T : TypeId} (h : BoAt W v l) (g : W.grownBy W' (some k)) (hk : W.heap[k]? = some (.cells cs T (0, 0))) (hT : 5 ≠ T) (hu : NoU8 cs) : BoAt W' v l := by
  obtain ⟨a, cap, rfl, h1, h2, h3⟩ := h
  refine ⟨a, cap, rfl, h1, h2, ?_⟩
  rcases h3 with h3 | ⟨g0, off, e, ht, hc⟩
  · exact .inl h3
  · by_cases hl : l = []
    · exact .inl hl
    have hne : some g0 ≠ some k := by
      rcases ht with ⟨cs', ht⟩ | rfl
      · exact blk_ne ht hk hT
      · intro e
        obtain rfl := Option.some.inj e
        have h0 := hc 0 (List.length_pos_iff.2 hl)
        rw [Nat.add_zero, cell_of_block hk 0] at h0
        exact hu _ h0
    refine .inr ⟨g0, off, e, ?_, fun i hi => g.cell (hc i hi) (by simpa using hne)⟩
    rcases ht with ⟨cs', ht⟩ | ht
    · exact .inl ⟨cs', gr_keep g ht hne⟩
    · exact .inr ht
theorem no_u8_ps (ra : Option Addr) (rn rc : Nat) (stage minor left : Int) (skip keep : Bool) (m t : List UInt8) (fv bv : Value) : NoU8 (PsCells (.slice ra rn rc) stage skip m t minor fv bv keep left) := by
  intro x h; simp [PsCells] at h
theorem no_u8_pd (status : Int) (a1 a2 a3 a4 a5 a6 : Value) : NoU8 #[.int .i64 status, a1, a2, a3, a4, a5, a6] := by
  intro x h; simp at h
/-- A reader in memory. -/
def PLive (W : World) (b : Nat) (s : Ps) : Prop :=
  ∃ rv fv bv, W.heap[b]? = some (.cells (PsCells rv (s.stage : Int) s.skip s.req.method s.req.target s.req.minor fv bv s.req.keep (s.left : Int)) 62 (0, 0)) ∧ ByAt W rv s.rest ∧ FsAt W fv s.req.fields ∧ BoAt W bv s.req.body
def PAt (W : World) (b : Nat) (s : Ps) : Prop := (s.stage = 5 ∧ PDead W b) ∨ (s.stage ≠ 5 ∧ PLive W b s)
theorem PLive.grow {W W' : World} {b : Nat} {s : Ps} (h : PLive W b s) (g : W.grownBy W' none) : PLive W' b s := by
  obtain ⟨rv, fv, bv, h1, h2, h3, h4⟩ := h
  exact ⟨rv, fv, bv, gr_keep g h1 (by simp), h2.grow g, h3.grow g, h4.grow g⟩
theorem PLive.kept {W W' : World} {b k : Nat} {s : Ps} {cs : Array Value} {T : TypeId} (h : PLive W b s) (g : W.grownBy W' (some k)) (hk : W.heap[k]? = some (.cells cs T (0, 0))) (h1 : 62 ≠ T) (h2 : 5 ≠ T) (h3 : 26 ≠ T) (hu : NoU8 cs) : PLive W' b s := by
  obtain ⟨rv, fv, bv, x1, x2, x3, x4⟩ := h
  exact ⟨rv, fv, bv, gr_keep g x1 (blk_ne x1 hk h1), x2.kept g hk h2, x3.kept g hk h3, x4.kept g hk h2 hu⟩
theorem PDead.kept {W W' : World} {b k : Nat} {cs : Array Value} {T : TypeId} (h : PDead W b) (g : W.grownBy W' (some k)) (hk : W.heap[k]? = some (.cells cs T (0, 0))) (h1 : 62 ≠ T) : PDead W' b := by
  obtain ⟨a1, a2, a3, a4, a5, a6, a7, a8, x1⟩ := h
  exact ⟨a1, a2, a3, a4, a5, a6, a7, a8, gr_keep g x1 (blk_ne x1 hk h1)⟩
theorem PAt.kept {W W' : World} {b k : Nat} {s : Ps} {cs : Array Value} {T : TypeId} (h : PAt W b s) (g : W.grownBy W' (some k)) (hk : W.heap[k]? = some (.cells cs T (0, 0))) (h1 : 62 ≠ T) (h2 : 5 ≠ T) (h3 : 26 ≠ T) (hu : NoU8 cs) : PAt W' b s := by
  rcases h with ⟨x, y⟩ | ⟨x, y⟩
  · exact .inl ⟨x, y.kept g hk h1⟩
  · exact .inr ⟨x, y.kept g hk h1 h2 h3 hu⟩
theorem PAt.grow {W W' : World} {b : Nat} {s : Ps} (h : PAt W b s) (g : W.grownBy W' none) : PAt W' b s := by
  rcases h with ⟨x, a1, a2, a3, a4, a5, a6, a7, a8, y⟩ | ⟨x, y⟩
  · exact .inl ⟨x, a1, a2, a3, a4, a5, a6, a7, a8, gr_keep g y (by simp)⟩
  · exact .inr ⟨x, y.grow g⟩
/-- What a step hands back and leaves. -/
def StepPost (w : World) (b : Nat) (r : Ps × Option Pd) (e : Ending) (w' : World) : Prop :=
  PAt w' b r.1 ∧ w.grownBy w' (some b) ∧ ((r.2 = none ∧ e = .returned (.tuple #[.agg (PdCells 0 [] [] 0 (.slice none 0 0) (.slice none 0 0) false), .bool false])) ∨
    ∃ p fa fc ba bc, r.2 = some p ∧ e = .returned (.tuple #[.agg (PdCells p.status p.req.method p.req.target p.req.minor (.slice fa p.req.fields.length fc) (.slice ba p.req.body.length bc) p.req.keep), .bool true]) ∧ FsAt w' (.slice fa p.req.fields.length fc) p.req.fields ∧ BoAt w' (.slice ba p.req.body.length bc) p.req.body)
def PsOk (s : Ps) : Prop := s.rest.length ≤ 200000 ∧ s.req.body.length ≤ 8192 ∧ s.left ≤ 8192
/-- The end by 'fail', stored into the result's block. -/
theorem fail_end {w w3 w9 : World} {b n0 : Nat} {status : Int} {cs : Array Value} (hd : PDead w3 b) (g3 : w.grownBy w3 (some b)) (hn : w3.heap[n0]? = some (.cells cs 46 (0, 0))) (g9 : w3.grownBy w9 (some n0)) (h0 : w.heap.size ≤ n0) :
    StepPost w b (failS status) (.returned (.tuple #[.agg (PdCells status [] [] 0 (.slice none 0 0) (.slice none 0 0) false), .bool true])) w9 :=
  ⟨.inl ⟨rfl, hd.kept g9 hn (by decide)⟩, gr_new g3 g9 h0, .inr ⟨⟨status, Rq.zero⟩, none, 0, none, 0, rfl, rfl, FsAt.nil _, BoAt.nil _⟩⟩
theorem none_end {w w3 w9 : World} {b n0 : Nat} {s : Ps} {cs : Array Value} (hd : PLive w3 b s) (hs : s.stage ≠ 5) (g3 : w.grownBy w3 (some b)) (hn : w3.heap[n0]? = some (.cells cs 46 (0, 0))) (g9 : w3.grownBy w9 (some n0)) (h0 : w.heap.size ≤ n0) (hu : NoU8 cs) :
    StepPost w b (s, none) (.returned (.tuple #[.agg (PdCells 0 [] [] 0 (.slice none 0 0) (.slice none 0 0) false), .bool false])) w9 :=
  ⟨.inr ⟨hs, hd.kept g9 hn (by decide) (by decide) (by decide) hu⟩, gr_new g3 g9 h0, .inl ⟨rfl, rfl⟩⟩
set_option maxRecDepth 20000 in
set_option maxHeartbeats 4000000 in
theorem size_http (b : Nat) (s : Ps) (w : World) (h : PLive w b s) (hs : s.stage = 2) (hok : PsOk s) : Calls Tryz.prog 40 #[.pointer (some ⟨b, 0, none⟩)] w (StepPost w b (sizeS s)) := by
  have hs5 : s.stage ≠ 5 := by rw [hs]; decide
  have HL := hid h
  have HOK := hid hok
  obtain ⟨rv, fv, bv, hh, hr, hf, hb⟩ := h
  obtain ⟨ra, rc, rfl, hr1, hr2⟩ := hr.shape
  obtain ⟨fa, fc, rfl⟩ := hf.shape
  obtain ⟨ba, bc, rfl, hb1, hb2⟩ := hb.shape
  have c0 := (cell_of_block hh 0).trans (show _ = some (Value.slice ra s.rest.length rc) from rfl)
  have hlt := lt_of_block hh
  have HR := hid hr
  have HF := hid hf
  have HBo := hid hb
  have HH := hid hh
  have hlr : s.rest.length ≤ 1000000 := by have := hok.1; omega
  clear hok hr hf hb hh
  go_enter Tryz.func40, Tryz.ntmps40
  go_wp2_with fail
  have hN := heap_alloc_new w (.cells #[.int .i64 0, .string ⟨#[]⟩, .string ⟨#[]⟩, .int .i64 0, .slice none 0 0, .slice none 0 0, .bool false] 46)
  have g1 := World.grownBy_alloc w (.cells #[.int .i64 0, .string ⟨#[]⟩, .string ⟨#[]⟩, .int .i64 0, .slice none 0 0, .slice none 0 0, .bool false] 46) none
  revert hN g1
  generalize w.alloc _ = w1
  intro hN g1
  refine (line_http s.rest _ w1 (HR.out.grow g1) hlr).mono ?_
  rintro e w2 ⟨g2, ⟨hl, rfl⟩ | ⟨t, bare, r', rv', hl, rfl, hrv⟩⟩
  · have HN := hid (gr_keep g2 hN (by simp))
    have G2 := hid (gr_trans g1 g2)
    have hh2 := gr_keep G2.out HH.out (by simp)
    have c0 := (cell_of_block hh2 0).trans (show _ = some (Value.slice ra s.rest.length rc) from rfl)
    have l2 := lt_of_block hh2
    have ln2 := lt_of_block HN.out
    have n0 := (cell_of_block HN.out 0).trans (show _ = some (Value.int .i64 0) from rfl)
    have y0 := free_of_block HN.out 0
    have n1 := (cell_of_block HN.out 1).trans (show _ = some (Value.string ⟨#[]⟩) from rfl)
    have y1 := free_of_block HN.out 1
    have n2 := (cell_of_block HN.out 2).trans (show _ = some (Value.string ⟨#[]⟩) from rfl)
    have y2 := free_of_block HN.out 2
    have n3 := (cell_of_block HN.out 3).trans (show _ = some (Value.int .i64 0) from rfl)
    have y3 := free_of_block HN.out 3
    have n4 := (cell_of_block HN.out 4).trans (show _ = some (Value.slice none 0 0) from rfl)
    have y4 := free_of_block HN.out 4
    have n5 := (cell_of_block HN.out 5).trans (show _ = some (Value.slice none 0 0) from rfl)
    have y5 := free_of_block HN.out 5
    have n6 := (cell_of_block HN.out 6).trans (show _ = some (Value.bool false) from rfl)
    have y6 := free_of_block HN.out 6
    have HH2 := hid hh2
    clear hh2 g1 g2 hN hlt
    by_cases h256 : 256 ≤ s.rest.length
    · have hS : sizeS s = failS 400 := by unfold sizeS; rw [hl]; exact if_pos h256
      have h256' : (256 : Int) ≤ (s.rest.length : Int) := by omega
      have HS := hid hS
      clear hl hS
      go_wp2_with fail
      refine (fail_http b _ _ _ _ _ _ 400 _ _ _ _ w2 HH2.out).mono ?_
      rintro e w3 ⟨rfl, hd, g3⟩
      have HN3 := hid (gr_keep g3 HN.out (blk_ne HN.out HH2.out (by decide)))
      have y0 := free_of_block HN3.out 0
      have y1 := free_of_block HN3.out 1
      have y2 := free_of_block HN3.out 2
      have y3 := free_of_block HN3.out 3
      have y4 := free_of_block HN3.out 4
      have y5 := free_of_block HN3.out 5
      have y6 := free_of_block HN3.out 6
      have n0 := (cell_of_block HN3.out 0).trans (show _ = some (Value.int .i64 0) from rfl)
      have n1 := (cell_of_block HN3.out 1).trans (show _ = some (Value.string ⟨#[]⟩) from rfl)
      have n2 := (cell_of_block HN3.out 2).trans (show _ = some (Value.string ⟨#[]⟩) from rfl)
      have n3 := (cell_of_block HN3.out 3).trans (show _ = some (Value.int .i64 0) from rfl)
      have n4 := (cell_of_block HN3.out 4).trans (show _ = some (Value.slice none 0 0) from rfl)
      have n5 := (cell_of_block HN3.out 5).trans (show _ = some (Value.slice none 0 0) from rfl)
      have n6 := (cell_of_block HN3.out 6).trans (show _ = some (Value.bool false) from rfl)
      have lnn := lt_of_block HN3.out
      unfold PdCells str
      go_wp21
      have H7 := pd_set7 (.int .i64 400) (.string ⟨#[]⟩) (.string ⟨#[]⟩) (.int .i64 0) (.slice none 0 0) (.slice none 0 0) (.bool false) HN3.out
      revert H7
      generalize ((((((w3.setCell _ _).setCell _ _).setCell _ _).setCell _ _).setCell _ _).setCell _ _).setCell _ _ = w9
      rintro ⟨hn9, g9⟩
      have e0 := cell_of_block hn9 0
      have e1 := cell_of_block hn9 1
      have e2 := cell_of_block hn9 2
      have e3 := cell_of_block hn9 3
      have e4 := cell_of_block hn9 4
      have e5 := cell_of_block hn9 5
      have e6 := cell_of_block hn9 6
      (try simp only [Exit.inBlock, Exit.then])
      refine bodyPost_ret (v := .tuple #[.agg #[.int .i64 400, .string ⟨#[]⟩, .string ⟨#[]⟩, .int .i64 0, .slice none 0 0, .slice none 0 0, .bool false], .bool true]) ?_ rfl (by rw [HS.out]; exact fail_end hd (gr_trans (gr_none G2.out) g3) HN3.out g9 (Nat.le_refl _))
      simp [results, Tryz.results40, go_sem, e0, e1, e2, e3, e4, e5, e6]
    · have hS : sizeS s = (s, none) := by unfold sizeS; rw [hl]; exact if_neg h256
      have h256' : ¬ (256 : Int) ≤ (s.rest.length : Int) := by omega
      have HS := hid hS
      clear hl hS
      go_wp2_with fail
      have H7 := pd_set7 (.int .i64 0) (.string ⟨#[]⟩) (.string ⟨#[]⟩) (.int .i64 0) (.slice none 0 0) (.slice none 0 0) (.bool false) HN.out
      revert H7
      generalize ((((((w2.setCell _ _).setCell _ _).setCell _ _).setCell _ _).setCell _ _).setCell _ _).setCell _ _ = w9
      rintro ⟨hn9, g9⟩
      have e0 := cell_of_block hn9 0
      have e1 := cell_of_block hn9 1
      have e2 := cell_of_block hn9 2
      have e3 := cell_of_block hn9 3
      have e4 := cell_of_block hn9 4
      have e5 := cell_of_block hn9 5
      have e6 := cell_of_block hn9 6
      (try simp only [Exit.inBlock, Exit.then])
      refine bodyPost_ret (v := .tuple #[.agg #[.int .i64 0, .string ⟨#[]⟩, .string ⟨#[]⟩, .int .i64 0, .slice none 0 0, .slice none 0 0, .bool false], .bool false]) ?_ rfl (by rw [HS.out]; exact none_end (HL.out.grow G2.out) hs5 (gr_none G2.out) HN.out g9 (Nat.le_refl _) (no_u8_pd _ _ _ _ _ _ _))
      simp [results, Tryz.results40, go_sem, e0, e1, e2, e3, e4, e5, e6]
  · obtain ⟨va, vc, rfl, hv1, hv2⟩ := hrv.shape
    have hlen := lineL_len hl
    have HTL := hid (show t.length ≤ 200000 from Nat.le_trans (lineL_tlen hl) HOK.out.1)
    have HN := hid (gr_keep g2 hN (by simp))
    have G2 := hid (gr_trans g1 g2)
    have hh2 := gr_keep G2.out HH.out (by simp)
    have c0 := (cell_of_block hh2 0).trans (show _ = some (Value.slice ra s.rest.length rc) from rfl)
    have l2 := lt_of_block hh2
    have HH2 := hid hh2
    have HRV := hid hrv
    clear hh2 g1 g2 hN hlt hrv hv1 hv2
    obtain ⟨d, hd⟩ : ∃ d, d = s.rest.length - r'.length := ⟨_, rfl⟩
    have hdi : (s.rest.length : Int) - (r'.length : Int) = (d : Int) := by omega
    have hdi2 : IntKind.i64.wrap ((s.rest.length : Int) - (r'.length : Int)) = (d : Int) := by rw [hdi]; exact IntWalk.i64_in _ (by omega)
    by_cases h256 : 256 < d
    · have hS : sizeS s = failS 400 := by unfold sizeS; rw [hl]; exact if_pos (by omega)
      have HS := hid hS
      have h256' : decide ((256 : Int) < (d : Int)) = true := by simp; omega
      have h256'' : (256 : Int) ≤ (s.rest.length : Int) := by omega
      clear hl hS hd
      go_wp2_with fail
      refine (fail_http b _ _ _ _ _ _ 400 _ _ _ _ w2 HH2.out).mono ?_
      rintro e w3 ⟨rfl, hd, g3⟩
      have HN3 := hid (gr_keep g3 HN.out (blk_ne HN.out HH2.out (by decide)))
      have y0 := free_of_block HN3.out 0
      have y1 := free_of_block HN3.out 1
      have y2 := free_of_block HN3.out 2
      have y3 := free_of_block HN3.out 3
      have y4 := free_of_block HN3.out 4
      have y5 := free_of_block HN3.out 5
      have y6 := free_of_block HN3.out 6
      have n0 := (cell_of_block HN3.out 0).trans (show _ = some (Value.int .i64 0) from rfl)
      have n1 := (cell_of_block HN3.out 1).trans (show _ = some (Value.string ⟨#[]⟩) from rfl)
      have n2 := (cell_of_block HN3.out 2).trans (show _ = some (Value.string ⟨#[]⟩) from rfl)
      have n3 := (cell_of_block HN3.out 3).trans (show _ = some (Value.int .i64 0) from rfl)
      have n4 := (cell_of_block HN3.out 4).trans (show _ = some (Value.slice none 0 0) from rfl)
      have n5 := (cell_of_block HN3.out 5).trans (show _ = some (Value.slice none 0 0) from rfl)
      have n6 := (cell_of_block HN3.out 6).trans (show _ = some (Value.bool false) from rfl)
      have lnn := lt_of_block HN3.out
      unfold PdCells str
      go_wp21
      have H7 := pd_set7 (.int .i64 400) (.string ⟨#[]⟩) (.string ⟨#[]⟩) (.int .i64 0) (.slice none 0 0) (.slice none 0 0) (.bool false) HN3.out
      revert H7
      generalize ((((((w3.setCell _ _).setCell _ _).setCell _ _).setCell _ _).setCell _ _).setCell _ _).setCell _ _ = w9
      rintro ⟨hn9, g9⟩
      have e0 := cell_of_block hn9 0
      have e1 := cell_of_block hn9 1
      have e2 := cell_of_block hn9 2
      have e3 := cell_of_block hn9 3
      have e4 := cell_of_block hn9 4
      have e5 := cell_of_block hn9 5
      have e6 := cell_of_block hn9 6
      (try simp only [Exit.inBlock, Exit.then])
      refine bodyPost_ret (v := .tuple #[.agg #[.int .i64 400, .string ⟨#[]⟩, .string ⟨#[]⟩, .int .i64 0, .slice none 0 0, .slice none 0 0, .bool false], .bool true]) ?_ rfl (by rw [HS.out]; exact fail_end hd (gr_trans (gr_none G2.out) g3) HN3.out g9 (Nat.le_refl _))
      simp [results, Tryz.results40, go_sem, e0, e1, e2, e3, e4, e5, e6]
    · have hE : sizeS s = if bare = true ∨ (numR 16 268435455 (cutB t 59).1).2 = false then failS 400
          else if (numR 16 268435455 (cutB t 59).1).1 > 8192 - (s.req.body.length : Int) then failS 413
          else ({ s with rest := r', left := (numR 16 268435455 (cutB t 59).1).1.toNat, stage := if (numR 16 268435455 (cutB t 59).1).1 = 0 then 4 else 3 }, none) := by unfold sizeS; rw [hl]; exact if_neg (by omega)
      have HE := hid hE
      have h256' : decide ((256 : Int) < (d : Int)) = false := by simp; omega
      clear hl hE hd
      obtain ⟨dg, hdg⟩ : ∃ dg, dg = (cutB t 59).1 := ⟨_, rfl⟩
      go_wp2_with fail
      refine (cut_one ⟨t.toArray⟩ 59 w2 (by rw [Lib.size_eq]; simp; have := HTL.out; omega)).mono ?_
      rintro e w3 ⟨rfl, g3⟩
      rw [show (ByteArray.mk t.toArray).data.toList = t from rfl, ← hdg]
      have hdl : dg.length ≤ 200000 := by rw [hdg]; exact Nat.le_trans (cutB_len t 59) HTL.out
      have HE2 := hid (by have := HE.out; rw [← hdg] at this; exact this)
      clear HE hdg
      go_wp2_with fail
      refine (number_any ⟨dg.toArray⟩ 16 268435455 w3 (by rw [Lib.size_eq]; simp; omega)).mono ?_
      rintro e w4 ⟨rfl, g4⟩
      rw [show (ByteArray.mk dg.toArray).data.toList = dg from rfl]
      have hnn := numR_nonneg 16 268435455 dg (by omega)
      have G4 := hid (gr_trans G2.out (gr_trans g3 g4))
      have HN4 := hid (gr_keep (gr_trans g3 g4) HN.out (by simp))
      have HH4 := hid (gr_keep G4.out HH.out (by simp))
      have HRV4 := hid (HRV.out.grow (gr_trans g3 g4))
      have hr't := HRV.out.shape
      clear g3 g4 HN HH2 HRV c0 l2
      rcases hx : numR 16 268435455 dg with ⟨q1, q2⟩
      rw [hx] at HE2 hnn
      clear hx
      dsimp only at hnn
      have l4 := lt_of_block HH4.out
      have ln4 := lt_of_block HN4.out
      have c7 := (cell_of_block HH4.out 7).trans (show _ = some (Value.slice ba s.req.body.length bc) from rfl)
      have hbl : s.req.body.length ≤ 8192 := HOK.out.2.1
      have hbw : IntKind.i64.wrap (8192 - (s.req.body.length : Int)) = 8192 - (s.req.body.length : Int) := IntWalk.i64_in _ (by omega)
      cases bare
      · cases q2
        · have HS := hid (HE2.out.trans (if_pos (.inr rfl)))
          clear HE2
          go_wp2_with fail
          refine (fail_http b _ _ _ _ _ _ 400 _ _ _ _ w4 HH4.out).mono ?_
          rintro e w5 ⟨rfl, hd, g5⟩
          have HN5 := hid (gr_keep g5 HN4.out (blk_ne HN4.out HH4.out (by decide)))
          have y0 := free_of_block HN5.out 0
          have y1 := free_of_block HN5.out 1
          have y2 := free_of_block HN5.out 2
          have y3 := free_of_block HN5.out 3
          have y4 := free_of_block HN5.out 4
          have y5 := free_of_block HN5.out 5
          have y6 := free_of_block HN5.out 6
          have n0 := (cell_of_block HN5.out 0).trans (show _ = some (Value.int .i64 0) from rfl)
          have n1 := (cell_of_block HN5.out 1).trans (show _ = some (Value.string ⟨#[]⟩) from rfl)
          have n2 := (cell_of_block HN5.out 2).trans (show _ = some (Value.string ⟨#[]⟩) from rfl)
          have n3 := (cell_of_block HN5.out 3).trans (show _ = some (Value.int .i64 0) from rfl)
          have n4 := (cell_of_block HN5.out 4).trans (show _ = some (Value.slice none 0 0) from rfl)
          have n5 := (cell_of_block HN5.out 5).trans (show _ = some (Value.slice none 0 0) from rfl)
          have n6 := (cell_of_block HN5.out 6).trans (show _ = some (Value.bool false) from rfl)
          have lnn := lt_of_block HN5.out
          unfold PdCells str
          go_wp21
          have H7 := pd_set7 (.int .i64 400) (.string ⟨#[]⟩) (.string ⟨#[]⟩) (.int .i64 0) (.slice none 0 0) (.slice none 0 0) (.bool false) HN5.out
          revert H7
          generalize ((((((w5.setCell _ _).setCell _ _).setCell _ _).setCell _ _).setCell _ _).setCell _ _).setCell _ _ = w9
          rintro ⟨hn9, g9⟩
          have e0 := cell_of_block hn9 0
          have e1 := cell_of_block hn9 1
          have e2 := cell_of_block hn9 2
          have e3 := cell_of_block hn9 3
          have e4 := cell_of_block hn9 4
          have e5 := cell_of_block hn9 5
          have e6 := cell_of_block hn9 6
          (try simp only [Exit.inBlock, Exit.then])
          refine bodyPost_ret (v := .tuple #[.agg #[.int .i64 400, .string ⟨#[]⟩, .string ⟨#[]⟩, .int .i64 0, .slice none 0 0, .slice none 0 0, .bool false], .bool true]) ?_ rfl (by rw [HS.out]; exact fail_end hd (gr_trans (gr_none G4.out) g5) HN5.out g9 (Nat.le_refl _))
          simp [results, Tryz.results40, go_sem, e0, e1, e2, e3, e4, e5, e6]
        · have HE3 := hid (HE2.out.trans (if_neg (by simp)))
          clear HE2
          by_cases h413 : q1 > 8192 - (s.req.body.length : Int)
          · have HS := hid (HE3.out.trans (if_pos h413))
            have h413' : 8192 - (s.req.body.length : Int) < q1 := h413
            have h413'' : decide (8192 - (s.req.body.length : Int) < q1) = true := by simpa using h413'
            clear HE3
            go_wp2_with fail
            refine (fail_http b _ _ _ _ _ _ 413 _ _ _ _ w4 HH4.out).mono ?_
            rintro e w5 ⟨rfl, hd, g5⟩
            have HN5 := hid (gr_keep g5 HN4.out (blk_ne HN4.out HH4.out (by decide)))
            have y0 := free_of_block HN5.out 0
            have y1 := free_of_block HN5.out 1
            have y2 := free_of_block HN5.out 2
            have y3 := free_of_block HN5.out 3
            have y4 := free_of_block HN5.out 4
            have y5 := free_of_block HN5.out 5
            have y6 := free_of_block HN5.out 6
            have n0 := (cell_of_block HN5.out 0).trans (show _ = some (Value.int .i64 0) from rfl)
            have n1 := (cell_of_block HN5.out 1).trans (show _ = some (Value.string ⟨#[]⟩) from rfl)
            have n2 := (cell_of_block HN5.out 2).trans (show _ = some (Value.string ⟨#[]⟩) from rfl)
            have n3 := (cell_of_block HN5.out 3).trans (show _ = some (Value.int .i64 0) from rfl)
            have n4 := (cell_of_block HN5.out 4).trans (show _ = some (Value.slice none 0 0) from rfl)
            have n5 := (cell_of_block HN5.out 5).trans (show _ = some (Value.slice none 0 0) from rfl)
            have n6 := (cell_of_block HN5.out 6).trans (show _ = some (Value.bool false) from rfl)
            have lnn := lt_of_block HN5.out
            unfold PdCells str
            go_wp21
            have H7 := pd_set7 (.int .i64 413) (.string ⟨#[]⟩) (.string ⟨#[]⟩) (.int .i64 0) (.slice none 0 0) (.slice none 0 0) (.bool false) HN5.out
            revert H7
            generalize ((((((w5.setCell _ _).setCell _ _).setCell _ _).setCell _ _).setCell _ _).setCell _ _).setCell _ _ = w9
            rintro ⟨hn9, g9⟩
            have e0 := cell_of_block hn9 0
            have e1 := cell_of_block hn9 1
            have e2 := cell_of_block hn9 2
            have e3 := cell_of_block hn9 3
            have e4 := cell_of_block hn9 4
            have e5 := cell_of_block hn9 5
            have e6 := cell_of_block hn9 6
            (try simp only [Exit.inBlock, Exit.then])
            refine bodyPost_ret (v := .tuple #[.agg #[.int .i64 413, .string ⟨#[]⟩, .string ⟨#[]⟩, .int .i64 0, .slice none 0 0, .slice none 0 0, .bool false], .bool true]) ?_ rfl (by rw [HS.out]; exact fail_end hd (gr_trans (gr_none G4.out) g5) HN5.out g9 (Nat.le_refl _))
            simp [results, Tryz.results40, go_sem, e0, e1, e2, e3, e4, e5, e6]
          · have HS := hid (HE3.out.trans (if_neg h413))
            have h413'' : decide (8192 - (s.req.body.length : Int) < q1) = false := by simp; omega
            clear HE3
            have c0 := (cell_of_block HH4.out 0).trans (show _ = some (Value.slice ra s.rest.length rc) from rfl)
            have c1 := (cell_of_block HH4.out 1).trans (show _ = some (Value.int .i64 (s.stage : Int)) from rfl)
            have c9 := (cell_of_block HH4.out 9).trans (show _ = some (Value.int .i64 (s.left : Int)) from rfl)
            have f0 := free_of_block HH4.out 0
            have f1 := free_of_block HH4.out 1
            have f9 := free_of_block HH4.out 9
            go_upto_region 13 with fail
            obtain ⟨w5, hw5⟩ : ∃ x, x = ((w4.setCell ⟨b, 0, none⟩ (.slice va r'.length vc)).setCell ⟨b, 9, none⟩ (.int .i64 q1)).setCell ⟨b, 1, none⟩ (.int .i64 3) := ⟨_, rfl⟩
            rw [← hw5]
            have hb5 : w5.heap[b]? = some (.cells (PsCells (.slice va r'.length vc) 3 s.skip s.req.method s.req.target s.req.minor (.slice fa s.req.fields.length fc) (.slice ba s.req.body.length bc) s.req.keep q1) 62 (0, 0)) := by rw [hw5]; exact heap_set (heap_set (heap_set HH4.out))
            have g5 : w4.grownBy w5 (some b) := by rw [hw5]; exact gr_set (gr_set (gr_set (gr_refl _ _)))
            have HN5 := hid (gr_keep g5 HN4.out (blk_ne HN4.out HH4.out (by decide)))
            have HF5 := hid ((HF.out.grow G4.out).kept g5 HH4.out (by decide))
            have HBo5 := hid ((HBo.out.grow G4.out).kept g5 HH4.out (by decide) (no_u8_ps _ _ _ _ _ _ _ _ _ _ _ _))
            have HR5 := hid (HRV4.out.kept g5 HH4.out (by decide))
            have G5 := hid (gr_trans (gr_none G4.out) g5)
            have HQ := hid (show q1 = ((q1.toNat : Nat) : Int) by omega)
            clear c0 c1 c9 c7 f0 f1 f9 l4 ln4 hw5 g5 HN4 HRV4 HH4 G4
            have ln5 := lt_of_block HN5.out
            have lb5 := lt_of_block hb5
            have f1 := free_of_block hb5 1
            have c1 := (cell_of_block hb5 1).trans (show _ = some (Value.int .i64 3) from rfl)
            have n0 := (cell_of_block HN5.out 0).trans (show _ = some (Value.int .i64 0) from rfl)
            have y0 := free_of_block HN5.out 0
            have n1 := (cell_of_block HN5.out 1).trans (show _ = some (Value.string ⟨#[]⟩) from rfl)
            have y1 := free_of_block HN5.out 1
            have n2 := (cell_of_block HN5.out 2).trans (show _ = some (Value.string ⟨#[]⟩) from rfl)
            have y2 := free_of_block HN5.out 2
            have n3 := (cell_of_block HN5.out 3).trans (show _ = some (Value.int .i64 0) from rfl)
            have y3 := free_of_block HN5.out 3
            have n4 := (cell_of_block HN5.out 4).trans (show _ = some (Value.slice none 0 0) from rfl)
            have y4 := free_of_block HN5.out 4
            have n5 := (cell_of_block HN5.out 5).trans (show _ = some (Value.slice none 0 0) from rfl)
            have y5 := free_of_block HN5.out 5
            have n6 := (cell_of_block HN5.out 6).trans (show _ = some (Value.bool false) from rfl)
            have y6 := free_of_block HN5.out 6
            have HB5 := hid hb5
            clear hb5
            by_cases hz : q1 = 0
            · have hS2 := HS.out
              rw [if_pos hz] at hS2
              clear HS
              have HS := hid hS2
              have hz' : (q1 == 0) = true := by simp [hz]
              clear hz hS2
              have hbn : b ≠ w.heap.size := fun e => blk_ne HB5.out HN5.out (by decide) (by rw [e])
              go_wp2_with fail
              have hb6 := heap_set (o := 1) (v := .int .i64 4) HB5.out
              have g6 : w5.grownBy (w5.setCell ⟨b, 1, none⟩ (.int .i64 4)) (some b) := gr_set (gr_refl _ _)
              have hn6 := gr_keep g6 HN5.out (blk_ne HN5.out HB5.out (by decide))
              have hf6 := HF5.out.kept g6 HB5.out (by decide)
              have ho6 := HBo5.out.kept g6 HB5.out (by decide) (no_u8_ps _ _ _ _ _ _ _ _ _ _ _ _)
              have hr6 := HR5.out.kept g6 HB5.out (by decide)
              revert hb6 g6 hn6 hf6 ho6 hr6
              generalize w5.setCell ⟨b, 1, none⟩ _ = w6
              intro hb6 g6 hn6 hf6 ho6 hr6
              have H7 := pd_set7 (.int .i64 0) (.string ⟨#[]⟩) (.string ⟨#[]⟩) (.int .i64 0) (.slice none 0 0) (.slice none 0 0) (.bool false) hn6
              revert H7
              generalize ((((((w6.setCell _ _).setCell _ _).setCell _ _).setCell _ _).setCell _ _).setCell _ _).setCell _ _ = w9
              rintro ⟨hn9, g9⟩
              have e0 := cell_of_block hn9 0
              have e1 := cell_of_block hn9 1
              have e2 := cell_of_block hn9 2
              have e3 := cell_of_block hn9 3
              have e4 := cell_of_block hn9 4
              have e5 := cell_of_block hn9 5
              have e6 := cell_of_block hn9 6
              (try simp only [Exit.inBlock, Exit.then])
              refine bodyPost_ret (v := .tuple #[.agg #[.int .i64 0, .string ⟨#[]⟩, .string ⟨#[]⟩, .int .i64 0, .slice none 0 0, .slice none 0 0, .bool false], .bool false]) ?_ rfl (by rw [HS.out]; exact none_end ⟨_, _, _, (by rw [← HQ.out]; exact hb6), hr6, hf6, ho6⟩ (show (4 : Nat) ≠ 5 by decide) (gr_trans G5.out g6) hn6 g9 (Nat.le_refl _) (no_u8_pd _ _ _ _ _ _ _))
              simp [results, Tryz.results40, go_sem, e0, e1, e2, e3, e4, e5, e6]
            · have hS2 := HS.out
              rw [if_neg hz] at hS2
              clear HS
              have HS := hid hS2
              have hz' : (q1 == 0) = false := by simp [hz]
              clear hz hS2
              go_wp2_with fail
              have H7 := pd_set7 (.int .i64 0) (.string ⟨#[]⟩) (.string ⟨#[]⟩) (.int .i64 0) (.slice none 0 0) (.slice none 0 0) (.bool false) HN5.out
              revert H7
              generalize ((((((w5.setCell _ _).setCell _ _).setCell _ _).setCell _ _).setCell _ _).setCell _ _).setCell _ _ = w9
              rintro ⟨hn9, g9⟩
              have e0 := cell_of_block hn9 0
              have e1 := cell_of_block hn9 1
              have e2 := cell_of_block hn9 2
              have e3 := cell_of_block hn9 3
              have e4 := cell_of_block hn9 4
              have e5 := cell_of_block hn9 5
              have e6 := cell_of_block hn9 6
              (try simp only [Exit.inBlock, Exit.then])
              refine bodyPost_ret (v := .tuple #[.agg #[.int .i64 0, .string ⟨#[]⟩, .string ⟨#[]⟩, .int .i64 0, .slice none 0 0, .slice none 0 0, .bool false], .bool false]) ?_ rfl (by rw [HS.out]; exact none_end ⟨_, _, _, (by rw [← HQ.out]; exact HB5.out), HR5.out, HF5.out, HBo5.out⟩ (show (3 : Nat) ≠ 5 by decide) G5.out HN5.out g9 (Nat.le_refl _) (no_u8_pd _ _ _ _ _ _ _))
              simp [results, Tryz.results40, go_sem, e0, e1, e2, e3, e4, e5, e6]
      · have HS := hid (HE2.out.trans (if_pos (.inl rfl)))
        clear HE2
        go_wp2_with fail
        refine (fail_http b _ _ _ _ _ _ 400 _ _ _ _ w4 HH4.out).mono ?_
        rintro e w5 ⟨rfl, hd, g5⟩
        have HN5 := hid (gr_keep g5 HN4.out (blk_ne HN4.out HH4.out (by decide)))
        have y0 := free_of_block HN5.out 0
        have y1 := free_of_block HN5.out 1
        have y2 := free_of_block HN5.out 2
        have y3 := free_of_block HN5.out 3
        have y4 := free_of_block HN5.out 4
        have y5 := free_of_block HN5.out 5
        have y6 := free_of_block HN5.out 6
        have n0 := (cell_of_block HN5.out 0).trans (show _ = some (Value.int .i64 0) from rfl)
        have n1 := (cell_of_block HN5.out 1).trans (show _ = some (Value.string ⟨#[]⟩) from rfl)
        have n2 := (cell_of_block HN5.out 2).trans (show _ = some (Value.string ⟨#[]⟩) from rfl)
        have n3 := (cell_of_block HN5.out 3).trans (show _ = some (Value.int .i64 0) from rfl)
        have n4 := (cell_of_block HN5.out 4).trans (show _ = some (Value.slice none 0 0) from rfl)
        have n5 := (cell_of_block HN5.out 5).trans (show _ = some (Value.slice none 0 0) from rfl)
        have n6 := (cell_of_block HN5.out 6).trans (show _ = some (Value.bool false) from rfl)
        have lnn := lt_of_block HN5.out
        unfold PdCells str
        go_wp21
        have H7 := pd_set7 (.int .i64 400) (.string ⟨#[]⟩) (.string ⟨#[]⟩) (.int .i64 0) (.slice none 0 0) (.slice none 0 0) (.bool false) HN5.out
        revert H7
        generalize ((((((w5.setCell _ _).setCell _ _).setCell _ _).setCell _ _).setCell _ _).setCell _ _).setCell _ _ = w9
        rintro ⟨hn9, g9⟩
        have e0 := cell_of_block hn9 0
        have e1 := cell_of_block hn9 1
        have e2 := cell_of_block hn9 2
        have e3 := cell_of_block hn9 3
        have e4 := cell_of_block hn9 4
        have e5 := cell_of_block hn9 5
        have e6 := cell_of_block hn9 6
        (try simp only [Exit.inBlock, Exit.then])
        refine bodyPost_ret (v := .tuple #[.agg #[.int .i64 400, .string ⟨#[]⟩, .string ⟨#[]⟩, .int .i64 0, .slice none 0 0, .slice none 0 0, .bool false], .bool true]) ?_ rfl (by rw [HS.out]; exact fail_end hd (gr_trans (gr_none G4.out) g5) HN5.out g9 (Nat.le_refl _))
        simp [results, Tryz.results40, go_sem, e0, e1, e2, e3, e4, e5, e6]
end Go.Proofs.YtldbcdiomkkinaaGreatDoor
