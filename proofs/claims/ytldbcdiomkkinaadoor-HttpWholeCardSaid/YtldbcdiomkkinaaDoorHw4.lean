/- hearthref16.Same of one thing with itself, as it lies in memory twice. -/
import Derived.Test.YtldbcdiomkkinaaDoorHw3
import Derived.Deep.QuietTactic
import Derived.BigQuiet
namespace Go.Proofs.YtldbcdiomkkinaaDoor
open Go.RowKit

def rqAgg (p : Pd) (fv bv : Value) : Value := .agg #[str p.req.method, str p.req.target, .int .i64 p.req.minor, fv, bv, .bool p.req.keep]
theorem FsAt.cells {W : World} {a : Option Addr} {n c : Nat} {fs : List (List UInt8 × List UInt8)} (h : FsAt W (.slice a n c) fs) {i : Nat} (hi : i < fs.length) : ∃ g, a = some ⟨g, 0, none⟩ ∧ n ≤ c ∧ n = fs.length ∧ W.cell? ⟨g, i * 2, none⟩ = some (str (fs.getD i ([], [])).1) ∧ W.cell? ⟨g, i * 2 + 1, none⟩ = some (str (fs.getD i ([], [])).2) := by
  rcases h with ⟨e, rfl⟩ | ⟨g, cap, cs, e, hh, h1, h2, h3, h4⟩
  · simp at hi
  · cases e
    have hget : ∀ (fs : List (List UInt8 × List UInt8)) (i : Nat), i < fs.length → (fs.flatMap fun f => [str f.1, str f.2])[i * 2]? = some (str (fs.getD i ([], [])).1) ∧ (fs.flatMap fun f => [str f.1, str f.2])[i * 2 + 1]? = some (str (fs.getD i ([], [])).2) := by
      intro fs
      induction fs with
      | nil => intro i hi; simp at hi
      | cons f fs ih =>
        intro i hi
        rcases i with _ | i
        · simp
        · have := ih i (by simpa using hi)
          rw [show (i + 1) * 2 = i * 2 + 1 + 1 by omega]
          simpa using this
    obtain ⟨g1, g2⟩ := hget fs i hi
    rw [← h3, List.getElem?_take, if_pos (by omega)] at g1
    rw [← h3, List.getElem?_take, if_pos (by omega)] at g2
    refine ⟨g, rfl, h1, rfl, ?_, ?_⟩
    · rw [cell_of_block hh]; simpa using g1
    · rw [cell_of_block hh]; simpa using g2
theorem FsAt.len {W : World} {v : Value} {fs : List (List UInt8 × List UInt8)} (h : FsAt W v fs) : fs.length ≤ 9223372036854775807 := by
  rcases h with ⟨_, rfl⟩ | ⟨g, cap, cs, _, _, h1, h2, _⟩
  · exact Nat.zero_le _
  · unfold maxLen at h2; omega
theorem two_a (W : World) (A B : Obj) : ((W.alloc A).alloc B).drew.heap[W.heap.size]? = some A :=
  (heap_alloc_old _ _ (by simp [World.size_alloc])).trans (heap_alloc_new W A)
theorem two_b (W : World) (A B : Obj) : ((W.alloc A).alloc B).drew.heap[W.heap.size + 1]? = some B := by
  have h := heap_alloc_new (W.alloc A) B
  rw [World.size_alloc] at h
  exact h
set_option maxRecDepth 20000 in
set_option maxHeartbeats 4000000 in
theorem same_same (p : Pd) (fa1 ba1 fa2 ba2 : Option Addr) (fc1 bc1 fc2 bc2 : Nat) (w : World)
    (hf1 : FsAt w (.slice fa1 p.req.fields.length fc1) p.req.fields) (hb1 : BoAt w (.slice ba1 p.req.body.length bc1) p.req.body)
    (hf2 : FsAt w (.slice fa2 p.req.fields.length fc2) p.req.fields) (hb2 : BoAt w (.slice ba2 p.req.body.length bc2) p.req.body) :
    Calls Tryd.prog 11 #[.agg (PdCells p.status p.req.method p.req.target p.req.minor (.slice fa1 p.req.fields.length fc1) (.slice ba1 p.req.body.length bc1) p.req.keep), .agg (PdCells p.status p.req.method p.req.target p.req.minor (.slice fa2 p.req.fields.length fc2) (.slice ba2 p.req.body.length bc2) p.req.keep)] w fun e w' => e = .returned (.bool true) ∧ w.grownBy w' none := by
  have HL := hid hf1.len
  obtain ⟨b, hb⟩ : ∃ b, b = w.heap.size := ⟨_, rfl⟩
  obtain ⟨q, hq⟩ : ∃ q, q = b + 1 := ⟨_, rfl⟩
  obtain ⟨W, hW⟩ : ∃ W, W = (w.alloc (.cells (PdCells p.status p.req.method p.req.target p.req.minor (.slice fa1 p.req.fields.length fc1) (.slice ba1 p.req.body.length bc1) p.req.keep) 33)).alloc (.cells (PdCells p.status p.req.method p.req.target p.req.minor (.slice fa2 p.req.fields.length fc2) (.slice ba2 p.req.body.length bc2) p.req.keep) 33) := ⟨_, rfl⟩
  have h1 : W.heap[b]? = some (.cells (PdCells p.status p.req.method p.req.target p.req.minor (.slice fa1 p.req.fields.length fc1) (.slice ba1 p.req.body.length bc1) p.req.keep) 33 (0, 0)) := by
    rw [hW, hb, heap_alloc_old _ _ (by simp [World.size_alloc])]; exact heap_alloc_new w _
  have h2 : W.heap[q]? = some (.cells (PdCells p.status p.req.method p.req.target p.req.minor (.slice fa2 p.req.fields.length fc2) (.slice ba2 p.req.body.length bc2) p.req.keep) 33 (0, 0)) := by
    rw [hq, hW, hb]
    have := heap_alloc_new (w.alloc (.cells (PdCells p.status p.req.method p.req.target p.req.minor (.slice fa1 p.req.fields.length fc1) (.slice ba1 p.req.body.length bc1) p.req.keep) 33)) (.cells (PdCells p.status p.req.method p.req.target p.req.minor (.slice fa2 p.req.fields.length fc2) (.slice ba2 p.req.body.length bc2) p.req.keep) 33)
    rw [World.size_alloc] at this
    exact this
  have hg : w.grownBy W none := by rw [hW]; exact gr_alloc (World.grownBy_alloc w _ none) _
  have HF1 := hid (hf1.grow hg)
  have HB1 := hid (hb1.grow hg)
  have HF2 := hid (hf2.grow hg)
  have HB2 := hid (hb2.grow hg)
  have HG := hid hg
  have c0 := (cell_of_block h1 0).trans (show _ = some (Value.int .i64 p.status) from rfl)
  have c1 := (cell_of_block h1 1).trans (show _ = some (str p.req.method) from rfl)
  have c2 := (cell_of_block h1 2).trans (show _ = some (str p.req.target) from rfl)
  have c3 := (cell_of_block h1 3).trans (show _ = some (Value.int .i64 p.req.minor) from rfl)
  have c4 := (cell_of_block h1 4).trans (show _ = some (Value.slice fa1 p.req.fields.length fc1) from rfl)
  have c5 := (cell_of_block h1 5).trans (show _ = some (Value.slice ba1 p.req.body.length bc1) from rfl)
  have c6 := (cell_of_block h1 6).trans (show _ = some (Value.bool p.req.keep) from rfl)
  have d0 := (cell_of_block h2 0).trans (show _ = some (Value.int .i64 p.status) from rfl)
  have d1 := (cell_of_block h2 1).trans (show _ = some (str p.req.method) from rfl)
  have d2 := (cell_of_block h2 2).trans (show _ = some (str p.req.target) from rfl)
  have d3 := (cell_of_block h2 3).trans (show _ = some (Value.int .i64 p.req.minor) from rfl)
  have d4 := (cell_of_block h2 4).trans (show _ = some (Value.slice fa2 p.req.fields.length fc2) from rfl)
  have d5 := (cell_of_block h2 5).trans (show _ = some (Value.slice ba2 p.req.body.length bc2) from rfl)
  have d6 := (cell_of_block h2 6).trans (show _ = some (Value.bool p.req.keep) from rfl)
  have hlt := lt_of_block h2
  have hlt1 := lt_of_block h1
  clear hf1 hb1 hf2 hb2 hg h1 h2
  go_enter Tryd.func11, Tryd.ntmps11
  go_wp2_with fail
  rw [← hW, ← hb, ← hq]
  clear hW hb hq
  unfold str at *
  go_region
  · have hx := two_a W (.cells #[.string ⟨p.req.method.toArray⟩, .string ⟨p.req.target.toArray⟩, .int .i64 p.req.minor, .slice fa1 p.req.fields.length fc1, .slice ba1 p.req.body.length bc1, .bool p.req.keep] 31) (.cells #[.string ⟨p.req.method.toArray⟩, .string ⟨p.req.target.toArray⟩, .int .i64 p.req.minor, .slice fa2 p.req.fields.length fc2, .slice ba2 p.req.body.length bc2, .bool p.req.keep] 31)
    have hy := two_b W (.cells #[.string ⟨p.req.method.toArray⟩, .string ⟨p.req.target.toArray⟩, .int .i64 p.req.minor, .slice fa1 p.req.fields.length fc1, .slice ba1 p.req.body.length bc1, .bool p.req.keep] 31) (.cells #[.string ⟨p.req.method.toArray⟩, .string ⟨p.req.target.toArray⟩, .int .i64 p.req.minor, .slice fa2 p.req.fields.length fc2, .slice ba2 p.req.body.length bc2, .bool p.req.keep] 31)
    have g2 := gr_drew (gr_alloc (World.grownBy_alloc W (.cells #[.string ⟨p.req.method.toArray⟩, .string ⟨p.req.target.toArray⟩, .int .i64 p.req.minor, .slice fa1 p.req.fields.length fc1, .slice ba1 p.req.body.length bc1, .bool p.req.keep] 31) none) (.cells #[.string ⟨p.req.method.toArray⟩, .string ⟨p.req.target.toArray⟩, .int .i64 p.req.minor, .slice fa2 p.req.fields.length fc2, .slice ba2 p.req.body.length bc2, .bool p.req.keep] 31))
    revert hx hy g2
    generalize ((W.alloc (.cells #[.string ⟨p.req.method.toArray⟩, .string ⟨p.req.target.toArray⟩, .int .i64 p.req.minor, .slice fa1 p.req.fields.length fc1, .slice ba1 p.req.body.length bc1, .bool p.req.keep] 31)).alloc (.cells #[.string ⟨p.req.method.toArray⟩, .string ⟨p.req.target.toArray⟩, .int .i64 p.req.minor, .slice fa2 p.req.fields.length fc2, .slice ba2 p.req.body.length bc2, .bool p.req.keep] 31)).drew = W2
    generalize W.heap.size + 1 = ky
    generalize W.heap.size = kx
    intro hx hy g2
    have G2 := hid (gr_trans HG.out g2)
    have x0 := (cell_of_block hx 0).trans (show _ = some (Value.string ⟨p.req.method.toArray⟩) from rfl)
    have x1 := (cell_of_block hx 1).trans (show _ = some (Value.string ⟨p.req.target.toArray⟩) from rfl)
    have x2 := (cell_of_block hx 2).trans (show _ = some (Value.int .i64 p.req.minor) from rfl)
    have x3 := (cell_of_block hx 3).trans (show _ = some (Value.slice fa1 p.req.fields.length fc1) from rfl)
    have x4 := (cell_of_block hx 4).trans (show _ = some (Value.slice ba1 p.req.body.length bc1) from rfl)
    have x5 := (cell_of_block hx 5).trans (show _ = some (Value.bool p.req.keep) from rfl)
    have y0 := (cell_of_block hy 0).trans (show _ = some (Value.string ⟨p.req.method.toArray⟩) from rfl)
    have y1 := (cell_of_block hy 1).trans (show _ = some (Value.string ⟨p.req.target.toArray⟩) from rfl)
    have y2 := (cell_of_block hy 2).trans (show _ = some (Value.int .i64 p.req.minor) from rfl)
    have y3 := (cell_of_block hy 3).trans (show _ = some (Value.slice fa2 p.req.fields.length fc2) from rfl)
    have y4 := (cell_of_block hy 4).trans (show _ = some (Value.slice ba2 p.req.body.length bc2) from rfl)
    have y5 := (cell_of_block hy 5).trans (show _ = some (Value.bool p.req.keep) from rfl)
    have k0 := g2.cell c0 (by simp)
    have l0 := g2.cell d0 (by simp)
    have HC1 := hid (run_b2s (w := W2) Tryd.underlying22 Tryd.underlying5 Tryd.underlying9 (HB1.out.grow g2).bytes)
    have HC2 := hid (run_b2s (w := W2) Tryd.underlying22 Tryd.underlying5 Tryd.underlying9 (HB2.out.grow g2).bytes)
    have HX := hid hx
    have HY := hid hy
    have HF1' := hid (HF1.out.grow g2)
    have HF2' := hid (HF2.out.grow g2)
    clear c0 c1 c2 c3 c4 c5 c6 d0 d1 d2 d3 d4 d5 d6 hlt hlt1 g2 hx hy
    unfold str at HC1 HC2
    obtain ⟨bd, hbd⟩ : ∃ b, b = p.req.body.toArray := ⟨_, rfl⟩
    rw [← hbd] at HC1 HC2
    clear hbd
    go_wp2_with fail
    rw [HC1.out]
    go_simp
    go_wp2_with fail
    rw [HC2.out]
    go_simp
    go_wp2_with fail
    clear k0 l0 x0 x1 x2 x3 x4 x5 y0 y1 y2 y3 y4 y5 HC1 HC2 HB1 HB2
    go_loopw [7] (fun v7 wr => ∃ i : Nat, i ≤ p.req.fields.length ∧ v7 = .int .i64 (i : Int) ∧ W2.grownBy wr none) (fun v7 _ => p.req.fields.length - (intOf v7).toNat)
    case atStart => exact ⟨0, Nat.zero_le _, rfl, gr_refl _ _⟩
    case round =>
      obtain ⟨i, hi, rfl, gw⟩ := hrel
      have hxr := gr_keep gw HX.out (by simp)
      have hyr := gr_keep gw HY.out (by simp)
      have x3 := (cell_of_block hxr 3).trans (show _ = some (Value.slice fa1 p.req.fields.length fc1) from rfl)
      have y3 := (cell_of_block hyr 3).trans (show _ = some (Value.slice fa2 p.req.fields.length fc2) from rfl)
      have GW := hid gw
      have hll := HL.out
      by_cases hin : i < p.req.fields.length
      · obtain ⟨g1, rfl, hc1, -, e1, e2⟩ := (HF1'.out.grow gw).cells hin
        obtain ⟨g3, rfl, hc3, -, e3, e4⟩ := (HF2'.out.grow gw).cells hin
        clear gw hxr hyr HF1 HF2
        obtain ⟨s1, hs1⟩ : ∃ s, s = (p.req.fields.getD i ([], [])).1.toArray := ⟨_, rfl⟩
        obtain ⟨s2, hs2⟩ : ∃ s, s = (p.req.fields.getD i ([], [])).2.toArray := ⟨_, rfl⟩
        unfold str at e1 e2 e3 e4
        rw [← hs1] at e1 e3
        rw [← hs2] at e2 e4
        clear hs1 hs2
        obtain ⟨n, hn⟩ : ∃ n, n = p.req.fields.length := ⟨_, rfl⟩
        rw [← hn] at hin hc1 hc3 hll x3 y3 ⊢
        have hin' : (i : Int) < (n : Int) := by omega
        go_wp2_with fail
        go_quiet (fail)
        go_wp2_with fail
        go_roundw
        case rel => exact ⟨i + 1, by omega, by first | go_num | (congr 1; omega), gr_drewN _ GW.out⟩
        case measure => simp [intOf]; omega
      · clear gw hxr hyr
        go_wp2_with fail
        go_ret
        exact ⟨rfl, gr_trans G2.out GW.out⟩
  · have hy := two_a W (.cells #[.string ⟨p.req.method.toArray⟩, .string ⟨p.req.target.toArray⟩, .int .i64 p.req.minor, .slice fa2 p.req.fields.length fc2, .slice ba2 p.req.body.length bc2, .bool p.req.keep] 31) (.cells #[.string ⟨p.req.method.toArray⟩, .string ⟨p.req.target.toArray⟩, .int .i64 p.req.minor, .slice fa1 p.req.fields.length fc1, .slice ba1 p.req.body.length bc1, .bool p.req.keep] 31)
    have hx := two_b W (.cells #[.string ⟨p.req.method.toArray⟩, .string ⟨p.req.target.toArray⟩, .int .i64 p.req.minor, .slice fa2 p.req.fields.length fc2, .slice ba2 p.req.body.length bc2, .bool p.req.keep] 31) (.cells #[.string ⟨p.req.method.toArray⟩, .string ⟨p.req.target.toArray⟩, .int .i64 p.req.minor, .slice fa1 p.req.fields.length fc1, .slice ba1 p.req.body.length bc1, .bool p.req.keep] 31)
    have g2 := gr_drew (gr_alloc (World.grownBy_alloc W (.cells #[.string ⟨p.req.method.toArray⟩, .string ⟨p.req.target.toArray⟩, .int .i64 p.req.minor, .slice fa2 p.req.fields.length fc2, .slice ba2 p.req.body.length bc2, .bool p.req.keep] 31) none) (.cells #[.string ⟨p.req.method.toArray⟩, .string ⟨p.req.target.toArray⟩, .int .i64 p.req.minor, .slice fa1 p.req.fields.length fc1, .slice ba1 p.req.body.length bc1, .bool p.req.keep] 31))
    revert hy hx g2
    generalize ((W.alloc (.cells #[.string ⟨p.req.method.toArray⟩, .string ⟨p.req.target.toArray⟩, .int .i64 p.req.minor, .slice fa2 p.req.fields.length fc2, .slice ba2 p.req.body.length bc2, .bool p.req.keep] 31)).alloc (.cells #[.string ⟨p.req.method.toArray⟩, .string ⟨p.req.target.toArray⟩, .int .i64 p.req.minor, .slice fa1 p.req.fields.length fc1, .slice ba1 p.req.body.length bc1, .bool p.req.keep] 31)).drew = W2
    generalize W.heap.size + 1 = kx
    generalize W.heap.size = ky
    intro hy hx g2
    have G2 := hid (gr_trans HG.out g2)
    have x0 := (cell_of_block hx 0).trans (show _ = some (Value.string ⟨p.req.method.toArray⟩) from rfl)
    have x1 := (cell_of_block hx 1).trans (show _ = some (Value.string ⟨p.req.target.toArray⟩) from rfl)
    have x2 := (cell_of_block hx 2).trans (show _ = some (Value.int .i64 p.req.minor) from rfl)
    have x3 := (cell_of_block hx 3).trans (show _ = some (Value.slice fa1 p.req.fields.length fc1) from rfl)
    have x4 := (cell_of_block hx 4).trans (show _ = some (Value.slice ba1 p.req.body.length bc1) from rfl)
    have x5 := (cell_of_block hx 5).trans (show _ = some (Value.bool p.req.keep) from rfl)
    have y0 := (cell_of_block hy 0).trans (show _ = some (Value.string ⟨p.req.method.toArray⟩) from rfl)
    have y1 := (cell_of_block hy 1).trans (show _ = some (Value.string ⟨p.req.target.toArray⟩) from rfl)
    have y2 := (cell_of_block hy 2).trans (show _ = some (Value.int .i64 p.req.minor) from rfl)
    have y3 := (cell_of_block hy 3).trans (show _ = some (Value.slice fa2 p.req.fields.length fc2) from rfl)
    have y4 := (cell_of_block hy 4).trans (show _ = some (Value.slice ba2 p.req.body.length bc2) from rfl)
    have y5 := (cell_of_block hy 5).trans (show _ = some (Value.bool p.req.keep) from rfl)
    have k0 := g2.cell c0 (by simp)
    have l0 := g2.cell d0 (by simp)
    have HC1 := hid (run_b2s (w := W2) Tryd.underlying22 Tryd.underlying5 Tryd.underlying9 (HB1.out.grow g2).bytes)
    have HC2 := hid (run_b2s (w := W2) Tryd.underlying22 Tryd.underlying5 Tryd.underlying9 (HB2.out.grow g2).bytes)
    have HX := hid hx
    have HY := hid hy
    have HF1' := hid (HF1.out.grow g2)
    have HF2' := hid (HF2.out.grow g2)
    clear c0 c1 c2 c3 c4 c5 c6 d0 d1 d2 d3 d4 d5 d6 hlt hlt1 g2 hx hy
    unfold str at HC1 HC2
    obtain ⟨bd, hbd⟩ : ∃ b, b = p.req.body.toArray := ⟨_, rfl⟩
    rw [← hbd] at HC1 HC2
    clear hbd
    go_wp2_with fail
    rw [HC1.out]
    go_simp
    go_wp2_with fail
    rw [HC2.out]
    go_simp
    go_wp2_with fail
    clear k0 l0 x0 x1 x2 x3 x4 x5 y0 y1 y2 y3 y4 y5 HC1 HC2 HB1 HB2
    go_loopw [7] (fun v7 wr => ∃ i : Nat, i ≤ p.req.fields.length ∧ v7 = .int .i64 (i : Int) ∧ W2.grownBy wr none) (fun v7 _ => p.req.fields.length - (intOf v7).toNat)
    case atStart => exact ⟨0, Nat.zero_le _, rfl, gr_refl _ _⟩
    case round =>
      obtain ⟨i, hi, rfl, gw⟩ := hrel
      have hxr := gr_keep gw HX.out (by simp)
      have hyr := gr_keep gw HY.out (by simp)
      have x3 := (cell_of_block hxr 3).trans (show _ = some (Value.slice fa1 p.req.fields.length fc1) from rfl)
      have y3 := (cell_of_block hyr 3).trans (show _ = some (Value.slice fa2 p.req.fields.length fc2) from rfl)
      have GW := hid gw
      have hll := HL.out
      by_cases hin : i < p.req.fields.length
      · obtain ⟨g1, rfl, hc1, -, e1, e2⟩ := (HF1'.out.grow gw).cells hin
        obtain ⟨g3, rfl, hc3, -, e3, e4⟩ := (HF2'.out.grow gw).cells hin
        clear gw hxr hyr HF1 HF2
        obtain ⟨s1, hs1⟩ : ∃ s, s = (p.req.fields.getD i ([], [])).1.toArray := ⟨_, rfl⟩
        obtain ⟨s2, hs2⟩ : ∃ s, s = (p.req.fields.getD i ([], [])).2.toArray := ⟨_, rfl⟩
        unfold str at e1 e2 e3 e4
        rw [← hs1] at e1 e3
        rw [← hs2] at e2 e4
        clear hs1 hs2
        obtain ⟨n, hn⟩ : ∃ n, n = p.req.fields.length := ⟨_, rfl⟩
        rw [← hn] at hin hc1 hc3 hll x3 y3 ⊢
        have hin' : (i : Int) < (n : Int) := by omega
        go_wp2_with fail
        go_quiet (fail)
        go_wp2_with fail
        go_roundw
        case rel => exact ⟨i + 1, by omega, by first | go_num | (congr 1; omega), gr_drewN _ GW.out⟩
        case measure => simp [intOf]; omega
      · clear gw hxr hyr
        go_wp2_with fail
        go_ret
        exact ⟨rfl, gr_trans G2.out GW.out⟩
end Go.Proofs.YtldbcdiomkkinaaDoor
