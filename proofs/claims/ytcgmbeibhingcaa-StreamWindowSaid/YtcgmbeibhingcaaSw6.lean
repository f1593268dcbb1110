/- (*stream.Conn).Flush. -/
import Derived.Test.YtcgmbeibhingcaaSw5
namespace Go.Proofs.Ytcgmbeibhingcaa
open Go.RowKit

/-- What Flush hands back. -/
def FlushPost (w : World) (b : Nat) (c : Cn) (l : List UInt8) (B un T E N M : Nat) (e : Ending) (w' : World) : Prop :=
  ∃ outv segs N', e = .returned outv ∧ w'.ownsRow w.heap.size 34 9 outv segs.length (segsL c un segs) ∧ (∀ s ∈ segs, ByAt w' s.2.2 ((l.drop (s.1 - B)).take s.2.1)) ∧ Chain T E N segs N' ∧ (T ≤ N' ∨ E ≤ N') ∧
    ConnT w' b { c with next := (N' : Nat), most := (max M N' : Nat) } ∧ w.grownBy w' (some b) ∧ ByAt w' c.out l
theorem infoSeg : (Try.prog.info? 34).map (fun i => (i.zero, i.size, i.bytes)) = some (some (.agg #[.int .u16 0, .int .u16 0, .int .u32 0, .int .u32 0, .int .u8 0, .int .u16 0, .int .u16 0, .slice none 0 0, .slice none 0 0]), 9, 72) := by kernel_rfl
theorem row_shape {w : World} {base size n : Nat} {e : TypeId} {v : Value} {xs : List Value} (h : w.ownsRow base e size v n xs) : ∃ a cap, v = .slice a n cap ∧ n ≤ cap := by
  rcases h.2 with ⟨rfl, rfl⟩ | ⟨g, cap, cur, rfl, hg, hh, hc, hm, hs, ht⟩
  · exact ⟨none, 0, rfl, Nat.le_refl _⟩
  · exact ⟨_, cap, rfl, hc⟩
theorem seg_news (w : World) (T : TypeId) (a0 a1 a2 a3 a4 a5 a6 : Int) (a7 : Option Addr) (a8 a9 : Nat) (j : Nat) (u : Value) (hj : ([.int .u16 a0, .int .u16 a1, .int .u32 a2, .int .u32 a3, .int .u8 a4, .int .u16 a5, .int .u16 a6, .slice none 0 0, .slice a7 a8 a9] : List Value)[j]? = some u) :
    (w.alloc (.cells #[.int .u16 a0, .int .u16 a1, .int .u32 a2, .int .u32 a3, .int .u8 a4, .int .u16 a5, .int .u16 a6, .slice none 0 0, .slice a7 a8 a9] T)).cell? ((⟨w.heap.size, 0, none⟩ : Addr).add j) = some u := by
  rw [Go.WideShapes.add_plain, Nat.zero_add, cell_of_block (heap_alloc_new w _) j]
  simpa using hj
theorem seg_one (a0 a1 a2 a3 a4 a5 a6 : Int) (a7 : Option Addr) (a8 a9 : Nat) (u : Value) (hu : u ∈ ([.int .u16 a0, .int .u16 a1, .int .u32 a2, .int .u32 a3, .int .u8 a4, .int .u16 a5, .int .u16 a6, .slice none 0 0, .slice a7 a8 a9] : List Value)) : u.oneCell' = true := by
  simp only [List.mem_cons, List.not_mem_nil, or_false] at hu
  rcases hu with rfl | rfl | rfl | rfl | rfl | rfl | rfl | rfl | rfl <;> rfl
theorem keep_own {w w1 : World} {base size n g : Nat} {e T : TypeId} {v : Value} {xs : List Value} {cs : Array Value} {r : Nat × Nat} (h : w.ownsRow base e size v n xs) (k : w.grownBy w1 v.ownBlock) (hx : w.heap[g]? = some (.cells cs T r)) (hT : T ≠ e) : w1.heap[g]? = some (.cells cs T r) := by
  refine gr_keep k hx ?_
  rcases h.2 with ⟨rfl, _⟩ | ⟨g', cap, cur, rfl, hb, hh, _⟩
  · simp [Value.ownBlock]
  · exact blk_ne hx hh hT
theorem ByAt.own {w w1 : World} {base size n : Nat} {e : TypeId} {v v2 : Value} {xs : List Value} {l : List UInt8} (h : w.ownsRow base e size v n xs) (k : w.grownBy w1 v.ownBlock) (hx : ByAt w v2 l) (hT : 5 ≠ e) : ByAt w1 v2 l := by
  rcases hx with h0 | ⟨g0, off, cap, cs, rfl, hh, r⟩
  · exact .inl h0
  · exact .inr ⟨g0, off, cap, cs, rfl, keep_own h k hh hT, r⟩
theorem gr_row {w w1 w2 : World} {base : Nat} {e : TypeId} {size : Nat} {v : Value} {n : Nat} {xs : List Value} {row : Option Nat} (hg : w.grownBy w1 row) (ho : w1.ownsRow base e size v n xs) (hb : w.heap.size ≤ base) (h : w1.grownBy w2 v.ownBlock) : w.grownBy w2 row := by
  rcases hv : v.ownBlock with _ | g
  · rw [hv] at h; exact gr_trans hg (gr_none h)
  · rw [hv] at h; exact gr_new hg h (by have := (ho.lt g hv).1; omega)
theorem FlI.append {w W W1 : World} {b po q2 q3 : Nat} {c c' : Cn} {now : Int} {l : List UInt8} {B un : Nat} {outv v' : Value} {segs : List (Nat × Nat × Value)} (h : FlI w W b po q2 q3 c c' now l B un outv segs) (g : W.grownBy W1 outv.ownBlock) (x : Nat × Nat × Value) {news : List Value}
    (hr : W1.ownsRow w.heap.size 34 9 v' (segs.length + 1) (segsL c un segs ++ news)) (hx : segL c un x = news) (hd : ByAt W x.2.2 ((l.drop (x.1 - B)).take x.2.1)) (hpo : w.heap.size ≤ po) : FlI w (W1.setCell ⟨po, 0, none⟩ v') b po q2 q3 c c' now l B un v' (segs ++ [x]) := by
  have k1 : W1.grownBy (W1.setCell ⟨po, 0, none⟩ v') (some po) := gr_set (gr_refl _ _)
  have ko := keep_own h.row g h.bo (by decide)
  have kc := keep_own h.row g h.conn (by decide)
  have k2 := keep_own h.row g h.b2 (by decide)
  have k3 := keep_own h.row g h.b3 (by decide)
  refine ⟨gr_keep k1 kc (blk_ne kc ko (by decide)), (ByAt.own h.row g h.out (by decide)).kept k1 ko (by decide), ?_, fun s hs => ?_, heap_set ko, gr_keep k1 k2 (blk_ne k2 ko (by decide)), gr_keep k1 k3 (blk_ne k3 ko (by decide)), gr_new (gr_row h.g h.row (Nat.le_refl _) g) k1 hpo⟩
  · rw [segsL_snoc, hx, List.length_append]
    exact row_ty hr k1 ko (by decide)
  · rcases List.mem_append.1 hs with hs | hs
    · exact (ByAt.own h.row g (h.dat s hs) (by decide)).kept k1 ko (by decide)
    · obtain rfl := List.mem_singleton.1 hs
      exact (ByAt.own h.row g hd (by decide)).kept k1 ko (by decide)
theorem FlI.reset {w W : World} {b po q2 q3 : Nat} {c c' : Cn} {now : Int} {l : List UInt8} {B un : Nat} {outv : Value} {segs : List (Nat × Nat × Value)} (h : FlI w W b po q2 q3 c c' now l B un outv segs) (hpo : w.heap.size ≤ po) : FlI w (W.setCell ⟨po, 0, none⟩ outv) b po q2 q3 c c' now l B un outv segs := by
  have k1 : W.grownBy (W.setCell ⟨po, 0, none⟩ outv) (some po) := gr_set (gr_refl _ _)
  exact ⟨gr_keep k1 h.conn (blk_ne h.conn h.bo (by decide)), h.out.kept k1 h.bo (by decide), row_ty h.row k1 h.bo (by decide), fun s hs => (h.dat s hs).kept k1 h.bo (by decide), heap_set h.bo, gr_keep k1 h.b2 (blk_ne h.b2 h.bo (by decide)), gr_keep k1 h.b3 (blk_ne h.b3 h.bo (by decide)), gr_new h.g k1 hpo⟩
/-- The piece that was handed back. -/
def PieceIs (w' : World) (c : Cn) (l : List UInt8) (B un T E Np Nx : Nat) (a0 a1 a2 a3 a4 a5 a6 : Int) (a7 : Option Addr) (a8 a9 : Nat) (ok : Bool) : Prop :=
  (ok = true ∧ ∃ n, Nx = Np + n ∧ 0 < n ∧ n ≤ 1000 ∧ Np + n ≤ T ∧ Np + n ≤ E ∧ ByAt w' (.slice a7 a8 a9) ((l.drop (Np - B)).take n) ∧ (#[.int .u16 a0, .int .u16 a1, .int .u32 a2, .int .u32 a3, .int .u8 a4, .int .u16 a5, .int .u16 a6, .slice none 0 0, .slice a7 a8 a9] : Array Value) = c.seg Np 24 un (.slice a7 a8 a9)) ∨
  (ok = false ∧ Nx = Np ∧ (T ≤ Np ∨ E ≤ Np))
/-- What piece hands back. -/
def PiecePost (w : World) (b : Nat) (c : Cn) (l : List UInt8) (B un T E N M : Nat) (e : Ending) (w' : World) : Prop :=
  ∃ a0 a1 a2 a3 a4 a5 a6 a7 a8 a9 ok Nx, e = .returned (.tuple #[.agg #[.int .u16 a0, .int .u16 a1, .int .u32 a2, .int .u32 a3, .int .u8 a4, .int .u16 a5, .int .u16 a6, .slice none 0 0, .slice a7 a8 a9], .bool ok]) ∧ PieceIs w' c l B un T E N Nx a0 a1 a2 a3 a4 a5 a6 a7 a8 a9 ok ∧ ConnAt w' b { c with next := (Nx : Nat), most := (max M Nx : Nat) } ∧ w.grownBy w' (some b) ∧ Nx ≤ 40000
set_option maxRecDepth 20000 in
theorem piece_any (b : Nat) (c : Cn) (w : World) (B U N M W un : Nat) (l : List UInt8) (ua : Option Addr) (uc : Nat) (h : ConnAt w b c) (hc : CnN c B U N M W un l) (hu : c.unread = .slice ua un uc) (hp : (c.phase != 0) = true) (hcl : c.closing = false)
    (ho : Bytes w c.out l) (hNM : N ≤ M) : Calls Try.prog 25 #[.pointer (some ⟨b, 0, none⟩)] w (PiecePost w b c l B un (B + l.length) (U + max W 1) N M) := by
  have hlim := hc.hN
  have hl := hc.hl
  have hB := hc.hB
  have hp0 : ¬ c.phase = 0 := by simpa using hp
  by_cases h1 : N < B + l.length ∧ N < U + max W 1
  · refine (piece_sends b c w B U N M W un _ l ua uc h hc hu hp ho h1.1 h1.2 rfl).mono ?_
    rintro e w' ⟨v, rfl, hv, hc', g⟩
    obtain ⟨va, vc, rfl, -, -, -⟩ := hv.bytes
    have hq : (c.seg N 24 un (.slice va ((l.drop (N - B)).take (min (min (B + l.length - N) (U + max W 1 - N)) 1000)).length vc) : Array Value) = #[.int .u16 c.src, .int .u16 c.dst, .int .u32 ((c.own + N) % 4294967296), .int .u32 ((c.other + c.seen) % 4294967296), .int .u8 (bits BinOp.or IntKind.u8 24 16), .int .u16 (4096 - un), .int .u16 0, .slice none 0 0, .slice va ((l.drop (N - B)).take (min (min (B + l.length - N) (U + max W 1 - N)) 1000)).length vc] := by
      unfold Cn.seg; rw [if_neg hp0, if_neg hp0]
    refine ⟨_, _, _, _, _, _, _, va, _, vc, true, _, by rw [hq], .inl ⟨rfl, _, rfl, ?_, ?_, ?_, ?_, hv.byAt, hq.symm⟩, hc', g, ?_⟩ <;> omega
  · refine (piece_none b c w B U N M W un l h hc hcl (by omega)).mono ?_
    rintro e w' ⟨rfl, g⟩
    refine ⟨0, 0, 0, 0, 0, 0, 0, none, 0, 0, false, N, rfl, .inr ⟨rfl, rfl, by omega⟩, ?_, gr_none g, by omega⟩
    have e : ({ c with next := (N : Nat), most := (max M N : Nat) } : Cn) = c := by
      have := hc.next
      have := hc.most
      rw [Nat.max_eq_left hNM]
      cases c
      simp_all
    rw [e]
    exact h.keep g (by simp)
/-- Where the loop of Flush stands. -/
def FlR (w : World) (b po q2 q3 : Nat) (c : Cn) (now : Int) (l : List UInt8) (B un T E N M : Nat) (v5 v6 : Value) (W : World) : Prop :=
  ∃ segs outv Nx Np s5 a0 a1 a2 a3 a4 a5 a6 a7 a8 a9 ok, v5 = .pointer (some ⟨s5, 0, none⟩) ∧ v6 = .bool ok ∧ FlI w W b po q2 q3 c { c with next := (Nx : Nat), most := (max M Nx : Nat) } now l B un outv segs ∧ w.heap.size ≤ s5 ∧ (∀ g, outv.ownBlock = some g → g < s5) ∧ Chain T E N segs Np ∧ Nx ≤ 40000 ∧
    W.heap[s5]? = some (.cells #[.int .u16 a0, .int .u16 a1, .int .u32 a2, .int .u32 a3, .int .u8 a4, .int .u16 a5, .int .u16 a6, .slice none 0 0, .slice a7 a8 a9] 34 (0, 0)) ∧ PieceIs W c l B un T E Np Nx a0 a1 a2 a3 a4 a5 a6 a7 a8 a9 ok
/-- How far the loop of Flush is. -/
def flM (T b : Nat) (v6 : Value) (W : World) : Nat :=
  (T - (match W.cell? ⟨b, 6, none⟩ with | some (.int _ i) => i.toNat | _ => 0)) + (match v6 with | .bool true => 1 | _ => 0)
theorem flM_at {T b : Nat} {v : Bool} {W : World} {c : Cn} {n : Nat} (h : ConnAt W b c) (hn : c.next = n) : flM T b (.bool v) W = (T - n) + (if v then 1 else 0) := by
  unfold flM
  rw [h.all.c6, hn]
  cases v <;> rfl
set_option maxRecDepth 20000 in
set_option maxHeartbeats 4000000 in
theorem flush_any (b : Nat) (c : Cn) (w : World) (now : Int) (B U N M W un : Nat) (l : List UInt8) (ua : Option Addr) (uc : Nat) (h : ConnAt w b c) (hc : CnN c B U N M W un l) (hu : c.unread = .slice ua un uc) (hp : c.phase = 2) (hcl : c.closing = false) (htr : c.tries = 0) (ho : ByAt w c.out l) (hN : N ≤ 20000) (hNM : N ≤ M) :
    Calls Try.prog 15 #[.pointer (some ⟨b, 0, none⟩), .int .u64 now] w (FlushPost w b c l B un (B + l.length) (U + max W 1) N M) := by
  have h4 := h.all.c4
  rw [hp] at h4
  have HC := hid h
  have HO := hid ho
  have hlt := h.lt
  have hmf : ∀ (fn : Fn) (first cap : Array Value) (w : World), (Instr.makeFunc fn first cap).run Try.prog w = .ok (.func fn first cap) w := fun _ _ _ _ => rfl
  clear h ho
  go_enter_defers Try.func15, Try.ntmps15
  go_upto_region 1 with fail
  obtain ⟨w1, hw1⟩ : ∃ x, x = (((w.alloc (Obj.cells #[Value.pointer (some { block := b, off := 0 })] 25)).alloc (Obj.cells #[Value.int IntKind.u64 now] 30)).alloc (Obj.cells #[Value.slice none 0 0] 26)) := ⟨_, rfl⟩
  rw [← hw1]
  have g1 : w.grownBy w1 none := by rw [hw1]; exact gr_alloc (gr_alloc (World.grownBy_alloc w _ none) _) _
  have hq2 : w1.heap[w.heap.size]? = some (.cells #[.pointer (some ⟨b, 0, none⟩)] 25 (0, 0)) := by rw [hw1]; exact gr_keep (gr_alloc (World.grownBy_alloc _ _ none) _) (heap_alloc_new w _) (by simp)
  have hq3 : w1.heap[w.heap.size + 1]? = some (.cells #[.int .u64 now] 30 (0, 0)) := by rw [hw1]; exact gr_keep (World.grownBy_alloc _ _ none) (by rw [← World.size_alloc w]; exact heap_alloc_new _ _) (by simp)
  have hpo : w1.heap[w.heap.size + 1 + 1]? = some (.cells #[.slice none 0 0] 26 (0, 0)) := by rw [hw1]; exact (by rw [← World.size_alloc w, ← World.size_alloc (w.alloc _)]; exact heap_alloc_new _ _)
  have hs1 : w1.heap.size = w.heap.size + 3 := by rw [hw1]; simp only [World.size_alloc]
  clear hw1
  have hc1 := HC.out.keep g1 (by simp)
  have hfl : FlI w w1 b (w.heap.size + 1 + 1) w.heap.size (w.heap.size + 1) c { c with next := (N : Nat), most := (max M N : Nat) } now l B un (.slice none 0 0) [] := by
    refine ⟨?_, HO.out.grow g1, World.ownsRow_nil _ _ _ _, fun s hs => (by cases hs), hpo, hq2, hq3, gr_trans (gr_none g1) (gr_refl _ _)⟩
    have e : ({ c with next := (N : Nat), most := (max M N : Nat) } : Cn) = c := by
      have := hc.next
      have := hc.most
      rw [Nat.max_eq_left hNM]
      cases c
      simp_all
    rw [e]; exact hc1
  have k4 := hc1.all.c4
  rw [hp] at k4
  have HF := hid hfl
  have HC1 := hid hc1
  have hl1 := hc1.lt
  have e2 := (cell_of_block hq2 0).trans (show _ = some (Value.pointer (some ⟨b, 0, none⟩)) from rfl)
  clear hfl hc1 hpo hq2 hq3 h4
  go_wp2_with fail
  have hp2 : (c.phase != 0) = true := by rw [hp]; rfl
  refine (piece_any b c w1 B U N M W un l ua uc HC1.out hc hu hp2 hcl (HO.out.grow g1).bytes hNM).mono ?_
  rintro e w2 ⟨a0, a1, a2, a3, a4, a5, a6, a7, a8, a9, ok, Nx, rfl, hpi, hc2, g2, hNx⟩
  have HF2 := hid (HF.out.piece g2 hc2)
  have HPI := hid hpi
  have HC2 := hid hc2
  have hE : U + max W 1 ≤ 90000 := by have := hc.hU; have := hc.hW; omega
  have hT : B + l.length ≤ 29000 := by have := hc.hB; have := hc.hl; omega
  obtain ⟨T, hT2⟩ : ∃ x, x = B + l.length := ⟨_, rfl⟩
  obtain ⟨E, hE2⟩ : ∃ x, x = U + max W 1 := ⟨_, rfl⟩
  rw [← hT2, ← hE2] at HPI ⊢
  have HT := hid hT2
  have HE := hid hE2
  have HB := hid (show ∀ (o : Obj), w.grownBy (w1.alloc o) none from fun o => gr_alloc g1 o)
  clear hpi hc2 g2 HF HC1 k4 e2 hT2 hE2
  go_wp2_with fail
  have hs2 := (HF2.out.g).size
  have hneq : ∀ q, q < w2.heap.size → q ≠ w2.heap.size := fun q h e => by omega
  go_loopw [5, 6] (fun v5 v6 Wl => FlR w b (w.heap.size + 1 + 1) w.heap.size (w.heap.size + 1) c now l B un T E N M v5 v6 Wl) (fun v5 v6 Wl => flM T b v6 Wl)
  case atStart =>
    refine ⟨[], .slice none 0 0, Nx, N, w2.heap.size, a0, a1, a2, a3, a4, a5, a6, a7, a8, a9, ok, rfl, rfl, HF2.out.grow (World.grownBy_alloc _ _ none), hs2, fun g h => (by cases h), rfl, hNx, heap_alloc_new _ _, ?_⟩
    rcases HPI.out with ⟨h1, n, h2, h3, h4, h5, h6, h7, h8⟩ | h1
    · exact .inl ⟨h1, n, h2, h3, h4, h5, h6, h7.grow (World.grownBy_alloc _ _ none), h8⟩
    · exact .inr h1
  case round =>
    clear HF2 HPI HC2 hs2 hneq
    obtain ⟨segs, outv, Nx, Np, s5, a0, a1, a2, a3, a4, a5, a6, a7, a8, a9, ok, rfl, rfl, hF, hs5, hob, hch, hNx, h5, hpi⟩ := hrel
    have hcl9 := hch.le
    have HM := hid (flM_at (T := T) (v := ok) hF.conn rfl)
    rcases hpi with ⟨rfl, n, hn, hn0, hn1, hnT, hnE, hby, hseg⟩ | ⟨rfl, rfl, hdone⟩
    · obtain ⟨oa, oc, hov, hoc⟩ := row_shape hF.row
      subst hov
      have ep := (cell_of_block hF.bo 0).trans (show _ = some (Value.slice oa segs.length oc) from rfl)
      have eq2 := (cell_of_block hF.b2 0).trans (show _ = some (Value.pointer (some ⟨b, 0, none⟩)) from rfl)
      have fp := free_of_block hF.bo 0
      have lpo := lt_of_block hF.bo
      have ls5 := lt_of_block h5
      have n0 := (cell_of_block h5 0).trans (show _ = some (Value.int .u16 a0) from rfl)
      have n1 := (cell_of_block h5 1).trans (show _ = some (Value.int .u16 a1) from rfl)
      have n2 := (cell_of_block h5 2).trans (show _ = some (Value.int .u32 a2) from rfl)
      have n3 := (cell_of_block h5 3).trans (show _ = some (Value.int .u32 a3) from rfl)
      have n4 := (cell_of_block h5 4).trans (show _ = some (Value.int .u8 a4) from rfl)
      have n5 := (cell_of_block h5 5).trans (show _ = some (Value.int .u16 a5) from rfl)
      have n6 := (cell_of_block h5 6).trans (show _ = some (Value.int .u16 a6) from rfl)
      have n7 := (cell_of_block h5 7).trans (show _ = some (Value.slice none 0 0) from rfl)
      have n8 := (cell_of_block h5 8).trans (show _ = some (Value.slice a7 a8 a9) from rfl)
      obtain ⟨i0, hi, hz0, hz1, hz2⟩ := info_parts infoSeg
      have HFH := hid hF
      have H5 := hid h5
      have HBY := hid hby
      have HSEG := hid hseg
      have HCH := hid hch
      have HOB := hid hob
      have hrow := hid ((row_none hF.row (World.grownBy_alloc wr (.cells #[.int .u16 a0, .int .u16 a1, .int .u32 a2, .int .u32 a3, .int .u8 a4, .int .u16 a5, .int .u16 a6, .slice none 0 0, .slice a7 a8 a9] 34) none)))
      clear hF h5 hby hseg hch hob
      go_wp2_with (at_builtin; (refine wpList_append_own_at _ rfl _ _ 26 rfl w.heap.size 34 i0 _ 9 72 Try.underlying26 hi hz0 hz1 hz2 rfl (by decide) _ _ _ rfl hrow.out ⟨wr.heap.size, 0, none⟩ 1 1 [.int .u16 a0, .int .u16 a1, .int .u32 a2, .int .u32 a3, .int .u8 a4, .int .u16 a5, .int .u16 a6, .slice none 0 0, .slice a7 a8 a9] rfl rfl (seg_news _ _ _ _ _ _ _ _ _ _ _ _) (seg_one _ _ _ _ _ _ _ _ _ _) ?c3 ?c4 ?c5 ?_))
      case c3 => unfold maxLen; omega
      case c4 => omega
      case c5 =>
        have h1 := HFH.out.g.size
        first
          | omega
          | (simp only [World.size_alloc]; omega)
      · intro v' w3 hown3 hgrow _ hblk
        obtain ⟨oa', oc', hv', -⟩ := row_shape hown3
        subst hv'
        have H5a := gr_keep (World.grownBy_alloc wr (.cells #[.int .u16 a0, .int .u16 a1, .int .u32 a2, .int .u32 a3, .int .u8 a4, .int .u16 a5, .int .u16 a6, .slice none 0 0, .slice a7 a8 a9] 34) none) H5.out (by simp)
        have HFa := HFH.out.grow (World.grownBy_alloc wr (.cells #[.int .u16 a0, .int .u16 a1, .int .u32 a2, .int .u32 a3, .int .u8 a4, .int .u16 a5, .int .u16 a6, .slice none 0 0, .slice a7 a8 a9] 34) none)
        have hsz3 : w3.heap.size ≥ wr.heap.size + 1 := by have := hgrow.size; rw [World.size_alloc] at this; exact this
        have H5b := gr_keep hgrow H5a (fun e => Nat.lt_irrefl _ (HOB.out _ e.symm))
        have hpo3 := keep_own HFa.row hgrow HFa.bo (by decide)
        have fpo3 := free_of_block hpo3 0
        have lpo3 := lt_of_block hpo3
        have epo3 := (cell_of_block hpo3 0).trans (show _ = some (Value.slice oa segs.length oc) from rfl)
        have hap := HFa.append hgrow (Np, n, .slice a7 a8 a9) hown3 (by unfold segL; rw [← HSEG.out]) (HBY.out.grow (World.grownBy_alloc _ _ none)) (by omega)
        have h54 := gr_keep (w1 := w3.setCell ⟨w.heap.size + 1 + 1, 0, none⟩ (.slice oa' (segs.length + 1) oc')) (gr_set (gr_refl w3 (some (w.heap.size + 1 + 1)))) H5b (blk_ne H5b hpo3 (by decide))
        have hbk : ∀ g, (Value.slice oa' (segs.length + 1) oc').ownBlock = some g → g < w3.heap.size := fun g hg => (hown3.lt g hg).2
        clear HFH H5 HBY hrow HOB n0 n1 n2 n3 n4 n5 n6 n7 n8 ep eq2 fp lpo ls5 H5a HFa H5b hown3 hgrow hblk hsz3 hi hz0 hz1 hz2 hpo3
        go_upto_region 8 with fail
        revert hap h54
        rw [show w3.heap.size = (w3.setCell ⟨w.heap.size + 1 + 1, 0, none⟩ (.slice oa' (segs.length + 1) oc')).heap.size by simp [World.setCell]] at hbk
        revert hbk
        generalize w3.setCell _ _ = w4
        intro hbk hap h54
        have n0 := (cell_of_block h54 0).trans (show _ = some (Value.int .u16 a0) from rfl)
        have n1 := (cell_of_block h54 1).trans (show _ = some (Value.int .u16 a1) from rfl)
        have n2 := (cell_of_block h54 2).trans (show _ = some (Value.int .u32 a2) from rfl)
        have n3 := (cell_of_block h54 3).trans (show _ = some (Value.int .u32 a3) from rfl)
        have n4 := (cell_of_block h54 4).trans (show _ = some (Value.int .u8 a4) from rfl)
        have n5 := (cell_of_block h54 5).trans (show _ = some (Value.int .u16 a5) from rfl)
        have n6 := (cell_of_block h54 6).trans (show _ = some (Value.int .u16 a6) from rfl)
        have n7 := (cell_of_block h54 7).trans (show _ = some (Value.slice none 0 0) from rfl)
        have n8 := (cell_of_block h54 8).trans (show _ = some (Value.slice a7 a8 a9) from rfl)
        have l54 := lt_of_block h54
        have eq4 := (cell_of_block (gr_keep (World.grownBy_alloc w4 (.cells #[.int .u16 a0, .int .u16 a1, .int .u32 a2, .int .u32 a3, .int .u8 a4, .int .u16 a5, .int .u16 a6, .slice none 0 0, .slice a7 a8 a9] 34) none) hap.b2 (by simp)) 0).trans (show _ = some (Value.pointer (some ⟨b, 0, none⟩)) from rfl)
        have HAP := hid (hap.grow (World.grownBy_alloc w4 (.cells #[.int .u16 a0, .int .u16 a1, .int .u32 a2, .int .u32 a3, .int .u8 a4, .int .u16 a5, .int .u16 a6, .slice none 0 0, .slice a7 a8 a9] 34) none))
        have HBK := hid hbk
        have HSZ := hid hap.g.size
        clear hap h54 hbk fpo3 lpo3 epo3
        go_wp2_with fail
        clear n0 n1 n2 n3 n4 n5 n6 n7 n8 l54
        have hcn : CnN { c with next := (Nx : Nat), most := (max M Nx : Nat) } B U Nx (max M Nx) W un l := ⟨hc.una, rfl, rfl, hc.win, hc.tail, hc.b1, by have := hc.bn; omega, hc.hl, hc.hB, hc.hU, hNx, by have := hc.hM; omega, hc.hW, hc.un⟩
        have hb4 := HAP.out.out.bytes
        refine (piece_any b { c with next := (Nx : Nat), most := (max M Nx : Nat) } _ B U Nx (max M Nx) W un l ua uc HAP.out.conn hcn hu hp2 hcl hb4 (by omega)).mono ?_
        rintro e w5 ⟨d0, d1, d2, d3, d4, d5, d6, d7, d8, d9, ok2, Nx2, rfl, hpi, hc5, g5, hNx2⟩
        rw [← HT.out, ← HE.out] at hpi
        have hle2 : Nx ≤ Nx2 := by rcases hpi with ⟨_, m, hm, _⟩ | ⟨_, hm, _⟩ <;> omega
        rw [show max (max M Nx) Nx2 = max M Nx2 by omega] at hc5
        have hc5' : ConnAt w5 b { c with next := (Nx2 : Nat), most := (max M Nx2 : Nat) } := hc5
        have hf5 := HAP.out.piece g5 hc5'
        have h56 := gr_keep g5 (heap_alloc_new w4 _) (blk_ne HAP.out.conn (heap_alloc_new w4 _) (by decide)).symm
        have HF5 := hid hf5
        have HPI5 := hid hpi
        have H56 := hid h56
        have l56 := lt_of_block h56
        have n0 := (cell_of_block h56 0).trans (show _ = some (Value.int .u16 a0) from rfl)
        have y0 := free_of_block h56 0
        have n1 := (cell_of_block h56 1).trans (show _ = some (Value.int .u16 a1) from rfl)
        have y1 := free_of_block h56 1
        have n2 := (cell_of_block h56 2).trans (show _ = some (Value.int .u32 a2) from rfl)
        have y2 := free_of_block h56 2
        have n3 := (cell_of_block h56 3).trans (show _ = some (Value.int .u32 a3) from rfl)
        have y3 := free_of_block h56 3
        have n4 := (cell_of_block h56 4).trans (show _ = some (Value.int .u8 a4) from rfl)
        have y4 := free_of_block h56 4
        have n5 := (cell_of_block h56 5).trans (show _ = some (Value.int .u16 a5) from rfl)
        have y5 := free_of_block h56 5
        have n6 := (cell_of_block h56 6).trans (show _ = some (Value.int .u16 a6) from rfl)
        have y6 := free_of_block h56 6
        have n7 := (cell_of_block h56 7).trans (show _ = some (Value.slice none 0 0) from rfl)
        have y7 := free_of_block h56 7
        have n8 := (cell_of_block h56 8).trans (show _ = some (Value.slice a7 a8 a9) from rfl)
        have y8 := free_of_block h56 8
        clear hcn hb4 hpi hc5 hc5' g5 hf5 h56 eq4
        go_wp2_with fail
        have H9 := seg_set9 (.int .u16 d0) (.int .u16 d1) (.int .u32 d2) (.int .u32 d3) (.int .u8 d4) (.int .u16 d5) (.int .u16 d6) (.slice none 0 0) (.slice d7 d8 d9) H56.out
        clear n0 y0 n1 y1 n2 y2 n3 y3 n4 y4 n5 y5 n6 y6 n7 y7 n8 y8
        revert H9
        generalize (((((((((w5.setCell _ _).setCell _ _).setCell _ _).setCell _ _).setCell _ _).setCell _ _).setCell _ _).setCell _ _).setCell _ _) = w6
        rintro ⟨hn6, gn⟩
        have hf6 := HF5.out.seg gn H56.out (fun e => Nat.lt_irrefl _ (HBK.out _ e)) HSZ.out
        have hm6 := flM_at (T := T) (v := ok2) hf6.conn rfl
        have hpi6 : PieceIs w6 c l B un T E Nx Nx2 d0 d1 d2 d3 d4 d5 d6 d7 d8 d9 ok2 := by
          rcases HPI5.out with ⟨x1, m, x2, x3, x4, x5, x6, x7, x8⟩ | x1
          · exact .inl ⟨x1, m, x2, x3, x4, x5, x6, x7.kept gn H56.out (by decide), x8⟩
          · exact .inr x1
        refine ⟨⟨segs ++ [(Np, n, .slice a7 a8 a9)], _, Nx2, Nx, w4.heap.size, d0, d1, d2, d3, d4, d5, d6, d7, d8, d9, ok2, rfl, rfl, hf6, ?_, HBK.out, ?_, hNx2, hn6, hpi6⟩, ?_⟩
        · exact HSZ.out
        · rw [hn]; exact HCH.out.snoc rfl hn0 hn1 hnT hnE
        · rw [hm6, HM.out]
          rcases HPI5.out with ⟨rfl, m, x2, x3, x4, x5, x6, x7, x8⟩ | ⟨rfl, x2, x3⟩
          · simp; omega
          · subst x2; simp
    · obtain ⟨oa, oc, hov, hoc⟩ := row_shape hF.row
      subst hov
      have ep := (cell_of_block hF.bo 0).trans (show _ = some (Value.slice oa segs.length oc) from rfl)
      have fp := free_of_block hF.bo 0
      have lpo := lt_of_block hF.bo
      have HFH := hid hF
      have HCH := hid hch
      clear hF hch h5
      go_wp2_with fail
      have hR := HFH.out.reset (by omega)
      revert hR
      generalize wr.setCell _ _ = w5
      intro hR
      have p1 := (cell_of_block hR.bo 0).trans (show _ = some (Value.slice oa segs.length oc) from rfl)
      have p2 := (cell_of_block hR.b2 0).trans (show _ = some (Value.pointer (some ⟨b, 0, none⟩)) from rfl)
      have p3 := (cell_of_block hR.b3 0).trans (show _ = some (Value.int .u64 now) from rfl)
      refine leaves_cons (f := 31) (args := #[.pointer (some ⟨w.heap.size + 1 + 1, 0, none⟩), .pointer (some ⟨w.heap.size, 0, none⟩), .pointer (some ⟨w.heap.size + 1, 0, none⟩)]) (by simp) (by simp [go_sem]) ?_
      refine (flush_closure b _ _ _ _ now oa segs.length oc w5 hR.conn p1 p2 p3 htr).mono ?_
      rintro e u' w6 ⟨rfl, rfl, hct, g6⟩
      have hbo := gr_keep g6 hR.bo (blk_ne hR.bo hR.conn (by decide))
      have p6 := (cell_of_block hbo 0).trans (show _ = some (Value.slice oa segs.length oc) from rfl)
      have hrow6 := row_ty hR.row g6 hR.conn (by decide)
      have hout6 := hR.out.kept g6 hR.conn (by decide)
      have hdat6 := fun s hs => (hR.dat s hs).kept g6 hR.conn (by decide)
      rw [← HT.out, ← HE.out]
      refine ⟨.slice oa segs.length oc, by simp [results, Try.results15, go_sem, p6], .slice oa segs.length oc, segs, Nx, rfl, hrow6, hdat6, HCH.out, hdone, hct, gr_trans hR.g g6, hout6⟩
end Go.Proofs.Ytcgmbeibhingcaa
