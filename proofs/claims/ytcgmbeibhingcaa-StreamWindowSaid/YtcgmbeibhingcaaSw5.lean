/- (*stream.Conn).Flush: its closure, and what its loop keeps. -/
import Derived.Test.YtcgmbeibhingcaaSw4
import Derived.Defers
import Derived.Maps.AppendAt
namespace Go.Proofs.Ytcgmbeibhingcaa
open Go.RowKit

/-- A slice of bytes whose block is a row of bytes. -/
def ByAt (W : World) (v : Value) (l : List UInt8) : Prop :=
  (v = .slice none 0 0 ∧ l = []) ∨ ∃ g off cap cs, v = .slice (some ⟨g, off, none⟩) l.length cap ∧ W.heap[g]? = some (.cells cs 5 (0, 0)) ∧ l.length ≤ cap ∧ cap ≤ maxLen ∧ (cs.toList.drop off).take l.length = l.map bv
theorem ByAt.bytes {W : World} {v : Value} {l : List UInt8} (h : ByAt W v l) : Bytes W v l := by
  rcases h with ⟨rfl, rfl⟩ | ⟨g, off, cap, cs, rfl, hh, h1, h2, h3⟩
  · exact Bytes.nil W
  · refine ⟨_, cap, rfl, h1, h2, fun _ => ⟨g, off, rfl, fun i hi => ?_⟩⟩
    have hx : cs.toList[off + i]? = some (.int .u8 ((l.getD i 0).toNat : Int)) := by
      have e : ((cs.toList.drop off).take l.length)[i]? = (l.map bv)[i]? := by rw [h3]
      rw [List.getElem?_take, if_pos hi, List.getElem?_drop] at e
      rw [e, List.getElem?_map, List.getElem?_eq_getElem hi, List.getD_eq_getElem?_getD, List.getElem?_eq_getElem hi]
      rfl
    simp only [World.cell?, hh]
    simpa using hx
theorem blk_ne {w : World} {g k : Nat} {cs cs' : Array Value} {T T' : TypeId} {r r' : Nat × Nat} (h : w.heap[g]? = some (.cells cs T r)) (h' : w.heap[k]? = some (.cells cs' T' r')) (hT : T ≠ T') : some g ≠ some k := by
  intro e
  obtain rfl := Option.some.inj e
  rw [h] at h'
  simp only [Option.some.injEq, Obj.cells.injEq] at h'
  exact hT h'.2.1
theorem ByAt.kept {W W' : World} {v : Value} {l : List UInt8} {k : Nat} {cs : Array Value} {T : TypeId} (h : ByAt W v l) (g : W.grownBy W' (some k)) (hk : W.heap[k]? = some (.cells cs T (0, 0))) (hT : 5 ≠ T) : ByAt W' v l := by
  rcases h with h0 | ⟨g0, off, cap, cs, rfl, hh, r⟩
  · exact .inl h0
  · exact .inr ⟨g0, off, cap, cs, rfl, gr_keep g hh (blk_ne hh hk hT), r⟩
theorem ByAt.grow {W W' : World} {v : Value} {l : List UInt8} (h : ByAt W v l) (g : W.grownBy W' none) : ByAt W' v l := by
  rcases h with h0 | ⟨g0, off, cap, cs, rfl, hh, r⟩
  · exact .inl h0
  · exact .inr ⟨g0, off, cap, cs, rfl, gr_keep g hh (by simp), r⟩
theorem Own8.byAt {w : World} {base : Nat} {v : Value} {l : List UInt8} (h : Own8 w base v l) : ByAt w v l := by
  have hl := h.1
  rcases h.2 with ⟨rfl, h0⟩ | ⟨g, cap, cur, rfl, hg, hh, hc, hm, hs, ht⟩
  · exact .inl ⟨rfl, List.eq_nil_of_length_eq_zero h0⟩
  · refine .inr ⟨g, 0, cap, cur, rfl, hh, hc, hm, ?_⟩
    rw [List.drop_zero, ← ht, Nat.mul_one]
theorem ByAt.drop {W : World} {g off n cap : Nat} {l : List UInt8} (h : ByAt W (.slice (some ⟨g, off, none⟩) n cap) l) (k : Nat) (hk : k ≤ n) : ByAt W (.slice (some ⟨g, off + k, none⟩) (n - k) (cap - k)) (l.drop k) := by
  rcases h with ⟨h0, _⟩ | ⟨g', off', cap', cs, e, hh, h1, h2, h3⟩
  · cases h0
  · simp only [Value.slice.injEq, Option.some.injEq, Addr.mk.injEq] at e
    obtain ⟨⟨rfl, rfl, -⟩, rfl, rfl⟩ := e
    refine .inr ⟨g, off + k, cap - k, cs, by rw [List.length_drop], hh, by rw [List.length_drop]; omega, by omega, ?_⟩
    rw [List.length_drop, List.map_drop, ← h3, List.drop_take, List.drop_drop, Nat.add_comm]

/-- The places and lengths of the pieces, one behind the other. -/
def Chain (T E : Nat) : Nat → List (Nat × Nat × Value) → Nat → Prop
  | N, [], M => M = N
  | N, s :: r, M => s.1 = N ∧ 0 < s.2.1 ∧ s.2.1 ≤ 1000 ∧ N + s.2.1 ≤ T ∧ N + s.2.1 ≤ E ∧ Chain T E (N + s.2.1) r M
theorem Chain.snoc {T E : Nat} {x : Nat × Nat × Value} : ∀ {l : List (Nat × Nat × Value)} {N M : Nat}, Chain T E N l M → x.1 = M → 0 < x.2.1 → x.2.1 ≤ 1000 → M + x.2.1 ≤ T → M + x.2.1 ≤ E → Chain T E N (l ++ [x]) (M + x.2.1)
  | [], N, M, h, h1, h2, h3, h4, h5 => by
    obtain rfl : M = N := h
    exact ⟨h1, h2, h3, h4, h5, rfl⟩
  | s :: r, N, M, h, h1, h2, h3, h4, h5 => ⟨h.1, h.2.1, h.2.2.1, h.2.2.2.1, h.2.2.2.2.1, Chain.snoc h.2.2.2.2.2 h1 h2 h3 h4 h5⟩
theorem Chain.le {T E : Nat} : ∀ {l : List (Nat × Nat × Value)} {N M : Nat}, Chain T E N l M → N + l.length ≤ M ∧ (l ≠ [] → M ≤ T ∧ M ≤ E)
  | [], N, M, h => by
    obtain rfl : M = N := h
    exact ⟨Nat.le_refl _, fun h => absurd rfl h⟩
  | s :: r, N, M, h => by
    obtain ⟨h1, h2, h3, h4, h5, h6⟩ := h
    have ih := Chain.le h6
    refine ⟨by simp; omega, fun _ => ?_⟩
    cases r with
    | nil => obtain rfl : M = N + s.2.1 := h6; exact ⟨h4, h5⟩
    | cons a r => exact ih.2 (by simp)

def segL (c : Cn) (un : Nat) (s : Nat × Nat × Value) : List Value := (c.seg s.1 24 un s.2.2).toList
def segsL (c : Cn) (un : Nat) (l : List (Nat × Nat × Value)) : List Value := l.flatMap (segL c un)
theorem segsL_snoc (c : Cn) (un : Nat) (l : List (Nat × Nat × Value)) (x : Nat × Nat × Value) : segsL c un (l ++ [x]) = segsL c un l ++ segL c un x := by simp [segsL]

theorem row_none {w w' : World} {base size n : Nat} {e : TypeId} {v : Value} {xs : List Value} (h : w.ownsRow base e size v n xs) (g : w.grownBy w' none) : w'.ownsRow base e size v n xs := h.kept g (by cases hv : v.ownBlock <;> simp)
theorem row_ty {w w' : World} {base size n k : Nat} {e T : TypeId} {v : Value} {xs : List Value} {cs : Array Value} (h : w.ownsRow base e size v n xs) (g : w.grownBy w' (some k)) (hk : w.heap[k]? = some (.cells cs T (0, 0))) (hT : e ≠ T) : w'.ownsRow base e size v n xs := by
  refine h.kept g ?_
  rcases h.2 with ⟨rfl, _⟩ | ⟨g', cap, cur, rfl, hb, hh, _⟩
  · exact .inl rfl
  · exact .inr (blk_ne hh hk hT)
/-- What the loop of Flush keeps. -/
structure FlI (w W : World) (b po q2 q3 : Nat) (c c' : Cn) (now : Int) (l : List UInt8) (B un : Nat) (outv : Value) (segs : List (Nat × Nat × Value)) : Prop where
  conn : ConnAt W b c'
  out : ByAt W c.out l
  row : W.ownsRow w.heap.size 34 9 outv segs.length (segsL c un segs)
  dat : ∀ s ∈ segs, ByAt W s.2.2 ((l.drop (s.1 - B)).take s.2.1)
  bo : W.heap[po]? = some (.cells #[outv] 26 (0, 0))
  b2 : W.heap[q2]? = some (.cells #[.pointer (some ⟨b, 0, none⟩)] 25 (0, 0))
  b3 : W.heap[q3]? = some (.cells #[.int .u64 now] 30 (0, 0))
  g : w.grownBy W (some b)
section
variable {w W W' : World} {b po q2 q3 : Nat} {c c' c2 : Cn} {now : Int} {l : List UInt8} {B un : Nat} {outv : Value} {segs : List (Nat × Nat × Value)}
theorem FlI.grow (h : FlI w W b po q2 q3 c c' now l B un outv segs) (g : W.grownBy W' none) : FlI w W' b po q2 q3 c c' now l B un outv segs :=
  ⟨h.conn.keep g (by simp), h.out.grow g, row_none h.row g, fun s hs => (h.dat s hs).grow g, gr_keep g h.bo (by simp), gr_keep g h.b2 (by simp), gr_keep g h.b3 (by simp), gr_trans h.g (gr_none g)⟩
theorem FlI.piece (h : FlI w W b po q2 q3 c c' now l B un outv segs) (g : W.grownBy W' (some b)) (hc : ConnAt W' b c2) : FlI w W' b po q2 q3 c c2 now l B un outv segs :=
  ⟨hc, h.out.kept g h.conn (by decide), row_ty h.row g h.conn (by decide), fun s hs => (h.dat s hs).kept g h.conn (by decide), gr_keep g h.bo (blk_ne h.bo h.conn (by decide)), gr_keep g h.b2 (blk_ne h.b2 h.conn (by decide)), gr_keep g h.b3 (blk_ne h.b3 h.conn (by decide)), gr_trans h.g g⟩
theorem FlI.seg {k : Nat} {cs : Array Value} (h : FlI w W b po q2 q3 c c' now l B un outv segs) (g : W.grownBy W' (some k)) (hk : W.heap[k]? = some (.cells cs 34 (0, 0))) (hn : outv.ownBlock ≠ some k) (hk2 : w.heap.size ≤ k) : FlI w W' b po q2 q3 c c' now l B un outv segs :=
  ⟨h.conn.keep g (blk_ne h.conn hk (by decide)), h.out.kept g hk (by decide), h.row.kept g (.inr hn), fun s hs => (h.dat s hs).kept g hk (by decide), gr_keep g h.bo (blk_ne h.bo hk (by decide)), gr_keep g h.b2 (blk_ne h.b2 hk (by decide)), gr_keep g h.b3 (blk_ne h.b3 hk (by decide)), gr_new h.g g hk2⟩
end

/-- A connection, but for its timer. -/
def ConnT (w : World) (b : Nat) (c : Cn) : Prop := ∃ t d, ConnAt w b { c with timed := t, due := d }
set_option maxHeartbeats 1000000 in
/-- The deferred closure of Flush. -/
theorem flush_closure (b po q2 q3 : Nat) (c : Cn) (now : Int) (a : Option Addr) (n cap : Nat) (w : World) (h : ConnAt w b c) (ho : w.cell? ⟨po, 0, none⟩ = some (.slice a n cap)) (h2 : w.cell? ⟨q2, 0, none⟩ = some (.pointer (some ⟨b, 0, none⟩))) (h3 : w.cell? ⟨q3, 0, none⟩ = some (.int .u64 now)) (ht : c.tries = 0) :
    CallsD Try.prog 31 #[.pointer (some ⟨po, 0, none⟩), .pointer (some ⟨q2, 0, none⟩), .pointer (some ⟨q3, 0, none⟩)] .returning w fun e u' w' =>
      u' = .returning ∧ (e = .returned (.tuple #[]) ∧ ConnT w' b c ∧ w.grownBy w' (some b)) := by
  have h15 := h.all.c15
  have HC := hid h
  have hlt := h.lt
  clear h
  go_enter_d Try.func31, Try.ntmps31
  have hnot : ∀ (x : Bool) (w : World), (Op.unary .not (.bool x)).run Try.prog w = .ok (.bool (!x)) w := fun _ _ => rfl
  have hd : (0 : Int) < (n : Int) ∨ ¬ (0 : Int) < (n : Int) := Classical.em _
  rcases hd with hd | hd
  · cases hti : c.timed
    · rw [hti] at h15
      go_wp2_with fail
      refine (set_any b c w now HC.out (by omega) (by omega)).mono ?_
      rintro e w1 ⟨rfl, hc1, g1⟩
      go_wp2_with fail
      go_end0
      exact ⟨rfl, ⟨_, _, hc1⟩, g1⟩
    · rw [hti] at h15
      go_wp2_with fail
      go_end0
      exact ⟨rfl, ⟨c.timed, c.due, HC.out⟩, gr_refl _ _⟩
  · go_wp2_with fail
    go_end0
    exact ⟨rfl, ⟨c.timed, c.due, HC.out⟩, gr_refl _ _⟩
end Go.Proofs.Ytcgmbeibhingcaa
