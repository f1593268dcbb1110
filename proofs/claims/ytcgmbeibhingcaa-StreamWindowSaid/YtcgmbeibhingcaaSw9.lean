/- What the law of StreamWindow keeps; plain lemmas on the pieces. -/
import Derived.Test.YtcgmbeibhingcaaSw8
import Derived.Test.YtcgmbeibhingcaaGu1
import Derived.Test.YtcgmbeibhingcaaReg
namespace Go.Proofs.Ytcgmbeibhingcaa
open Go.RowKit

/-- 'string(b)', its run. -/
theorem run_b2s {P : Program} {w : World} {src dst e : TypeId} (hs : P.underlying src = some (.slice e)) (he : P.underlying e = some (.int .u8)) (hd : P.underlying dst = some .string)
    {v : Value} {l : List UInt8} (hb : Bytes w v l) : (convert src dst v).run P w = .ok (str l) w := by
  obtain ⟨ad, c, rfl, h1, h2, h3⟩ := hb
  rw [run_convert_bytes_string w src dst e _ _ _ hs he hd]
  rcases l with _ | ⟨x, l⟩
  · cases ad with
    | none => simp [Conv.bytesToString, str]; rfl
    | some ad =>
      have := run_bytesToString (P := P) w ad 0 c [] (by have := run_loadCells_list (P := P) w ad [] (by intro j v h; simp at h); simpa using this)
      exact this.trans rfl
  · obtain ⟨b, of, rfl, hc⟩ := h3 (by simp)
    have := run_bytesToString (P := P) w ⟨b, of, none⟩ (x :: l).length c ((x :: l).map (fun b => (b.toNat : Int))) (by
      have := run_loadCells_list (P := P) w ⟨b, of, none⟩ (((x :: l).map (fun b => (b.toNat : Int))).map (Value.int .u8)) (by
        intro j v hj
        simp only [List.getElem?_map, Option.map_eq_some_iff] at hj
        obtain ⟨n, ⟨y, hy, rfl⟩, rfl⟩ := hj
        have hjl : j < (x :: l).length := (List.getElem?_eq_some_iff.1 hy).1
        rw [Go.WideShapes.add_plain, hc j hjl, List.getD_eq_getElem?_getD, hy]
        rfl)
      simpa using this)
    rw [this, foldl_push_byteCells]
    simp [str]
/-- Where the j-th piece begins. -/
def chP (N : Nat) : List (Nat × Nat × Value) → Nat → Nat
  | [], _ => N
  | _ :: _, 0 => N
  | s :: r, j + 1 => chP (N + s.2.1) r j
theorem chP_zero (N : Nat) (l : List (Nat × Nat × Value)) : chP N l 0 = N := by cases l <;> rfl
theorem chP_end {T E : Nat} : ∀ {l : List (Nat × Nat × Value)} {N M : Nat}, Chain T E N l M → chP N l l.length = M
  | [], N, M, h => by obtain rfl : M = N := h; rfl
  | s :: r, N, M, h => by
    obtain ⟨h1, h2, h3, h4, h5, h6⟩ := h
    have ih := chP_end (T := T) (E := E) h6
    exact ih
theorem chain_get {T E : Nat} : ∀ {l : List (Nat × Nat × Value)} {N M : Nat}, Chain T E N l M → ∀ j, j < l.length → ∃ s, l[j]? = some s ∧ s.1 = chP N l j ∧ 0 < s.2.1 ∧ s.2.1 ≤ 1000 ∧ s.1 + s.2.1 ≤ T ∧ s.1 + s.2.1 ≤ E ∧ chP N l (j + 1) = s.1 + s.2.1 ∧ N ≤ s.1
  | [], N, M, h, j, hj => by simp at hj
  | s :: r, N, M, h, 0, hj => by
    obtain ⟨h1, h2, h3, h4, h5, h6⟩ := h
    refine ⟨s, rfl, h1, h2, h3, by omega, by omega, ?_, by omega⟩
    show chP (N + s.2.1) r 0 = _
    rw [chP_zero]; omega
  | s :: r, N, M, h, j + 1, hj => by
    obtain ⟨h1, h2, h3, h4, h5, h6⟩ := h
    obtain ⟨x, y1, y2, y3, y4, y5, y6, y7, y8⟩ := chain_get h6 j (by simpa using hj)
    exact ⟨x, by simpa using y1, y2, y3, y4, y5, y6, y7, by omega⟩
theorem chP_ge {T E : Nat} {l : List (Nat × Nat × Value)} {N M : Nat} (h : Chain T E N l M) (j : Nat) (hj : j ≤ l.length) : N ≤ chP N l j := by
  rcases Nat.lt_or_ge j l.length with h1 | h1
  · obtain ⟨s, _, e, _, _, _, _, _, hs⟩ := chain_get h j h1
    omega
  · obtain rfl : j = l.length := by omega
    rw [chP_end h]
    exact Nat.le_trans (Nat.le_add_right _ _) h.le.1
theorem segL_len (c : Cn) (un : Nat) (s : Nat × Nat × Value) : (segL c un s).length = 9 := rfl
theorem segsL_get (c : Cn) (un : Nat) : ∀ (l : List (Nat × Nat × Value)) (j : Nat) (s : Nat × Nat × Value), l[j]? = some s → ∀ q, q < 9 → (segsL c un l)[j * 9 + q]? = (segL c un s)[q]?
  | [], j, s, h, q, hq => by simp at h
  | x :: r, 0, s, h, q, hq => by
    obtain rfl : x = s := by simpa using h
    show (segL c un x ++ segsL c un r)[0 * 9 + q]? = _
    rw [Nat.zero_mul, Nat.zero_add, List.getElem?_append_left (by rw [segL_len]; exact hq)]
  | x :: r, j + 1, s, h, q, hq => by
    show (segL c un x ++ segsL c un r)[(j + 1) * 9 + q]? = _
    rw [List.getElem?_append_right (by rw [segL_len]; omega), segL_len, show (j + 1) * 9 + q - 9 = j * 9 + q by omega]
    exact segsL_get c un r j s (by simpa using h) q hq
theorem own_cell {w : World} {base size n : Nat} {e : TypeId} {v : Value} {xs : List Value} (h : w.ownsRow base e size v n xs) (hp : 0 < n) :
    ∃ g cap, v = .slice (some ⟨g, 0, none⟩) n cap ∧ n ≤ cap ∧ cap ≤ maxLen ∧ ∀ i u, xs[i]? = some u → w.cell? ⟨g, i, none⟩ = some u := by
  rcases h.2 with ⟨rfl, h0⟩ | ⟨g, cap, cur, rfl, hg, hh, hc, hm, hs, ht⟩
  · omega
  · refine ⟨g, cap, rfl, hc, hm, fun i u hu => ?_⟩
    have hl := h.1
    have hi : i < xs.length := (List.getElem?_eq_some_iff.1 hu).1
    rw [← ht, List.getElem?_take, if_pos (by omega)] at hu
    simpa [World.cell?, hh] using hu
/-- A part of bytes, as 'b[k:k+m]' has it. -/
theorem Bytes.sub2 {w : World} {b o n c : Nat} {l : List UInt8} (h : Bytes w (.slice (some ⟨b, o, none⟩) n c) l) (k m : Nat) (hk : k + m ≤ n) : Bytes w (.slice (some ⟨b, o + k, none⟩) m (c - k)) ((l.drop k).take m) := by
  obtain ⟨h0, h1, h2, h3⟩ := h.at
  have hlen : ((l.drop k).take m).length = m := by simp; omega
  have h4 := (h.sub k m hk).at
  refine ⟨_, c - k, by rw [hlen], by omega, by omega, fun hne => ?_⟩
  rw [hlen]
  exact h4.2.2.2 (by rw [← hlen]; exact List.length_pos_iff.2 hne)
theorem take_part (D : List UInt8) (n k m : Nat) (h : k + m ≤ n) : ((D.take n).drop k).take m = (D.drop k).take m := by
  rw [List.drop_take, List.take_take, Nat.min_eq_left (by omega)]

/-- What the law's loop keeps. -/
structure SwInv (w wr : World) (b : Nat) (own : Int) (D : List UInt8) (n M : Nat) : Prop where
  ex : ∃ (c : Cn) (B U Wn : Nat) (l : List UInt8), ConnAt wr b c ∧ CnN c B U M M Wn 0 l ∧ U ≤ M ∧ B = max U 1 ∧ M ≤ B + l.length ∧ c.tries = 0 ∧ (U = M → c.phase = 2) ∧ (c.phase = 1 ∨ c.phase = 2) ∧ c.unread = .slice none 0 0 ∧ c.ended = false ∧ c.closing = false ∧ c.other = 9 ∧ c.seen = 1 ∧ ByAt wr c.out l ∧ c.own = own ∧ l = (D.take n).drop (B - 1) ∧ B + l.length = 1 + n
  m1 : 1 ≤ M
  mn : M ≤ 1 + n
  gr : w.grownBy wr none
  hb : w.heap.size ≤ b
theorem SwInv.grow {w wr w' : World} {b : Nat} {own : Int} {D : List UInt8} {n M : Nat} (h : SwInv w wr b own D n M) (g : wr.grownBy w' none) : SwInv w w' b own D n M := by
  obtain ⟨c, B, U, Wn, l, h1, h2, h3, h4, h5, h6, h7, h8, h9, h10, h11, h12, h13, h14, h15⟩ := h.ex
  exact ⟨⟨c, B, U, Wn, l, h1.keep g (by simp), h2, h3, h4, h5, h6, h7, h8, h9, h10, h11, h12, h13, h14.grow g, h15⟩, h.m1, h.mn, gr_trans h.gr g, h.hb⟩
end Go.Proofs.Ytcgmbeibhingcaa
