/- Texts of one proof, put together: Arg, Bytes, Pairs. -/
import Derived.Test.YtmofnoconhgjmaaGreatDoorLib
import Derived.ProofKit
import Derived.OpenShut
import Derived.Deep.Slices
import Derived.Deep.Fields
import Derived.Laws.IdiomStrings
import Derived.Laws.BytesString
import Derived.Lib.Strings
import Derived.Lib.IndexMore
import Derived.Handy
/- Arguments that are slices of structs: what is known of their cells. -/
namespace Go.Proofs.YtmofnoconhgjmaaGreatDoor
open Go.RowKit Go.Deep Go.ChangeShapes Go.WideShapes

section
variable {H : Type} {enc : TypeId × Value → H} {P : Program} {W : World} {base : Nat} {spare : Nat → Bool} {held : Bool}
/-- Of each element below the length, each field of one cell: its cell, and its own reading. -/
theorem struct_slice {t e : TypeId} {fs : Array Field} {a : Option Addr} {len cap : Nat} {d : DataW H} {p : List MemPlace} (ht : P.underlying t = some (.slice e)) (he : P.underlying e = some (.struct fs))
    (hone : oneCellFields P fs = true) (hC : P.cellsOf e = fs.size) (h : DataW.Trod enc P W base spare held t (.slice a len cap) d p) :
    (a = none ∧ len = 0 ∧ cap = 0) ∨
    ∃ x, a = some x ∧ len ≤ cap ∧ cap ≤ maxLen ∧ ∀ i, i < len → ∀ j f, fs[j]? = some f → ∃ v d' p' n, W.cell? (x.add (i * fs.size + j)) = some v ∧ DataW.trod enc P W base spare held n f.type [v] = some (d', p') := by
  obtain ⟨fuel, hf⟩ := h
  rcases open_slice ht hf with ⟨h0, _⟩ | ⟨x, l, c, m, n, D, Pl, hcs, hb, hl, hm, hmm, _, hi⟩
  · simp [Value.cells] at h0
    exact .inl h0
  · simp [Value.cells] at hcs
    obtain ⟨rfl, rfl, rfl⟩ := hcs
    refine .inr ⟨x, rfl, hl, hm, fun i hil j f hj => ?_⟩
    have him : i < m := by rw [hmm]; split <;> omega
    obtain ⟨cs', hc, ht'⟩ := hi i him
    obtain ⟨_, hlen, hcell⟩ := World.cells?_some hc
    obtain ⟨ys, n', _, _, _, hyl, hfld⟩ := DataW.trod_struct he ht'
    have hjs : j < fs.size := (Array.getElem?_eq_some_iff.1 hj).1
    obtain ⟨ho, h1⟩ := hone_of hone j f hj
    have hjl : j < cs'.length := by omega
    have hr := hfld j f hj
    rw [ho, h1, List.drop_eq_getElem_cons hjl, List.take_succ_cons, List.take_zero, List.getElem?_eq_getElem (by omega)] at hr
    refine ⟨cs'[j], _, _, n', ?_, hr⟩
    have := hcell j (by omega)
    rw [add_add, hC] at this
    rw [this, List.getElem?_eq_getElem hjl]
/-- Fields by their kinds. -/
theorem fld_int {t : TypeId} {k : IntKind} {n : Nat} {v : Value} {y : DataW H × List MemPlace} (ht : P.underlying t = some (.int k)) (h : DataW.trod enc P W base spare held n t [v] = some y) :
    ∃ x, v = .int k x ∧ (Lit.int k x).wf = true := by
  obtain ⟨x, hv, _, hw⟩ := DataW.trod_int ht h
  exact ⟨x, by simpa using hv, hw⟩
theorem fld_bool {t : TypeId} {n : Nat} {v : Value} {y : DataW H × List MemPlace} (ht : P.underlying t = some .bool) (h : DataW.trod enc P W base spare held n t [v] = some y) :
    ∃ x, v = .bool x := by
  obtain ⟨x, hv, _⟩ := DataW.trod_bool ht h
  exact ⟨x, by simpa using hv⟩
theorem fld_string {t : TypeId} {n : Nat} {v : Value} {y : DataW H × List MemPlace} (ht : P.underlying t = some .string) (h : DataW.trod enc P W base spare held n t [v] = some y) :
    ∃ x : ByteArray, v = .string x ∧ x.size ≤ maxLen := by
  obtain ⟨x, hv, _, hw⟩ := DataW.trod_string ht h
  exact ⟨x, by simpa using hv, hw⟩
theorem fld_slice {t e : TypeId} {n : Nat} {v : Value} {y : DataW H × List MemPlace} (ht : P.underlying t = some (.slice e)) (h : DataW.trod enc P W base spare held n t [v] = some y) :
    ∃ a len cap, v = .slice a len cap ∧ DataW.Trod enc P W base spare held t (.slice a len cap) y.1 y.2 := by
  rcases open_slice ht h with ⟨h0, _⟩ | ⟨x, l, c, _, _, _, _, hcs, _⟩
  · obtain rfl : v = .slice none 0 0 := by simpa using h0
    exact ⟨_, _, _, rfl, n, h⟩
  · obtain rfl : v = .slice (some x) l c := by simpa using hcs
    exact ⟨_, _, _, rfl, n, h⟩
end

/-- A slice of numbers that came in: nil, or a row of 'cap' cells, the numbers 'zs'. -/
def IsRow (k : IntKind) (w : World) (a : Option Addr) (len cap : Nat) (zs : List Int) : Prop :=
  (a = none ∧ len = 0 ∧ cap = 0 ∧ zs = []) ∨
  ∃ x, a = some x ∧ len ≤ cap ∧ cap ≤ maxLen ∧ zs.length = cap ∧ (∀ i, i < zs.length → w.cell? (x.add i) = some (.int k (zs.getD i 0))) ∧ ∀ n ∈ zs, (Lit.int k n).wf = true
theorem IsRow.grown {k : IntKind} {w w' : World} {a : Option Addr} {len cap : Nat} {zs : List Int} (h : IsRow k w a len cap zs) (g : w.grownBy w' none) : IsRow k w' a len cap zs := by
  rcases h with h | ⟨x, rfl, h1, h2, h3, h4, h5⟩
  · exact .inl h
  · exact .inr ⟨x, rfl, h1, h2, h3, fun i hi => g.cell (h4 i hi) (by simp), h5⟩
theorem IsRow.bounds {k : IntKind} {w : World} {a : Option Addr} {len cap : Nat} {zs : List Int} (h : IsRow k w a len cap zs) : len ≤ cap ∧ cap ≤ maxLen ∧ zs.length = cap := by
  rcases h with ⟨_, rfl, rfl, rfl⟩ | ⟨x, rfl, h1, h2, h3, _⟩
  · exact ⟨Nat.le_refl _, Nat.zero_le _, rfl⟩
  · exact ⟨h1, h2, h3⟩
theorem isRow_of_trod {H : Type} {enc : TypeId × Value → H} {P : Program} {W : World} {t e : TypeId} {k : IntKind} {a : Option Addr} {len cap : Nat} {d : DataW H} {p : List MemPlace}
    (ht : P.underlying t = some (.slice e)) (he : P.underlying e = some (.int k)) (hC : P.cellsOf e = 1) (h : DataW.Trod enc P W 0 (fun _ => true) true t (.slice a len cap) d p) :
    ∃ zs, IsRow k W a len cap zs := by
  obtain ⟨fuel, hf⟩ := h
  rcases open_ints ht he hC hf with ⟨hcs, _⟩ | ⟨x, l, c, zs, hcs, _, hl, hm, hz, _, hcell, hwz⟩
  · simp [Value.cells] at hcs
    obtain ⟨rfl, rfl, rfl⟩ := hcs
    exact ⟨[], .inl ⟨rfl, rfl, rfl, rfl⟩⟩
  · simp [Value.cells] at hcs
    obtain ⟨rfl, rfl, rfl⟩ := hcs
    exact ⟨zs, .inr ⟨_, rfl, hl, hm, by simpa using hz, hcell, hwz⟩⟩
end Go.Proofs.YtmofnoconhgjmaaGreatDoor
/- Slices of bytes, told as lists; conversions between strings and bytes as laws of the walk. They speak of no program. -/
namespace Go.Proofs.YtmofnoconhgjmaaGreatDoor
open Go.RowKit

/-- A string of bytes. -/
def str (l : List UInt8) : Value := .string ⟨l.toArray⟩
theorem str_of (s : ByteArray) : Value.string s = str s.data.toList := rfl
/-- The value v is a slice that reads as the bytes l. -/
def Bytes (w : World) (v : Value) (l : List UInt8) : Prop :=
  ∃ a c, v = .slice a l.length c ∧ l.length ≤ c ∧ c ≤ maxLen ∧ (l ≠ [] → ∃ b o, a = some ⟨b, o, none⟩ ∧ ∀ i, i < l.length → w.cell? ⟨b, o + i, none⟩ = some (.int .u8 ((l.getD i 0).toNat : Int)))
theorem Bytes.grown {w w' : World} {v : Value} {l : List UInt8} (h : Bytes w v l) (g : w.grownBy w' none) : Bytes w' v l := by
  obtain ⟨a, c, rfl, h1, h2, h3⟩ := h
  refine ⟨a, c, rfl, h1, h2, fun hl => ?_⟩
  obtain ⟨b, o, rfl, hc⟩ := h3 hl
  exact ⟨b, o, rfl, fun i hi => g.cell (hc i hi) (by simp)⟩
theorem Bytes.nil (w : World) : Bytes w (.slice none 0 0) [] := ⟨none, 0, rfl, by simp, by simp [maxLen], fun h => absurd rfl h⟩
theorem Bytes.at {w : World} {a : Option Addr} {n c : Nat} {l : List UInt8} (h : Bytes w (.slice a n c) l) : n = l.length ∧ n ≤ c ∧ c ≤ maxLen ∧ (0 < n → ∃ b o, a = some ⟨b, o, none⟩ ∧ ∀ i, i < n → w.cell? ⟨b, o + i, none⟩ = some (.int .u8 ((l.getD i 0).toNat : Int))) := by
  obtain ⟨a', c', e, h1, h2, h3⟩ := h
  simp only [Value.slice.injEq] at e
  obtain ⟨rfl, rfl, rfl⟩ := e
  exact ⟨rfl, h1, h2, fun hp => h3 (by intro e; subst e; simp at hp)⟩
/-- A row of bytes of the call's own: its block, the cells behind the list open, nothing frozen within. -/
def Row8 (w : World) (e : TypeId) (g c : Nat) (l : List UInt8) : Prop :=
  ∃ cs lo hi, w.heap[g]? = some (.cells cs e (lo, hi)) ∧ (lo = hi ∨ cs.size ≤ lo) ∧ cs.size = c ∧ l.length ≤ c ∧ c ≤ maxLen ∧ ∀ i, i < l.length → cs[i]? = some (.int .u8 ((l.getD i 0).toNat : Int))
theorem Row8.bytes {w : World} {e : TypeId} {g c : Nat} {l : List UInt8} (h : Row8 w e g c l) : Bytes w (.slice (some ⟨g, 0, none⟩) l.length c) l := by
  obtain ⟨cs, lo, hi, hg, _, hcs, h1, h2, h3⟩ := h
  refine ⟨_, c, rfl, h1, h2, fun _ => ⟨g, 0, rfl, fun i hi => ?_⟩⟩
  rw [Nat.zero_add]
  have := h3 i hi
  simpa [World.cell?, hg] using this
theorem Row8.cell {w : World} {e : TypeId} {g c : Nat} {l : List UInt8} (h : Row8 w e g c l) {i : Nat} (hi : i < l.length) : w.cell? ⟨g, i, none⟩ = some (.int .u8 ((l.getD i 0).toNat : Int)) := by
  obtain ⟨cs, lo, hi', hg, _, hcs, h1, h2, h3⟩ := h
  simpa [World.cell?, hg] using h3 i hi
theorem Row8.free {w : World} {e : TypeId} {g c : Nat} {l : List UInt8} (h : Row8 w e g c l) {i : Nat} (hi : i < l.length) : w.frozen? ⟨g, i, none⟩ = false := by
  obtain ⟨cs, lo, hi', hg, hf, hcs, h1, h2, h3⟩ := h
  simp only [World.frozen?, hg]
  rcases hf with rfl | hf
  · simp; try omega
  · simp; try (intro; omega)
theorem Row8.keep {w w' : World} {row : Option Nat} {e : TypeId} {g c : Nat} {l : List UInt8} (h : Row8 w e g c l) (k : w.grownBy w' row) (hr : some g ≠ row) : Row8 w' e g c l := by
  obtain ⟨cs, lo, hi, hg, r⟩ := h
  exact ⟨cs, lo, hi, gr_keep k hg hr, r⟩
theorem Row8.lt {w : World} {e : TypeId} {g c : Nat} {l : List UInt8} (h : Row8 w e g c l) : g < w.heap.size := by
  obtain ⟨cs, lo, hi, hg, r⟩ := h
  exact lt_of_block hg
/-- A store of a byte. -/
theorem Row8.set {w : World} {e : TypeId} {g c : Nat} {l : List UInt8} (h : Row8 w e g c l) {i : Nat} (hi : i < l.length) (x : UInt8) : Row8 (w.setCell ⟨g, i, none⟩ (.int .u8 (x.toNat : Int))) e g c (l.set i x) := by
  obtain ⟨cs, lo, hi', hg, hf, hcs, h1, h2, h3⟩ := h
  refine ⟨cs.setIfInBounds i (.int .u8 (x.toNat : Int)), lo, hi', ?_, by simpa using hf, by simpa using hcs, by simpa using h1, h2, fun j hj => ?_⟩
  · have hlt := lt_of_block hg
    have h' : w.heap[g] = .cells cs e (lo, hi') := by simpa [Array.getElem?_eq_getElem hlt] using hg
    show (w.heap.modify g _)[g]? = _
    rw [Array.getElem?_eq_getElem (by simpa using hlt), Array.getElem_modify_self, h']
    rfl
  · rw [Array.getElem?_setIfInBounds]
    by_cases hij : i = j
    · subst hij
      rw [if_pos rfl, if_pos (by omega)]
      simp [List.getD_eq_getElem?_getD, hi]
    · rw [if_neg hij, h3 j (by simpa using hj)]
      simp [List.getD_eq_getElem?_getD, hij]
section
variable {P : Program} {w : World} {ops : Array Oper} {rest : List Oper} {o : Oper} {a : Act} {Q : Exit → Act → World → Prop}
/-- '[]byte(s)'. -/
theorem wpl_s2b (hgd : o.guard = none) (src dst e : TypeId) (x : Operand) (ho : o.op = .convert src dst x) (hs : P.underlying src = some .string) (hd : P.underlying dst = some (.slice e)) (he : P.underlying e = some (.int .u8))
    (s : ByteArray) (hx : a.eval x = .string s) (hsz : s.size ≤ maxLen)
    (h : ∀ g c w', w.heap.size ≤ g → Row8 w' e g c s.data.toList → w.grownBy w' none → wpList P ops Q rest (a.put o.dst (.slice (some ⟨g, 0, none⟩) s.size c)) w') : wpList P ops Q (o :: rest) a w := by
  refine wpList_plain hgd fun K hK => ?_
  unfold Oper.wp execOp
  simp only [ho, hx, Sem.run_bind, Sem.run_pure, run_bytes_of_string (P := P) w src dst e s hs hd he, Result.andThen_ok]
  refine hK _ _ (h w.heap.size _ _ (Nat.le_refl _) ?_ (gr_alloc (gr_drew (gr_refl _ _)) _))
  have hlen := Lib.size_eq s
  have hge := grownCap_ge w s.size 0 e
  have hle := grownCap_le_maxLen w s.size 0 e hsz
  refine ⟨_, _, _, heap_alloc_new w.drew _, .inr (Nat.le_refl _), ?_, by omega, hle, fun i hi => ?_⟩
  · have : s.data.size = s.size := rfl
    simp [bytesRow, this]; omega
  · have : s.data.size = s.size := rfl
    rw [bytesRow, Array.getElem?_append_left (by simp [this]; omega)]
    rw [Array.getElem?_map, ← Array.getElem?_toList, List.getElem?_eq_getElem hi]
    rw [List.getD_eq_getElem?_getD, List.getElem?_eq_getElem hi]
    rfl
/-- 'string(b)'. -/
theorem wpl_b2s (hgd : o.guard = none) (src dst e : TypeId) (x : Operand) (ho : o.op = .convert src dst x) (hs : P.underlying src = some (.slice e)) (he : P.underlying e = some (.int .u8)) (hd : P.underlying dst = some .string)
    (v : Value) (l : List UInt8) (hx : a.eval x = v) (hb : Bytes w v l)
    (h : wpList P ops Q rest (a.put o.dst (str l)) w) : wpList P ops Q (o :: rest) a w := by
  refine wpList_plain hgd fun K hK => ?_
  have hrun : (convert src dst v).run P w = .ok (str l) w := by
    obtain ⟨ad, c, rfl, h1, h2, h3⟩ := hb
    rw [run_convert_bytes_string w src dst e _ _ _ hs he hd]
    rcases l with _ | ⟨x, l⟩
    · cases ad with
      | none => simp [Conv.bytesToString, str]; rfl
      | some ad =>
        have := run_bytesToString (P := P) w ad 0 c [] (by have := run_loadCells_list (P := P) w ad [] (by intro j v h; simp at h); simpa using this)
        exact this.trans rfl
    · obtain ⟨b, of, rfl, hc⟩ := h3 (by simp)
      have := run_bytesToString (P := P) w ⟨b, of, none⟩ (x :: l).length c ((x :: l).map (fun b => (b.toNat : Int))) (by
        have := run_loadCells_list (P := P) w ⟨b, of, none⟩ (((x :: l).map (fun b => (b.toNat : Int))).map (Value.int .u8)) (by
          intro j v hj
          simp only [List.getElem?_map, Option.map_eq_some_iff] at hj
          obtain ⟨n, ⟨y, hy, rfl⟩, rfl⟩ := hj
          have hjl : j < (x :: l).length := (List.getElem?_eq_some_iff.1 hy).1
          rw [Go.WideShapes.add_plain, hc j hjl, List.getD_eq_getElem?_getD, hy]
          rfl)
        simpa using this)
      rw [this, foldl_push_byteCells]
      simp [str]
  unfold Oper.wp execOp
  simp only [ho, hx, Sem.run_bind, Sem.run_pure, hrun, Result.andThen_ok]
  exact hK _ _ h
end
end Go.Proofs.YtmofnoconhgjmaaGreatDoor
/- A list of pairs of strings that came in; rows of the call's own, told as lists. -/
namespace Go.Proofs.YtmofnoconhgjmaaGreatDoor
open Go.RowKit

/-- A list of pairs of strings that came in. -/
structure PairAt (w : World) (b o : Nat) (n v : ByteArray) : Prop where
  c0 : w.cell? ⟨b, o, none⟩ = some (.string n)
  c1 : w.cell? ⟨b, o + 1, none⟩ = some (.string v)
theorem PairAt.grown {w w' : World} {b o : Nat} {n v : ByteArray} (h : PairAt w b o n v) (g : w.grownBy w' none) : PairAt w' b o n v :=
  ⟨g.cell h.c0 (by simp), g.cell h.c1 (by simp)⟩
def PairsAt (w : World) (a : Option Addr) (len : Nat) (ns vs : Nat → ByteArray) : Prop := len = 0 ∨ ∃ b o, a = some ⟨b, o, none⟩ ∧ ∀ i, i < len → PairAt w b (o + i * 2) (ns i) (vs i)
theorem PairsAt.grown {w w' : World} {a : Option Addr} {len : Nat} {ns vs : Nat → ByteArray} (h : PairsAt w a len ns vs) (g : w.grownBy w' none) : PairsAt w' a len ns vs := by
  rcases h with h0 | ⟨b, o, rfl, h⟩
  · exact .inl h0
  · exact .inr ⟨b, o, rfl, fun i hi => (h i hi).grown g⟩
theorem toList_beq (a b : ByteArray) : (a.toList == b.toList) = decide (a = b) := by
  rw [Bool.eq_iff_iff, beq_iff_eq, decide_eq_true_iff, Lib.toList_data, Lib.toList_data]
  constructor
  · intro h; exact ByteArray.ext (Array.toList_inj.1 h)
  · intro h; rw [h]

/-- A row of the call's own that reads as bytes. -/
theorem bytes_of_own {w : World} {base : Nat} {e : TypeId} {v : Value} {n : Nat} {l : List UInt8} (h : w.ownsRow base e 1 v n (l.map fun b => .int .u8 (b.toNat : Int))) : Bytes w v l := by
  have hn : n = l.length := by have := h.1; simp at this; omega
  subst hn
  rcases h.2 with ⟨rfl, h0⟩ | ⟨g, cap, cur, rfl, hg, hh, hc, hm, hs, ht⟩
  · have : l = [] := List.eq_nil_of_length_eq_zero h0
    subst this
    exact Bytes.nil w
  · refine ⟨_, cap, rfl, hc, hm, fun _ => ⟨g, 0, rfl, fun i hi => ?_⟩⟩
    have hx : cur.toList[i]? = some (.int .u8 ((l.getD i 0).toNat : Int)) := by
      have h1 : (cur.toList.take (l.length * 1))[i]? = (l.map fun b => Value.int .u8 (b.toNat : Int))[i]? := by rw [ht]
      rw [List.getElem?_take, if_pos (by omega)] at h1
      rw [h1, List.getElem?_map, List.getElem?_eq_getElem hi, List.getD_eq_getElem?_getD, List.getElem?_eq_getElem hi]
      rfl
    rw [Nat.zero_add]
    simpa [World.cell?, hh] using hx
/-- What is owned is read cell by cell. -/
theorem own_cell {w : World} {base : Nat} {e : TypeId} {v : Value} {n : Nat} {xs : List Value} (h : w.ownsRow base e 1 v n xs) (hp : 0 < n) :
    ∃ g cap, v = .slice (some ⟨g, 0, none⟩) n cap ∧ base ≤ g ∧ n ≤ cap ∧ ∀ i u, xs[i]? = some u → w.cell? ⟨g, i, none⟩ = some u := by
  rcases h.2 with ⟨rfl, h0⟩ | ⟨g, cap, cur, rfl, hg, hh, hc, hm, hs, ht⟩
  · omega
  · refine ⟨g, cap, rfl, hg, hc, fun i u hu => ?_⟩
    have hl := h.1
    have hi : i < xs.length := (List.getElem?_eq_some_iff.1 hu).1
    rw [← ht, List.getElem?_take, if_pos (by omega)] at hu
    simpa [World.cell?, hh] using hu
theorem own_shape {w : World} {base : Nat} {e : TypeId} {v : Value} {n : Nat} {xs : List Value} (h : w.ownsRow base e 1 v n xs) : ∃ a cap, v = .slice a n cap ∧ n ≤ cap := by
  rcases h.2 with ⟨rfl, rfl⟩ | ⟨g, cap, cur, rfl, hg, hh, hc, hm, hs, ht⟩
  · exact ⟨none, 0, rfl, Nat.le_refl _⟩
  · exact ⟨_, cap, rfl, hc⟩
theorem gr_own {w w1 w2 : World} {base : Nat} {e : TypeId} {size : Nat} {v : Value} {n : Nat} {xs : List Value} {row : Option Nat} (hg : w.grownBy w1 row) (ho : w1.ownsRow base e size v n xs) (hb : w.heap.size ≤ base) (h : w1.grownBy w2 v.ownBlock) : w.grownBy w2 row := by
  rcases hv : v.ownBlock with _ | g
  · rw [hv] at h; exact gr_trans hg (gr_none h)
  · rw [hv] at h; exact gr_new hg h (by have := (ho.lt g hv).1; omega)
end Go.Proofs.YtmofnoconhgjmaaGreatDoor
