/- (*http.Parser).judge: the method, the fields. Plain facts. -/
import Derived.Test.YtldbcdiomkkinaaGreatDoorHte
import Derived.Test.YtldbcdiomkkinaaGreatDoorHt8
namespace Go.Proofs.YtldbcdiomkkinaaGreatDoor
open Go.RowKit

def jd2 (s : Ps) (r : Rq) : Ps × Option Pd :=
  if 40 < r.fields.length then failS 431
  else if 1 < (getL r.fields [104, 111, 115, 116]).length ∨ ((getL r.fields [104, 111, 115, 116]).length : Int) < r.minor then failS 400
  else if (framingL r).1 ≠ 0 then failS (framingL r).1
  else if (framingL r).2.1 = 0 then doneS { s with req := { r with keep := keepL r }, stage := (framingL r).2.1, left := if (framingL r).2.1 = 1 then (framingL r).2.2 else s.left }
  else ({ s with req := { r with keep := keepL r }, stage := (framingL r).2.1, left := if (framingL r).2.1 = 1 then (framingL r).2.2 else s.left }, none)
theorem judgeS_fields {s : Ps} {texts : List (List UInt8)} {t0 m1 t1 : List UInt8} {mi : Int} (hz : s.req = Rq.zero) (ht0 : texts[0]? = some t0) (hst : stR t0 = (m1, t1, mi, true)) (hm : m1 ∈ methodsL) :
    judgeS s texts false = match fieldsL texts.tail with | none => failS 400 | some fs => jd2 s ⟨m1, t1, mi, fs, [], false⟩ := by
  unfold judgeS
  rcases texts with _ | ⟨t, r⟩
  · simp at ht0
  · obtain rfl : t = t0 := by simpa using ht0
    dsimp only [List.headD]
    rw [hst, if_neg (by simp), if_neg (by simpa using hm), hz]
    rfl
theorem lnR_vlen (t : List UInt8) : (lnR t).2.1.length ≤ t.length := by
  unfold lnR
  split
  · show (lnV t).length ≤ _
    unfold lnV lnC cutB
    refine Nat.le_trans (trimS_le _ _) ?_
    split
    · show (t.drop _).length ≤ _
      rw [List.length_drop]; omega
    · exact Nat.zero_le _
  · exact Nat.zero_le _
theorem fieldsL_snoc : ∀ (ts : List (List UInt8)) (fs : List (List UInt8 × List UInt8)) (t : List UInt8), fieldsL ts = some fs → (lnR t).2.2 = true → fieldsL (ts ++ [t]) = some (fs ++ [((lnR t).1, (lnR t).2.1)])
  | [], fs, t, h, ht => by
    obtain rfl : [] = fs := by simpa [fieldsL] using h
    show fieldsL [t] = _
    unfold fieldsL
    rw [if_pos ht]
    rfl
  | x :: r, fs, t, h, ht => by
    show fieldsL (x :: (r ++ [t])) = _
    unfold fieldsL at h ⊢
    by_cases hx : (lnR x).2.2 = true
    · rw [if_pos hx] at h ⊢
      cases hr : fieldsL r with
      | none => rw [hr] at h; cases h
      | some fr =>
        rw [hr] at h
        rw [fieldsL_snoc r fr t hr ht]
        obtain rfl := Option.some.inj h
        rfl
    · rw [if_neg hx] at h; cases h
theorem fieldsL_len : ∀ (ts : List (List UInt8)) (fs : List (List UInt8 × List UInt8)), fieldsL ts = some fs → fs.length = ts.length
  | [], fs, h => by
    obtain rfl : [] = fs := by simpa [fieldsL] using h
    rfl
  | x :: r, fs, h => by
    unfold fieldsL at h
    split at h
    · cases hr : fieldsL r with
      | none => rw [hr] at h; cases h
      | some fr =>
        rw [hr] at h
        obtain rfl := Option.some.inj h
        simp [fieldsL_len r fr hr]
    · cases h
theorem fieldsL_vlen (n : Nat) : ∀ (ts : List (List UInt8)) (fs : List (List UInt8 × List UInt8)), fieldsL ts = some fs → (∀ t ∈ ts, t.length ≤ n) → ∀ f ∈ fs, f.2.length ≤ n
  | [], fs, h, _ => by
    obtain rfl : [] = fs := by simpa [fieldsL] using h
    intro f hf; cases hf
  | x :: r, fs, h, ht => by
    unfold fieldsL at h
    split at h
    · cases hr : fieldsL r with
      | none => rw [hr] at h; cases h
      | some fr =>
        rw [hr] at h
        obtain rfl := Option.some.inj h
        intro f hf
        rcases List.mem_cons.1 hf with rfl | hf
        · exact Nat.le_trans (lnR_vlen x) (ht x (by simp))
        · exact fieldsL_vlen n r fr hr (fun t h => ht t (by simp [h])) f hf
    · cases h
def flatF (fs : List (List UInt8 × List UInt8)) : List Value := fs.flatMap fun f => [str f.1, str f.2]
theorem flatF_snoc (fs : List (List UInt8 × List UInt8)) (x y : List UInt8) : flatF (fs ++ [(x, y)]) = flatF fs ++ [str x, str y] := by
  unfold flatF; rw [List.flatMap_append]; rfl
theorem infoField : (Tryz.prog.info? 26).map (fun i => (i.zero, i.size, i.bytes)) = some (some (.agg #[.string ⟨#[]⟩, .string ⟨#[]⟩]), 2, 32) := by kernel_rfl
/-- One field in a new block. -/
def FsNew (w0 : World) (x y : List UInt8) (v : Value) (w : World) : Prop := ∃ gg cc, v = .slice (some ⟨gg, 0, none⟩) 1 cc ∧ w.heap[gg]? = some (.cells #[str x, str y] 26 (0, 0)) ∧ w0.heap.size ≤ gg
theorem FsNew.kept {w0 w w' : World} {x y : List UInt8} {v : Value} {row : Option Nat} (h : FsNew w0 x y v w) (g : w.grownBy w' row) (hr : ∀ k, row = some k → k < w0.heap.size) : FsNew w0 x y v w' := by
  obtain ⟨gg, cc, rfl, h1, h2⟩ := h
  refine ⟨gg, cc, rfl, gr_keep g h1 ?_, h2⟩
  intro e
  have := hr gg e.symm
  omega
/-- What holds at the head of judge's loop. -/
def JdR (w3 : World) (b : Nat) (tail : List (List UInt8)) (C : Value → Array Value) (vk : Value) (wr : World) : Prop :=
  ∃ (k : Nat) (fs : List (List UInt8 × List UInt8)) (fv : Value), vk = .int .i64 k ∧ k ≤ tail.length ∧ fieldsL (tail.take k) = some fs ∧ w3.grownBy wr (some b) ∧ wr.heap[b]? = some (.cells (C fv) 62 (0, 0)) ∧ wr.ownsRow w3.heap.size 26 2 fv k (flatF fs) ∧ (k = 0 → fv = .slice none 0 0)
theorem fs_of_row {w : World} {base : Nat} {v : Value} {fs : List (List UInt8 × List UInt8)} (h : w.ownsRow base 26 2 v fs.length (flatF fs)) (hz : fs = [] → v = .slice none 0 0) : FsAt w v fs := by
  rcases h.2 with ⟨rfl, h0⟩ | ⟨g, cap, cur, rfl, hg, hh, hc, hm, hs, ht⟩
  · exact .inl ⟨rfl, List.eq_nil_of_length_eq_zero h0⟩
  · by_cases hf : fs = []
    · exact .inl ⟨hz hf, hf⟩
    · exact .inr ⟨g, cap, cur, rfl, hh, hc, hm, ht, hf⟩
theorem own_ne {w : World} {base size n g : Nat} {e T : TypeId} {v : Value} {xs : List Value} {cs : Array Value} {r : Nat × Nat} (h : w.ownsRow base e size v n xs) (hx : w.heap[g]? = some (.cells cs T r)) (hT : T ≠ e) : some g ≠ v.ownBlock := by
  rcases h.2 with ⟨rfl, _⟩ | ⟨g', cap, cur, rfl, hb, hh, _⟩
  · simp [Value.ownBlock]
  · exact blk_ne hx hh hT
theorem done_end2 {w w3 w9 : World} {b n0 rn bn L : Nat} {s : Ps} {cs : Array Value} {ra fa ba : Option Addr} {rc fc bc : Nat} (e1 : rn = s.rest.length) (e2 : bn = s.req.body.length) (e3 : L = s.left)
    (hm : if s.req.keep = true then w3.heap[b]? = some (.cells (PsCells (.slice ra rn rc) 0 false [] [] 0 (.slice none 0 0) (.slice none 0 0) false (L : Int)) 62 (0, 0)) else PDead w3 b)
    (g3 : w.grownBy w3 (some b)) (hr : ByAt w3 (.slice ra rn rc) s.rest) (hf : FsAt w3 (.slice fa s.req.fields.length fc) s.req.fields) (hb : BoAt w3 (.slice ba bn bc) s.req.body)
    (hn : w3.heap[n0]? = some (.cells cs 46 (0, 0))) (g9 : w3.grownBy w9 (some n0)) (h0 : w.heap.size ≤ n0) (hu : NoU8 cs) :
    StepPost w b (doneS s) (.returned (.tuple #[.agg (PdCells 0 s.req.method s.req.target s.req.minor (.slice fa s.req.fields.length fc) (.slice ba bn bc) s.req.keep), .bool true])) w9 := by
  subst e1 e2 e3
  exact done_end hm g3 hr hf hb hn g9 h0 hu
theorem framing_stage (r : Rq) : (framingL r).2.1 ≠ 5 := by
  unfold framingL
  dsimp only
  split
  · decide
  · split
    · split <;> decide
    · split
      · split <;> simp
      · show (0 : Nat) ≠ 5
        decide
theorem methods_contains (m1 : List UInt8) : Lib.containsS [⟨#[71, 69, 84]⟩, ⟨#[72, 69, 65, 68]⟩, ⟨#[80, 79, 83, 84]⟩, ⟨#[83, 85, 66, 83, 67, 82, 73, 66, 69]⟩, ⟨#[85, 78, 83, 85, 66, 83, 67, 82, 73, 66, 69]⟩] ⟨m1.toArray⟩ = decide (m1 ∈ methodsL) := by
  rw [Bool.eq_iff_iff, Lib.containsS_iff, decide_eq_true_iff]
  have e : ∀ (a : Array UInt8), ((⟨m1.toArray⟩ : ByteArray) = ⟨a⟩) = (m1 = a.toList) := fun a => by
    apply propext
    constructor
    · intro h
      have h' := congrArg (fun x => x.data.toList) h
      simpa using h'
    · rintro rfl
      rfl
  simp only [List.mem_cons, List.not_mem_nil, or_false, e, methodsL]
theorem contains_five (b : Nat) (zs : List ByteArray) (x : ByteArray) (w : World) (T : TypeId) (hz : zs.length = 5) (h : w.heap[b]? = some (.cells (zs.map Value.string).toArray T (0, 0))) :
    Calls Tryz.prog 66 #[.slice (some ⟨b, 0, none⟩) 5 5, .string x] w fun e w' => e = .returned (.bool (Lib.containsS zs x)) ∧ w = w' := by
  have := Tryz.slices_Contains_string b 0 5 5 zs x w (by omega) (by omega) (fun j hj => by
    rw [Nat.zero_add, cell_of_block h j]
    simp [List.getD_eq_getElem?_getD, List.getElem?_eq_getElem hj])
  rw [List.take_of_length_le (by omega)] at this
  exact this.mono fun _ _ h => ⟨h.1, h.2.symm⟩
end Go.Proofs.YtldbcdiomkkinaaGreatDoor
