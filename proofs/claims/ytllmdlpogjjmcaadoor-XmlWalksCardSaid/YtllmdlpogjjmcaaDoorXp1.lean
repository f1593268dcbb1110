/- XML, plainly: elements, attributes, spaces; what a text is read ats: by a stack of elements, and by elements in one another. It speaks of no program. -/
import Derived.Test.YtllmdlpogjjmcaaDoorXmd
namespace Go.Proofs.YtllmdlpogjjmcaaDoor
open Go.RowKit
set_option linter.unusedVariables false

abbrev Bs := List UInt8
abbrev At := Bs × Bs × Bs
/-- Elements, one behind the other. -/
inductive Fo where
  | nil : Fo
  | cons (s n : Bs) (ats : List At) (tx : Bs) (kids next : Fo) : Fo
/-- An element. -/
structure El where
  s : Bs
  n : Bs
  ats : List At
  tx : Bs
  kids : Fo
def Fo.len : Fo → Nat
  | .nil => 0
  | .cons _ _ _ _ _ next => next.len + 1
def Fo.snoc : Fo → El → Fo
  | .nil, e => .cons e.s e.n e.ats e.tx e.kids .nil
  | .cons s n ats tx k next, e => .cons s n ats tx k (next.snoc e)
theorem Fo.len_snoc (f : Fo) (e : El) : (f.snoc e).len = f.len + 1 := by
  induction f with
  | nil => rfl
  | cons s n ats tx k next _ ih => simp only [Fo.snoc, Fo.len, ih]
/-- An element that has begun: its prefix and name, space, attributes, text, elements; the prefixes' spaces, the later ones ahead. -/
structure Fr where
  p : Bs
  n : Bs
  s : Bs
  ats : List At
  tx : Bs
  kids : Fo
  bs : List (Bs × Bs)
def Fr.el (f : Fr) : El := ⟨f.s, f.n, f.ats, f.tx, f.kids⟩
def Fr.kid (f : Fr) (e : El) : Fr := { f with kids := f.kids.snoc e }
def Fr.txt (f : Fr) (t : Bs) : Fr := { f with tx := f.tx ++ t }
def nsT : Bs := [120, 109, 108, 110, 115]
def valQ (q : UInt8) (r : Bs) : Option (Bs × Bs) :=
  if (Lib.cut r [q]).2.2 && !(Lib.cut r [q]).1.contains 60 then (unescA (Lib.cut r [q]).1).map fun v => (v, (Lib.cut r [q]).2.1) else none
/-- An attribute's value, and the rest. -/
def valueL (r : Bs) : Option (Bs × Bs) :=
  if Lib.hasPrefix r [34] then valQ 34 (Lib.trimPrefix r [34]) else if Lib.hasPrefix r [39] then valQ 39 (Lib.trimPrefix r [39]) else none
/-- An attribute, and the rest. -/
def oneL (r : Bs) : Option (At × Bs) :=
  if (fullL r).1.2.2 && Lib.hasPrefix (Lib.trimLeftS (fullL r).2 blkL) [61] then
    (valueL (Lib.trimLeftS (Lib.trimPrefix (Lib.trimLeftS (fullL r).2 blkL) [61]) blkL)).map fun x => (((fullL r).1.1, (fullL r).1.2.1, x.1), x.2)
  else none
def sameF (a b : At) : Bool := decide (b.1 = a.1) && decide (b.2.1 = a.2.1)
def attrsL : Nat → Bs → List At → Option (List At × Bool × Bs)
  | 0, _, _ => none
  | n + 1, r, acc =>
    if Lib.hasPrefix (Lib.trimLeftS r blkL) [47, 62] then some (acc, true, Lib.trimPrefix (Lib.trimLeftS r blkL) [47, 62])
    else if Lib.hasPrefix (Lib.trimLeftS r blkL) [62] then some (acc, false, Lib.trimPrefix (Lib.trimLeftS r blkL) [62])
    else if (Lib.trimLeftS r blkL).length < r.length then
      match oneL (Lib.trimLeftS r blkL) with
      | none => none
      | some (a, r') => if acc.any (sameF a) then none else attrsL n r' (acc ++ [a])
    else none
def attrsA (r : Bs) : Option (List At × Bool × Bs) := attrsL (r.length + 1) r []
/-- A prefix's space; is there one? -/
def spcL (bs : List (Bs × Bs)) (p : Bs) : Bs × Bool := match bs.find? (fun x => decide (x.1 = p)) with
  | some x => (x.2, true)
  | none => ([], decide (p = []))
def isNs (a : At) : Bool := decide (a.1 = nsT) || (decide (a.1 = []) && decide (a.2.1 = nsT))
def nsOf (a : At) : Bs := if a.1 = nsT then a.2.1 else []
def bindB : List At → List (Bs × Bs) → List (Bs × Bs)
  | [], bs => bs
  | a :: l, bs => bindB l (if isNs a then (nsOf a, a.2.2) :: bs else bs)
def bindOk (l : List At) : Bool := l.all fun a => !(decide (a.1 = nsT) && decide (a.2.2 = []))
def atSp (bs : List (Bs × Bs)) (p : Bs) : Bs × Bool := if p = [] then ([], true) else spcL bs p
def sameA (s n : Bs) (y : At) : Bool := decide (s = y.1) && decide (n = y.2.1)
/-- The attributes with their spaces, as they come; are they right? -/
def attB (bs : List (Bs × Bs)) : List At → List At → List At × Bool
  | [], acc => (acc, true)
  | a :: l, acc => if isNs a then attB bs l acc else
    ((attB bs l (acc ++ [((atSp bs a.1).1, a.2.1, a.2.2)])).1, (atSp bs a.1).2 && !acc.any (sameA (atSp bs a.1).1 a.2.1) && (attB bs l (acc ++ [((atSp bs a.1).1, a.2.1, a.2.2)])).2)
def elemL (p n : Bs) (l : List At) (up : List (Bs × Bs)) : Option Fr :=
  if bindOk l && (spcL (bindB l up) p).2 && (attB (bindB l up) l []).2 then some ⟨p, n, (spcL (bindB l up) p).1, (attB (bindB l up) l []).1, [], .nil, bindB l up⟩ else none
/-- The beginning of an element: it, is it empty?, the rest, how many attributes it has. -/
def beginL (up : List (Bs × Bs)) (r : Bs) : Option (Fr × Bool × Bs × Nat) :=
  if (fullL r).1.2.2 then
    match attrsA (fullL r).2 with
    | none => none
    | some (l, emp, r') => (elemL (fullL r).1.1 (fullL r).1.2.1 l up).map fun f => (f, emp, r', l.length)
  else none
def cdO : Bs := [60, 33, 91, 67, 68, 65, 84, 65, 91]
def cdC : Bs := [93, 93, 62]
/-- The end of an element: the rest. -/
def endL (f : Fr) (r : Bs) : Option Bs :=
  if (fullL r).1.2.2 && decide ((fullL r).1.1 = f.p) && decide ((fullL r).1.2.1 = f.n) && Lib.hasPrefix (Lib.trimLeftS (fullL r).2 blkL) [62] then some (Lib.trimPrefix (Lib.trimLeftS (fullL r).2 blkL) [62]) else none
def fullB (full : Bool) (cnt deep k : Nat) : Bool := full || decide (64 < cnt) || decide (8 < deep) || decide (16 < k)
/-- What reads a document: the rest, the elements that have begun (the last one ahead), how many there were, is there too much? -/
structure Ma where
  r : Bs
  st : List Fr
  cnt : Nat
  full : Bool
/-- What has come to its end: the element, the rest, how many there were, is there too much? -/
abbrev Res := El × Bs × Nat × Bool
def popL (e : El) (r : Bs) (S : List Fr) (cnt : Nat) (full : Bool) : Ma ⊕ Res := match S with
  | [] => .inr (e, r, cnt, full)
  | g :: S => .inl ⟨r, g.kid e :: S, cnt, full⟩
def stepBegin (up : List (Bs × Bs)) (r : Bs) (S : List Fr) (cnt : Nat) (full : Bool) : Option (Ma ⊕ Res) := match beginL up r with
  | none => none
  | some (g, emp, r', k) => some (if emp then popL g.el r' S (cnt + 1) (fullB full (cnt + 1) (S.length + 1) k) else .inl ⟨r', g :: S, cnt + 1, fullB full (cnt + 1) (S.length + 1) k⟩)
/-- One step in an element. -/
def stepL (r : Bs) (f : Fr) (S : List Fr) (cnt : Nat) (full : Bool) : Option (Ma ⊕ Res) :=
  if Lib.hasPrefix r noteO then (if (Lib.cut (Lib.trimPrefix r noteO) noteC).2.2 then some (.inl ⟨(Lib.cut (Lib.trimPrefix r noteO) noteC).2.1, f :: S, cnt, full⟩) else none)
  else if Lib.hasPrefix r cdO then (if (Lib.cut (Lib.trimPrefix r cdO) cdC).2.2 then some (.inl ⟨(Lib.cut (Lib.trimPrefix r cdO) cdC).2.1, f.txt (Lib.cut (Lib.trimPrefix r cdO) cdC).1 :: S, cnt, full⟩) else none)
  else if Lib.hasPrefix r [60, 47] then (endL f (Lib.trimPrefix r [60, 47])).map fun r' => popL f.el r' S cnt full
  else if Lib.hasPrefix r [60] then stepBegin f.bs (Lib.trimPrefix r [60]) (f :: S) cnt full
  else if Lib.index r [60] < 0 then none
  else (unescA (r.take (Lib.index r [60]).toNat)).map fun t => .inl ⟨r.drop (Lib.index r [60]).toNat, f.txt t :: S, cnt, full⟩
def runL : Nat → Ma → Option Res
  | 0, _ => none
  | n + 1, ⟨r, [], cnt, full⟩ => none
  | n + 1, ⟨r, f :: S, cnt, full⟩ => match stepL r f S cnt full with
    | none => none
    | some (.inr x) => some x
    | some (.inl m) => runL n m
/-- The same, element in element. -/
def inL : Nat → Bs → Fr → Nat → Nat → Bool → Option Res
  | 0, _, _, _, _, _ => none
  | n + 1, r, f, deep, cnt, full =>
    if Lib.hasPrefix r noteO then (if (Lib.cut (Lib.trimPrefix r noteO) noteC).2.2 then inL n (Lib.cut (Lib.trimPrefix r noteO) noteC).2.1 f deep cnt full else none)
    else if Lib.hasPrefix r cdO then (if (Lib.cut (Lib.trimPrefix r cdO) cdC).2.2 then inL n (Lib.cut (Lib.trimPrefix r cdO) cdC).2.1 (f.txt (Lib.cut (Lib.trimPrefix r cdO) cdC).1) deep cnt full else none)
    else if Lib.hasPrefix r [60, 47] then (endL f (Lib.trimPrefix r [60, 47])).map fun r' => (f.el, r', cnt, full)
    else if Lib.hasPrefix r [60] then
      match beginL f.bs (Lib.trimPrefix r [60]) with
      | none => none
      | some (g, true, r', k) => inL n r' (f.kid g.el) deep (cnt + 1) (fullB full (cnt + 1) (deep + 1) k)
      | some (g, false, r', k) => match inL n r' g (deep + 1) (cnt + 1) (fullB full (cnt + 1) (deep + 1) k) with
        | none => none
        | some (e, r'', cnt', full') => inL n r'' (f.kid e) deep cnt' full'
    else if Lib.index r [60] < 0 then none
    else match unescA (r.take (Lib.index r [60]).toNat) with
      | none => none
      | some t => inL n (r.drop (Lib.index r [60]).toNat) (f.txt t) deep cnt full
/-- The elements from the place behind the first < on. -/
def rootL (up : List (Bs × Bs)) (r : Bs) : Option Res := match stepBegin up r [] 0 false with
  | none => none
  | some (.inr x) => some x
  | some (.inl m) => runL (m.r.length + 1) m
def xmlB : List (Bs × Bs) := [([120, 109, 108], [104, 116, 116, 112, 58, 47, 47, 119, 119, 119, 46, 119, 51, 46, 111, 114, 103, 47, 88, 77, 76, 47, 49, 57, 57, 56, 47, 110, 97, 109, 101, 115, 112, 97, 99, 101])]
def decO : Bs := [60, 63, 120, 109, 108]
def decC : Bs := [63, 62]
def docHead (r : Bs) : Option Bs := if Lib.hasPrefix r decO then (if (Lib.cut (Lib.trimPrefix r decO) decC).2.2 then some (Lib.cut (Lib.trimPrefix r decO) decC).2.1 else none) else some r
def docBeg (r : Bs) : Option Bs := ((docHead r).bind miscA).bind fun r' => if Lib.hasPrefix r' [60] then some (Lib.trimPrefix r' [60]) else none
/-- A document: its element; is there too much? -/
def docL (r : Bs) : Option (El × Bool) := ((docBeg r).bind (rootL xmlB)).bind fun x => if miscA x.2.1 = some [] then some (x.1, x.2.2.2) else none
def El.zero : El := ⟨[], [], [], [], .nil⟩
def parseL (r : Bs) : El × Nat := if 8192 < r.length then (El.zero, 14) else match docL r with
  | none => (El.zero, 11)
  | some (e, full) => if !plainB r then (El.zero, 11) else if full then (El.zero, 20) else (e, 0)

theorem valueL_len {r v r' : Bs} (h : valueL r = some (v, r')) : r'.length < r.length := by
  unfold valueL valQ at h
  split at h
  · rename_i h1
    have := trimP_len h1
    simp only [List.length_cons, List.length_nil] at this
    split at h
    · obtain ⟨a, -, e⟩ := Option.map_eq_some_iff.1 h
      cases e
      have := cut_len (Lib.trimPrefix r [34]) [34]
      omega
    · cases h
  · split at h
    · rename_i h1
      have := trimP_len h1
      simp only [List.length_cons, List.length_nil] at this
      split at h
      · obtain ⟨a, -, e⟩ := Option.map_eq_some_iff.1 h
        cases e
        have := cut_len (Lib.trimPrefix r [39]) [39]
        omega
      · cases h
    · cases h
theorem oneL_len {r r' : Bs} {a : At} (h : oneL r = some (a, r')) : r'.length < r.length := by
  unfold oneL at h
  split at h
  · obtain ⟨x, hx, e⟩ := Option.map_eq_some_iff.1 h
    cases e
    have h1 := valueL_len (v := x.1) (r' := x.2) hx
    have h2 := trimS_len (Lib.trimPrefix (Lib.trimLeftS (fullL r).2 blkL) [61])
    have h3 := trim_len (Lib.trimLeftS (fullL r).2 blkL) [61]
    have h4 := trimS_len (fullL r).2
    have h5 := fullL_len r
    omega
  · cases h
theorem attrsL_len {n : Nat} {r r' : Bs} {acc l : List At} {b : Bool} (h : attrsL n r acc = some (l, b, r')) : r'.length < r.length := by
  induction n generalizing r acc with
  | zero => cases h
  | succ n ih =>
    unfold attrsL at h
    have h0 := trimS_len r
    split at h
    · rename_i h1
      have := trimP_len h1
      simp only [List.length_cons, List.length_nil] at this
      cases h; omega
    · split at h
      · rename_i h1
        have := trimP_len h1
        simp only [List.length_cons, List.length_nil] at this
        cases h; omega
      · split at h
        · split at h
          · cases h
          · rename_i a r2 h2
            have := oneL_len h2
            split at h
            · cases h
            · have := ih h; omega
        · cases h
theorem beginL_len {up : List (Bs × Bs)} {r r' : Bs} {f : Fr} {b : Bool} {k : Nat} (h : beginL up r = some (f, b, r', k)) : r'.length < r.length := by
  unfold beginL at h
  split at h
  · split at h
    · cases h
    · rename_i l emp r2 h2
      obtain ⟨x, _, e⟩ := Option.map_eq_some_iff.1 h
      cases e
      have := attrsL_len h2
      have := fullL_len r
      omega
  · cases h
theorem endL_len {f : Fr} {r r' : Bs} (h : endL f r = some r') : r'.length < r.length := by
  unfold endL at h
  split at h
  · rename_i h1
    simp only [Bool.and_eq_true] at h1
    have := trimP_len h1.2
    simp only [List.length_cons, List.length_nil] at this
    have h4 := trimS_len (fullL r).2
    have h5 := fullL_len r
    cases h; omega
  · cases h
theorem index_pos {r : Bs} (h : Lib.hasPrefix r [60] = false) (h0 : ¬ Lib.index r [60] < 0) : 1 ≤ (Lib.index r [60]).toNat ∧ (Lib.index r [60]).toNat < r.length := by
  have h1 := (index_le [60] r).2 (by omega)
  simp only [List.length_cons, List.length_nil] at h1
  refine ⟨?_, by omega⟩
  cases r with
  | nil => simp at h1; omega
  | cons x r =>
    have hp : [60].isPrefixOf (x :: r) = false := h
    unfold Lib.index at h0 ⊢
    rw [hp] at h0 ⊢
    simp only [Bool.false_eq_true, if_false] at h0 ⊢
    split at h0
    · omega
    · split
      · rename_i h1 h2; exact absurd h2 h1
      · have := (index_le [60] r).1; rename_i h1 h2; have : Lib.index r [60] ≠ -1 := by simpa using h1
        omega
def stepped (r : Bs) : Ma ⊕ Res → Prop
  | .inl m => m.r.length < r.length ∧ m.st ≠ []
  | .inr x => x.2.1.length < r.length
theorem popL_len {e : El} {r r0 : Bs} {S : List Fr} {cnt : Nat} {full : Bool} (h : r.length < r0.length) : stepped r0 (popL e r S cnt full) := by
  cases S with
  | nil => exact h
  | cons g S => exact ⟨h, by simp⟩
theorem stepBegin_len {up : List (Bs × Bs)} {r : Bs} {S : List Fr} {cnt : Nat} {full : Bool} {x : Ma ⊕ Res} (h : stepBegin up r S cnt full = some x) : stepped r x := by
  unfold stepBegin at h
  split at h
  · cases h
  · rename_i g emp r' k h1
    have := beginL_len h1
    simp only [Option.some.injEq] at h
    subst h
    split
    · exact popL_len this
    · exact ⟨this, by simp⟩
theorem stepL_len {r : Bs} {f : Fr} {S : List Fr} {cnt : Nat} {full : Bool} {x : Ma ⊕ Res} (h : stepL r f S cnt full = some x) : stepped r x := by
  unfold stepL at h
  split at h
  · rename_i h1
    have := trimP_len h1
    have h4 : noteO.length = 4 := rfl
    have := cut_len (Lib.trimPrefix r noteO) noteC
    split at h
    · cases h; exact ⟨by simp only; omega, by simp⟩
    · cases h
  split at h
  · rename_i h1
    have := trimP_len h1
    have h4 : cdO.length = 9 := rfl
    have := cut_len (Lib.trimPrefix r cdO) cdC
    split at h
    · cases h; exact ⟨by simp only; omega, by simp⟩
    · cases h
  split at h
  · rename_i h1
    have := trimP_len h1
    simp only [List.length_cons, List.length_nil] at this
    obtain ⟨r', h2, rfl⟩ := Option.map_eq_some_iff.1 h
    have := endL_len h2
    exact popL_len (by omega)
  split at h
  · rename_i h1
    have := trimP_len h1
    simp only [List.length_cons, List.length_nil] at this
    have h3 := stepBegin_len h
    cases x with
    | inl m => exact ⟨by have := h3.1; omega, h3.2⟩
    | inr y => have : y.2.1.length < (Lib.trimPrefix r [60]).length := h3; show y.2.1.length < r.length; omega
  rename_i h4
  split at h
  · cases h
  · rename_i h5
    obtain ⟨t, h2, rfl⟩ := Option.map_eq_some_iff.1 h
    have := index_pos (by simpa using h4) h5
    exact ⟨by simp only [List.length_drop]; omega, by simp⟩
theorem runL_fuel : ∀ (n k : Nat) (m : Ma), m.r.length < n → m.r.length < k → runL n m = runL k m := by
  intro n
  induction n with
  | zero => intro k m h; omega
  | succ n ih =>
    intro k m h1 h2
    obtain ⟨k, rfl⟩ : ∃ j, k = j + 1 := ⟨k - 1, by omega⟩
    obtain ⟨r, S, cnt, full⟩ := m
    cases S with
    | nil => rfl
    | cons f S =>
      unfold runL
      cases hs : stepL r f S cnt full with
      | none => rfl
      | some x =>
        cases x with
        | inr y => rfl
        | inl m =>
          have := (stepL_len hs).1
          simp only at h1 h2
          exact ih k m (by omega) (by omega)
/-- What runs on behind an element. -/
def onL (x : Ma ⊕ Res) : Option Res := match x with
  | .inr y => some y
  | .inl m => runL (m.r.length + 1) m
theorem runL_step {r : Bs} {f : Fr} {S : List Fr} {cnt : Nat} {full : Bool} : runL (r.length + 1) ⟨r, f :: S, cnt, full⟩ = (stepL r f S cnt full).bind onL := by
  conv => lhs; unfold runL
  cases hs : stepL r f S cnt full with
  | none => rfl
  | some x =>
    cases x with
    | inr y => rfl
    | inl m => exact runL_fuel _ _ _ (by have := (stepL_len hs).1; omega) (by omega)
theorem inL_len : ∀ (n : Nat) {r : Bs} {f : Fr} {deep cnt : Nat} {full : Bool} {x : Res}, inL n r f deep cnt full = some x → x.2.1.length < r.length := by
  intro n
  induction n with
  | zero => intro _ _ _ _ _ _ h; cases h
  | succ n ih =>
    intro r f deep cnt full x h
    unfold inL at h
    split at h
    · rename_i h1
      have := trimP_len h1
      have h4 : noteO.length = 4 := rfl
      have := cut_len (Lib.trimPrefix r noteO) noteC
      split at h
      · have := ih h; omega
      · cases h
    split at h
    · rename_i h1
      have := trimP_len h1
      have h4 : cdO.length = 9 := rfl
      have := cut_len (Lib.trimPrefix r cdO) cdC
      split at h
      · have := ih h; omega
      · cases h
    split at h
    · rename_i h1
      have := trimP_len h1
      simp only [List.length_cons, List.length_nil] at this
      obtain ⟨r', h2, rfl⟩ := Option.map_eq_some_iff.1 h
      have := endL_len h2
      simp only; omega
    split at h
    · rename_i h1
      have := trimP_len h1
      simp only [List.length_cons, List.length_nil] at this
      split at h
      · cases h
      · rename_i h2; have := beginL_len h2; have := ih h; omega
      · rename_i h2
        have := beginL_len h2
        split at h
        · cases h
        · rename_i h3; have := ih h3; have := ih h; simp only at *; omega
    rename_i h4
    split at h
    · cases h
    · rename_i h5
      have := index_pos (by simpa using h4) h5
      split at h
      · cases h
      · have := ih h
        simp only [List.length_drop] at this; omega
theorem run_in : ∀ (n : Nat) (r : Bs) (f : Fr) (S : List Fr) (cnt : Nat) (full : Bool), r.length < n →
    runL (r.length + 1) ⟨r, f :: S, cnt, full⟩ = (inL n r f (S.length + 1) cnt full).bind fun x => onL (popL x.1 x.2.1 S x.2.2.1 x.2.2.2) := by
  intro n
  induction n with
  | zero => intro r _ _ _ _ h; omega
  | succ n ih =>
    intro r f S cnt full hn
    rw [runL_step]
    unfold stepL inL
    split
    · rename_i h1
      have := trimP_len h1
      have h4 : noteO.length = 4 := rfl
      have := cut_len (Lib.trimPrefix r noteO) noteC
      split
      · exact ih _ f S cnt full (by omega)
      · rfl
    split
    · rename_i h1
      have := trimP_len h1
      have h4 : cdO.length = 9 := rfl
      have := cut_len (Lib.trimPrefix r cdO) cdC
      split
      · exact ih _ _ S cnt full (by omega)
      · rfl
    split
    · cases endL f (Lib.trimPrefix r [60, 47]) with
      | none => rfl
      | some r' => rfl
    split
    · rename_i h1
      have := trimP_len h1
      simp only [List.length_cons, List.length_nil] at this
      unfold stepBegin
      cases hb : beginL f.bs (Lib.trimPrefix r [60]) with
      | none => rfl
      | some y =>
        obtain ⟨g, emp, r', k⟩ := y
        have := beginL_len hb
        cases emp
        · have h2 := ih r' g (f :: S) (cnt + 1) (fullB full (cnt + 1) (S.length + 1 + 1) k) (by omega)
          simp only [List.length_cons] at h2
          show runL (r'.length + 1) ⟨r', g :: f :: S, cnt + 1, fullB full (cnt + 1) (S.length + 1 + 1) k⟩ = _
          rw [h2]
          cases hi : inL n r' g (S.length + 1 + 1) (cnt + 1) (fullB full (cnt + 1) (S.length + 1 + 1) k) with
          | none => simp only [hi]; rfl
          | some x =>
            obtain ⟨e, r2, c2, f2⟩ := x
            have := inL_len n hi
            simp only [hi]
            exact ih r2 (f.kid e) S c2 f2 (by simp only at this; omega)
        · exact ih r' (f.kid g.el) S (cnt + 1) (fullB full (cnt + 1) (S.length + 1 + 1) k) (by omega)
    rename_i h4
    split
    · rfl
    · rename_i h5
      have := index_pos (by simpa using h4) h5
      cases unescA (r.take (Lib.index r [60]).toNat) with
      | none => rfl
      | some t => exact ih _ (f.txt t) S cnt full (by simp only [List.length_drop]; omega)
end Go.Proofs.YtllmdlpogjjmcaaDoor
