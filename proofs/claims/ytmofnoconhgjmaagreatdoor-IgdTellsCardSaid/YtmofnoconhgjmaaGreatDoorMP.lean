/- Texts of one proof, put together: Xmc, Xmd, Xp1, Xp2, Xp3, Xp4. -/
import Derived.Test.YtmofnoconhgjmaaGreatDoorXmb
import Derived.Lib.RuneBytes
/- xml.char, xml.entity. -/
namespace Go.Proofs.YtmofnoconhgjmaaGreatDoor
open Go.RowKit
set_option linter.unusedVariables false
set_option linter.unusedSimpArgs false

/-- Is a number a character's? -/
def charP (n : Int) : Prop := n = 9 ∨ n = 10 ∨ n = 13 ∨ (32 ≤ n ∧ n ≤ 55295) ∨ (57344 ≤ n ∧ n ≤ 65533) ∨ (65536 ≤ n ∧ n ≤ 1114111)
instance (n : Int) : Decidable (charP n) := by unfold charP; infer_instance
/-- A character's bytes, where a number is one's. -/
def chrO (q : Int × Bool) : Option (List UInt8) := if q.2 = true ∧ charP q.1 then some (Lib.encodeRune q.1) else none
def entH (d : List UInt8) : Option (List UInt8) := if (Lib.trimPrefix d [120]).length ≤ 6 then chrO (numR 16 1114111 (Lib.trimPrefix d [120])) else none
def entD (d : List UInt8) : Option (List UInt8) := if Lib.hasPrefix d [120] then entH d else chrO (numR 10 1114111 d)
/-- What stands between an & and a semicolon stands for. -/
def entL (s : List UInt8) : Option (List UInt8) :=
  if s = [108, 116] then some [60] else if s = [103, 116] then some [62] else if s = [97, 109, 112] then some [38] else if s = [113, 117, 111, 116] then some [34] else if s = [97, 112, 111, 115] then some [39]
  else if Lib.hasPrefix s [35] then entD (Lib.trimPrefix s [35]) else none
def EntPost (w : World) (o : Option (List UInt8)) (e : Ending) (w' : World) : Prop := e = .returned (.tuple #[str (o.getD []), .bool o.isSome]) ∧ w.grownBy w' none
end Go.Proofs.YtmofnoconhgjmaaGreatDoor
/- xml.unescape. -/
namespace Go.Proofs.YtmofnoconhgjmaaGreatDoor
open Go.RowKit
set_option linter.unusedVariables false

theorem index_le (s : List UInt8) : ∀ l : List UInt8, -1 ≤ Lib.index l s ∧ (0 ≤ Lib.index l s → Lib.index l s + s.length ≤ l.length) := by
  intro l
  induction l with
  | nil =>
    unfold Lib.index
    cases s with
    | nil => simp
    | cons _ _ => simp
  | cons x l ih =>
    unfold Lib.index
    split
    · rename_i h
      have := (List.isPrefixOf_iff_prefix.1 h).length_le
      exact ⟨by omega, fun _ => by omega⟩
    · split
      · exact ⟨by omega, fun h => by omega⟩
      · rename_i h
        have h' : Lib.index l s ≠ -1 := by simpa using h
        refine ⟨by omega, fun h0 => ?_⟩
        have := ih.2 (by omega)
        simp only [List.length_cons]
        omega
theorem cut_lens {l s : List UInt8} (h : (Lib.cut l s).2.2 = true) : (Lib.cut l s).1.length + s.length + (Lib.cut l s).2.1.length = l.length := by
  have h1 := index_le s l
  unfold Lib.cut at h ⊢
  by_cases h0 : 0 ≤ Lib.index l s
  · rw [if_pos h0]
    have := h1.2 h0
    simp only [List.length_take, List.length_drop]
    omega
  · rw [if_neg h0] at h; cases h
/-- What a text stands for. -/
def unesc : Nat → List UInt8 → Option (List UInt8)
  | 0, _ => none
  | n + 1, s => if (Lib.cut s [38]).2.2 then (if (Lib.cut (Lib.cut s [38]).2.1 [59]).2.2 then (entL (Lib.cut (Lib.cut s [38]).2.1 [59]).1).bind fun e => (unesc n (Lib.cut (Lib.cut s [38]).2.1 [59]).2.1).map fun o => (Lib.cut s [38]).1 ++ e ++ o else none) else some (Lib.cut s [38]).1
def unescA (s : List UInt8) : Option (List UInt8) := unesc (s.length + 1) s
theorem enc_len (r : Int) : (Lib.encodeRune r).length ≤ 4 := by
  unfold Lib.encodeRune Lib.encodeRuneZ
  rw [List.length_map]
  split
  · simp
  · split
    · simp
    · split
      · simp
      · split <;> simp
theorem chrO_len {q : Int × Bool} {e : List UInt8} (h : chrO q = some e) : e.length ≤ 4 := by
  unfold chrO at h
  split at h
  · cases h; exact enc_len _
  · cases h
theorem entL_len {s e : List UInt8} (h : entL s = some e) : e.length ≤ 4 := by
  unfold entL entD entH at h
  repeat' split at h
  all_goals first
    | (cases h; done)
    | (cases h; simp; done)
    | exact chrO_len h
theorem BldAt.keep {B b : Nat} {l : List UInt8} {w w' : World} (h : BldAt B b l w) (g : w.grownBy w' none) : BldAt B b l w' := by
  obtain ⟨hB, v, hb, hown, hne⟩ := h
  exact ⟨hB, v, gr_keep g hb (by simp), hown.kept g (by cases hv : v.ownBlock <;> simp), hne⟩
theorem IsBld.keep {B b : Nat} {l : List UInt8} {w w' : World} (h : IsBld B b l w) (g : w.grownBy w' none) : IsBld B b l w' := by
  rcases h with ⟨hB, v, hb, hown, hne⟩ | ⟨hB, v, hb, hown, hne⟩
  · exact .inl ⟨hB, v, gr_keep g hb (by simp), hown.kept g (by cases hv : v.ownBlock <;> simp), hne⟩
  · exact .inr ⟨hB, v, gr_keep g hb (by simp), hown.kept g (by cases hv : v.ownBlock <;> simp), hne⟩
end Go.Proofs.YtmofnoconhgjmaaGreatDoor
/- XML, plainly: elements, attributes, spaces; what a text is read ats: by a stack of elements, and by elements in one another. It speaks of no program. -/
namespace Go.Proofs.YtmofnoconhgjmaaGreatDoor
open Go.RowKit
set_option linter.unusedVariables false

abbrev Bs := List UInt8
abbrev At := Bs × Bs × Bs
/-- Elements, one behind the other. -/
inductive Fo where
  | nil : Fo
  | cons (s n : Bs) (ats : List At) (tx : Bs) (kids next : Fo) : Fo
/-- An element. -/
structure El where
  s : Bs
  n : Bs
  ats : List At
  tx : Bs
  kids : Fo
def Fo.len : Fo → Nat
  | .nil => 0
  | .cons _ _ _ _ _ next => next.len + 1
def Fo.snoc : Fo → El → Fo
  | .nil, e => .cons e.s e.n e.ats e.tx e.kids .nil
  | .cons s n ats tx k next, e => .cons s n ats tx k (next.snoc e)
theorem Fo.len_snoc (f : Fo) (e : El) : (f.snoc e).len = f.len + 1 := by
  induction f with
  | nil => rfl
  | cons s n ats tx k next _ ih => simp only [Fo.snoc, Fo.len, ih]
/-- An element that has begun: its prefix and name, space, attributes, text, elements; the prefixes' spaces, the later ones ahead. -/
structure Fr where
  p : Bs
  n : Bs
  s : Bs
  ats : List At
  tx : Bs
  kids : Fo
  bs : List (Bs × Bs)
def Fr.el (f : Fr) : El := ⟨f.s, f.n, f.ats, f.tx, f.kids⟩
def Fr.kid (f : Fr) (e : El) : Fr := { f with kids := f.kids.snoc e }
def Fr.txt (f : Fr) (t : Bs) : Fr := { f with tx := f.tx ++ t }
def nsT : Bs := [120, 109, 108, 110, 115]
def valQ (q : UInt8) (r : Bs) : Option (Bs × Bs) :=
  if (Lib.cut r [q]).2.2 && !(Lib.cut r [q]).1.contains 60 then (unescA (Lib.cut r [q]).1).map fun v => (v, (Lib.cut r [q]).2.1) else none
/-- An attribute's value, and the rest. -/
def valueL (r : Bs) : Option (Bs × Bs) :=
  if Lib.hasPrefix r [34] then valQ 34 (Lib.trimPrefix r [34]) else if Lib.hasPrefix r [39] then valQ 39 (Lib.trimPrefix r [39]) else none
/-- An attribute, and the rest. -/
def oneL (r : Bs) : Option (At × Bs) :=
  if (fullL r).1.2.2 && Lib.hasPrefix (Lib.trimLeftS (fullL r).2 blkL) [61] then
    (valueL (Lib.trimLeftS (Lib.trimPrefix (Lib.trimLeftS (fullL r).2 blkL) [61]) blkL)).map fun x => (((fullL r).1.1, (fullL r).1.2.1, x.1), x.2)
  else none
def sameF (a b : At) : Bool := decide (b.1 = a.1) && decide (b.2.1 = a.2.1)
def attrsL : Nat → Bs → List At → Option (List At × Bool × Bs)
  | 0, _, _ => none
  | n + 1, r, acc =>
    if Lib.hasPrefix (Lib.trimLeftS r blkL) [47, 62] then some (acc, true, Lib.trimPrefix (Lib.trimLeftS r blkL) [47, 62])
    else if Lib.hasPrefix (Lib.trimLeftS r blkL) [62] then some (acc, false, Lib.trimPrefix (Lib.trimLeftS r blkL) [62])
    else if (Lib.trimLeftS r blkL).length < r.length then
      match oneL (Lib.trimLeftS r blkL) with
      | none => none
      | some (a, r') => if acc.any (sameF a) then none else attrsL n r' (acc ++ [a])
    else none
def attrsA (r : Bs) : Option (List At × Bool × Bs) := attrsL (r.length + 1) r []
/-- A prefix's space; is there one? -/
def spcL (bs : List (Bs × Bs)) (p : Bs) : Bs × Bool := match bs.find? (fun x => decide (x.1 = p)) with
  | some x => (x.2, true)
  | none => ([], decide (p = []))
def isNs (a : At) : Bool := decide (a.1 = nsT) || (decide (a.1 = []) && decide (a.2.1 = nsT))
def nsOf (a : At) : Bs := if a.1 = nsT then a.2.1 else []
def bindB : List At → List (Bs × Bs) → List (Bs × Bs)
  | [], bs => bs
  | a :: l, bs => bindB l (if isNs a then (nsOf a, a.2.2) :: bs else bs)
def bindOk (l : List At) : Bool := l.all fun a => !(decide (a.1 = nsT) && decide (a.2.2 = []))
def atSp (bs : List (Bs × Bs)) (p : Bs) : Bs × Bool := if p = [] then ([], true) else spcL bs p
def sameA (s n : Bs) (y : At) : Bool := decide (s = y.1) && decide (n = y.2.1)
/-- The attributes with their spaces, as they come; are they right? -/
def attB (bs : List (Bs × Bs)) : List At → List At → List At × Bool
  | [], acc => (acc, true)
  | a :: l, acc => if isNs a then attB bs l acc else
    ((attB bs l (acc ++ [((atSp bs a.1).1, a.2.1, a.2.2)])).1, (atSp bs a.1).2 && !acc.any (sameA (atSp bs a.1).1 a.2.1) && (attB bs l (acc ++ [((atSp bs a.1).1, a.2.1, a.2.2)])).2)
def elemL (p n : Bs) (l : List At) (up : List (Bs × Bs)) : Option Fr :=
  if bindOk l && (spcL (bindB l up) p).2 && (attB (bindB l up) l []).2 then some ⟨p, n, (spcL (bindB l up) p).1, (attB (bindB l up) l []).1, [], .nil, bindB l up⟩ else none
/-- The beginning of an element: it, is it empty?, the rest, how many attributes it has. -/
def beginL (up : List (Bs × Bs)) (r : Bs) : Option (Fr × Bool × Bs × Nat) :=
  if (fullL r).1.2.2 then
    match attrsA (fullL r).2 with
    | none => none
    | some (l, emp, r') => (elemL (fullL r).1.1 (fullL r).1.2.1 l up).map fun f => (f, emp, r', l.length)
  else none
def cdO : Bs := [60, 33, 91, 67, 68, 65, 84, 65, 91]
def cdC : Bs := [93, 93, 62]
/-- The end of an element: the rest. -/
def endL (f : Fr) (r : Bs) : Option Bs :=
  if (fullL r).1.2.2 && decide ((fullL r).1.1 = f.p) && decide ((fullL r).1.2.1 = f.n) && Lib.hasPrefix (Lib.trimLeftS (fullL r).2 blkL) [62] then some (Lib.trimPrefix (Lib.trimLeftS (fullL r).2 blkL) [62]) else none
def fullB (full : Bool) (cnt deep k : Nat) : Bool := full || decide (64 < cnt) || decide (8 < deep) || decide (16 < k)
/-- What reads a document: the rest, the elements that have begun (the last one ahead), how many there were, is there too much? -/
structure Ma where
  r : Bs
  st : List Fr
  cnt : Nat
  full : Bool
/-- What has come to its end: the element, the rest, how many there were, is there too much? -/
abbrev Res := El × Bs × Nat × Bool
def popL (e : El) (r : Bs) (S : List Fr) (cnt : Nat) (full : Bool) : Ma ⊕ Res := match S with
  | [] => .inr (e, r, cnt, full)
  | g :: S => .inl ⟨r, g.kid e :: S, cnt, full⟩
def stepBegin (up : List (Bs × Bs)) (r : Bs) (S : List Fr) (cnt : Nat) (full : Bool) : Option (Ma ⊕ Res) := match beginL up r with
  | none => none
  | some (g, emp, r', k) => some (if emp then popL g.el r' S (cnt + 1) (fullB full (cnt + 1) (S.length + 1) k) else .inl ⟨r', g :: S, cnt + 1, fullB full (cnt + 1) (S.length + 1) k⟩)
/-- One step in an element. -/
def stepL (r : Bs) (f : Fr) (S : List Fr) (cnt : Nat) (full : Bool) : Option (Ma ⊕ Res) :=
  if Lib.hasPrefix r noteO then (if (Lib.cut (Lib.trimPrefix r noteO) noteC).2.2 then some (.inl ⟨(Lib.cut (Lib.trimPrefix r noteO) noteC).2.1, f :: S, cnt, full⟩) else none)
  else if Lib.hasPrefix r cdO then (if (Lib.cut (Lib.trimPrefix r cdO) cdC).2.2 then some (.inl ⟨(Lib.cut (Lib.trimPrefix r cdO) cdC).2.1, f.txt (Lib.cut (Lib.trimPrefix r cdO) cdC).1 :: S, cnt, full⟩) else none)
  else if Lib.hasPrefix r [60, 47] then (endL f (Lib.trimPrefix r [60, 47])).map fun r' => popL f.el r' S cnt full
  else if Lib.hasPrefix r [60] then stepBegin f.bs (Lib.trimPrefix r [60]) (f :: S) cnt full
  else if Lib.index r [60] < 0 then none
  else (unescA (r.take (Lib.index r [60]).toNat)).map fun t => .inl ⟨r.drop (Lib.index r [60]).toNat, f.txt t :: S, cnt, full⟩
def runL : Nat → Ma → Option Res
  | 0, _ => none
  | n + 1, ⟨r, [], cnt, full⟩ => none
  | n + 1, ⟨r, f :: S, cnt, full⟩ => match stepL r f S cnt full with
    | none => none
    | some (.inr x) => some x
    | some (.inl m) => runL n m
/-- The same, element in element. -/
def inL : Nat → Bs → Fr → Nat → Nat → Bool → Option Res
  | 0, _, _, _, _, _ => none
  | n + 1, r, f, deep, cnt, full =>
    if Lib.hasPrefix r noteO then (if (Lib.cut (Lib.trimPrefix r noteO) noteC).2.2 then inL n (Lib.cut (Lib.trimPrefix r noteO) noteC).2.1 f deep cnt full else none)
    else if Lib.hasPrefix r cdO then (if (Lib.cut (Lib.trimPrefix r cdO) cdC).2.2 then inL n (Lib.cut (Lib.trimPrefix r cdO) cdC).2.1 (f.txt (Lib.cut (Lib.trimPrefix r cdO) cdC).1) deep cnt full else none)
    else if Lib.hasPrefix r [60, 47] then (endL f (Lib.trimPrefix r [60, 47])).map fun r' => (f.el, r', cnt, full)
    else if Lib.hasPrefix r [60] then
      match beginL f.bs (Lib.trimPrefix r [60]) with
      | none => none
      | some (g, true, r', k) => inL n r' (f.kid g.el) deep (cnt + 1) (fullB full (cnt + 1) (deep + 1) k)
      | some (g, false, r', k) => match inL n r' g (deep + 1) (cnt + 1) (fullB full (cnt + 1) (deep + 1) k) with
        | none => none
        | some (e, r'', cnt', full') => inL n r'' (f.kid e) deep cnt' full'
    else if Lib.index r [60] < 0 then none
    else match unescA (r.take (Lib.index r [60]).toNat) with
      | none => none
      | some t => inL n (r.drop (Lib.index r [60]).toNat) (f.txt t) deep cnt full
/-- The elements from the place behind the first < on. -/
def rootL (up : List (Bs × Bs)) (r : Bs) : Option Res := match stepBegin up r [] 0 false with
  | none => none
  | some (.inr x) => some x
  | some (.inl m) => runL (m.r.length + 1) m
def xmlB : List (Bs × Bs) := [([120, 109, 108], [104, 116, 116, 112, 58, 47, 47, 119, 119, 119, 46, 119, 51, 46, 111, 114, 103, 47, 88, 77, 76, 47, 49, 57, 57, 56, 47, 110, 97, 109, 101, 115, 112, 97, 99, 101])]
def decO : Bs := [60, 63, 120, 109, 108]
def decC : Bs := [63, 62]
def docHead (r : Bs) : Option Bs := if Lib.hasPrefix r decO then (if (Lib.cut (Lib.trimPrefix r decO) decC).2.2 then some (Lib.cut (Lib.trimPrefix r decO) decC).2.1 else none) else some r
def docBeg (r : Bs) : Option Bs := ((docHead r).bind miscA).bind fun r' => if Lib.hasPrefix r' [60] then some (Lib.trimPrefix r' [60]) else none
/-- A document: its element; is there too much? -/
def docL (r : Bs) : Option (El × Bool) := ((docBeg r).bind (rootL xmlB)).bind fun x => if miscA x.2.1 = some [] then some (x.1, x.2.2.2) else none
def El.zero : El := ⟨[], [], [], [], .nil⟩
def parseL (r : Bs) : El × Nat := if 8192 < r.length then (El.zero, 14) else match docL r with
  | none => (El.zero, 11)
  | some (e, full) => if !plainB r then (El.zero, 11) else if full then (El.zero, 20) else (e, 0)

theorem valueL_len {r v r' : Bs} (h : valueL r = some (v, r')) : r'.length < r.length := by
  unfold valueL valQ at h
  split at h
  · rename_i h1
    have := trimP_len h1
    simp only [List.length_cons, List.length_nil] at this
    split at h
    · obtain ⟨a, -, e⟩ := Option.map_eq_some_iff.1 h
      cases e
      have := cut_len (Lib.trimPrefix r [34]) [34]
      omega
    · cases h
  · split at h
    · rename_i h1
      have := trimP_len h1
      simp only [List.length_cons, List.length_nil] at this
      split at h
      · obtain ⟨a, -, e⟩ := Option.map_eq_some_iff.1 h
        cases e
        have := cut_len (Lib.trimPrefix r [39]) [39]
        omega
      · cases h
    · cases h
theorem oneL_len {r r' : Bs} {a : At} (h : oneL r = some (a, r')) : r'.length < r.length := by
  unfold oneL at h
  split at h
  · obtain ⟨x, hx, e⟩ := Option.map_eq_some_iff.1 h
    cases e
    have h1 := valueL_len (v := x.1) (r' := x.2) hx
    have h2 := trimS_len (Lib.trimPrefix (Lib.trimLeftS (fullL r).2 blkL) [61])
    have h3 := trim_len (Lib.trimLeftS (fullL r).2 blkL) [61]
    have h4 := trimS_len (fullL r).2
    have h5 := fullL_len r
    omega
  · cases h
theorem attrsL_len {n : Nat} {r r' : Bs} {acc l : List At} {b : Bool} (h : attrsL n r acc = some (l, b, r')) : r'.length < r.length := by
  induction n generalizing r acc with
  | zero => cases h
  | succ n ih =>
    unfold attrsL at h
    have h0 := trimS_len r
    split at h
    · rename_i h1
      have := trimP_len h1
      simp only [List.length_cons, List.length_nil] at this
      cases h; omega
    · split at h
      · rename_i h1
        have := trimP_len h1
        simp only [List.length_cons, List.length_nil] at this
        cases h; omega
      · split at h
        · split at h
          · cases h
          · rename_i a r2 h2
            have := oneL_len h2
            split at h
            · cases h
            · have := ih h; omega
        · cases h
theorem beginL_len {up : List (Bs × Bs)} {r r' : Bs} {f : Fr} {b : Bool} {k : Nat} (h : beginL up r = some (f, b, r', k)) : r'.length < r.length := by
  unfold beginL at h
  split at h
  · split at h
    · cases h
    · rename_i l emp r2 h2
      obtain ⟨x, _, e⟩ := Option.map_eq_some_iff.1 h
      cases e
      have := attrsL_len h2
      have := fullL_len r
      omega
  · cases h
theorem endL_len {f : Fr} {r r' : Bs} (h : endL f r = some r') : r'.length < r.length := by
  unfold endL at h
  split at h
  · rename_i h1
    simp only [Bool.and_eq_true] at h1
    have := trimP_len h1.2
    simp only [List.length_cons, List.length_nil] at this
    have h4 := trimS_len (fullL r).2
    have h5 := fullL_len r
    cases h; omega
  · cases h
theorem index_pos {r : Bs} (h : Lib.hasPrefix r [60] = false) (h0 : ¬ Lib.index r [60] < 0) : 1 ≤ (Lib.index r [60]).toNat ∧ (Lib.index r [60]).toNat < r.length := by
  have h1 := (index_le [60] r).2 (by omega)
  simp only [List.length_cons, List.length_nil] at h1
  refine ⟨?_, by omega⟩
  cases r with
  | nil => simp at h1; omega
  | cons x r =>
    have hp : [60].isPrefixOf (x :: r) = false := h
    unfold Lib.index at h0 ⊢
    rw [hp] at h0 ⊢
    simp only [Bool.false_eq_true, if_false] at h0 ⊢
    split at h0
    · omega
    · split
      · rename_i h1 h2; exact absurd h2 h1
      · have := (index_le [60] r).1; rename_i h1 h2; have : Lib.index r [60] ≠ -1 := by simpa using h1
        omega
def stepped (r : Bs) : Ma ⊕ Res → Prop
  | .inl m => m.r.length < r.length ∧ m.st ≠ []
  | .inr x => x.2.1.length < r.length
theorem popL_len {e : El} {r r0 : Bs} {S : List Fr} {cnt : Nat} {full : Bool} (h : r.length < r0.length) : stepped r0 (popL e r S cnt full) := by
  cases S with
  | nil => exact h
  | cons g S => exact ⟨h, by simp⟩
theorem stepBegin_len {up : List (Bs × Bs)} {r : Bs} {S : List Fr} {cnt : Nat} {full : Bool} {x : Ma ⊕ Res} (h : stepBegin up r S cnt full = some x) : stepped r x := by
  unfold stepBegin at h
  split at h
  · cases h
  · rename_i g emp r' k h1
    have := beginL_len h1
    simp only [Option.some.injEq] at h
    subst h
    split
    · exact popL_len this
    · exact ⟨this, by simp⟩
theorem stepL_len {r : Bs} {f : Fr} {S : List Fr} {cnt : Nat} {full : Bool} {x : Ma ⊕ Res} (h : stepL r f S cnt full = some x) : stepped r x := by
  unfold stepL at h
  split at h
  · rename_i h1
    have := trimP_len h1
    have h4 : noteO.length = 4 := rfl
    have := cut_len (Lib.trimPrefix r noteO) noteC
    split at h
    · cases h; exact ⟨by simp only; omega, by simp⟩
    · cases h
  split at h
  · rename_i h1
    have := trimP_len h1
    have h4 : cdO.length = 9 := rfl
    have := cut_len (Lib.trimPrefix r cdO) cdC
    split at h
    · cases h; exact ⟨by simp only; omega, by simp⟩
    · cases h
  split at h
  · rename_i h1
    have := trimP_len h1
    simp only [List.length_cons, List.length_nil] at this
    obtain ⟨r', h2, rfl⟩ := Option.map_eq_some_iff.1 h
    have := endL_len h2
    exact popL_len (by omega)
  split at h
  · rename_i h1
    have := trimP_len h1
    simp only [List.length_cons, List.length_nil] at this
    have h3 := stepBegin_len h
    cases x with
    | inl m => exact ⟨by have := h3.1; omega, h3.2⟩
    | inr y => have : y.2.1.length < (Lib.trimPrefix r [60]).length := h3; show y.2.1.length < r.length; omega
  rename_i h4
  split at h
  · cases h
  · rename_i h5
    obtain ⟨t, h2, rfl⟩ := Option.map_eq_some_iff.1 h
    have := index_pos (by simpa using h4) h5
    exact ⟨by simp only [List.length_drop]; omega, by simp⟩
theorem runL_fuel : ∀ (n k : Nat) (m : Ma), m.r.length < n → m.r.length < k → runL n m = runL k m := by
  intro n
  induction n with
  | zero => intro k m h; omega
  | succ n ih =>
    intro k m h1 h2
    obtain ⟨k, rfl⟩ : ∃ j, k = j + 1 := ⟨k - 1, by omega⟩
    obtain ⟨r, S, cnt, full⟩ := m
    cases S with
    | nil => rfl
    | cons f S =>
      unfold runL
      cases hs : stepL r f S cnt full with
      | none => rfl
      | some x =>
        cases x with
        | inr y => rfl
        | inl m =>
          have := (stepL_len hs).1
          simp only at h1 h2
          exact ih k m (by omega) (by omega)
/-- What runs on behind an element. -/
def onL (x : Ma ⊕ Res) : Option Res := match x with
  | .inr y => some y
  | .inl m => runL (m.r.length + 1) m
theorem runL_step {r : Bs} {f : Fr} {S : List Fr} {cnt : Nat} {full : Bool} : runL (r.length + 1) ⟨r, f :: S, cnt, full⟩ = (stepL r f S cnt full).bind onL := by
  conv => lhs; unfold runL
  cases hs : stepL r f S cnt full with
  | none => rfl
  | some x =>
    cases x with
    | inr y => rfl
    | inl m => exact runL_fuel _ _ _ (by have := (stepL_len hs).1; omega) (by omega)
theorem inL_len : ∀ (n : Nat) {r : Bs} {f : Fr} {deep cnt : Nat} {full : Bool} {x : Res}, inL n r f deep cnt full = some x → x.2.1.length < r.length := by
  intro n
  induction n with
  | zero => intro _ _ _ _ _ _ h; cases h
  | succ n ih =>
    intro r f deep cnt full x h
    unfold inL at h
    split at h
    · rename_i h1
      have := trimP_len h1
      have h4 : noteO.length = 4 := rfl
      have := cut_len (Lib.trimPrefix r noteO) noteC
      split at h
      · have := ih h; omega
      · cases h
    split at h
    · rename_i h1
      have := trimP_len h1
      have h4 : cdO.length = 9 := rfl
      have := cut_len (Lib.trimPrefix r cdO) cdC
      split at h
      · have := ih h; omega
      · cases h
    split at h
    · rename_i h1
      have := trimP_len h1
      simp only [List.length_cons, List.length_nil] at this
      obtain ⟨r', h2, rfl⟩ := Option.map_eq_some_iff.1 h
      have := endL_len h2
      simp only; omega
    split at h
    · rename_i h1
      have := trimP_len h1
      simp only [List.length_cons, List.length_nil] at this
      split at h
      · cases h
      · rename_i h2; have := beginL_len h2; have := ih h; omega
      · rename_i h2
        have := beginL_len h2
        split at h
        · cases h
        · rename_i h3; have := ih h3; have := ih h; simp only at *; omega
    rename_i h4
    split at h
    · cases h
    · rename_i h5
      have := index_pos (by simpa using h4) h5
      split at h
      · cases h
      · have := ih h
        simp only [List.length_drop] at this; omega
theorem run_in : ∀ (n : Nat) (r : Bs) (f : Fr) (S : List Fr) (cnt : Nat) (full : Bool), r.length < n →
    runL (r.length + 1) ⟨r, f :: S, cnt, full⟩ = (inL n r f (S.length + 1) cnt full).bind fun x => onL (popL x.1 x.2.1 S x.2.2.1 x.2.2.2) := by
  intro n
  induction n with
  | zero => intro r _ _ _ _ h; omega
  | succ n ih =>
    intro r f S cnt full hn
    rw [runL_step]
    unfold stepL inL
    split
    · rename_i h1
      have := trimP_len h1
      have h4 : noteO.length = 4 := rfl
      have := cut_len (Lib.trimPrefix r noteO) noteC
      split
      · exact ih _ f S cnt full (by omega)
      · rfl
    split
    · rename_i h1
      have := trimP_len h1
      have h4 : cdO.length = 9 := rfl
      have := cut_len (Lib.trimPrefix r cdO) cdC
      split
      · exact ih _ _ S cnt full (by omega)
      · rfl
    split
    · cases endL f (Lib.trimPrefix r [60, 47]) with
      | none => rfl
      | some r' => rfl
    split
    · rename_i h1
      have := trimP_len h1
      simp only [List.length_cons, List.length_nil] at this
      unfold stepBegin
      cases hb : beginL f.bs (Lib.trimPrefix r [60]) with
      | none => rfl
      | some y =>
        obtain ⟨g, emp, r', k⟩ := y
        have := beginL_len hb
        cases emp
        · have h2 := ih r' g (f :: S) (cnt + 1) (fullB full (cnt + 1) (S.length + 1 + 1) k) (by omega)
          simp only [List.length_cons] at h2
          show runL (r'.length + 1) ⟨r', g :: f :: S, cnt + 1, fullB full (cnt + 1) (S.length + 1 + 1) k⟩ = _
          rw [h2]
          cases hi : inL n r' g (S.length + 1 + 1) (cnt + 1) (fullB full (cnt + 1) (S.length + 1 + 1) k) with
          | none => simp only [hi]; rfl
          | some x =>
            obtain ⟨e, r2, c2, f2⟩ := x
            have := inL_len n hi
            simp only [hi]
            exact ih r2 (f.kid e) S c2 f2 (by simp only at this; omega)
        · exact ih r' (f.kid g.el) S (cnt + 1) (fullB full (cnt + 1) (S.length + 1 + 1) k) (by omega)
    rename_i h4
    split
    · rfl
    · rename_i h5
      have := index_pos (by simpa using h4) h5
      cases unescA (r.take (Lib.index r [60]).toNat) with
      | none => rfl
      | some t => exact ih _ (f.txt t) S cnt full (by simp only [List.length_drop]; omega)
end Go.Proofs.YtmofnoconhgjmaaGreatDoor
/- What a text stands for, byte by byte; an entity as the document's answer tells it. It speaks of no program. -/
namespace Go.Proofs.YtmofnoconhgjmaaGreatDoor
open Go.RowKit
set_option linter.unusedVariables false
set_option linter.unusedSimpArgs false

theorem pre_one (c q : UInt8) (t : Bs) : Lib.hasPrefix (c :: t) [q] = (q == c) := by
  unfold Lib.hasPrefix
  simp [List.isPrefixOf]
theorem idx_cons (c q : UInt8) (t : Bs) (h : c ≠ q) : Lib.index (c :: t) [q] = if Lib.index t [q] = -1 then -1 else Lib.index t [q] + 1 := by
  have hp : [q].isPrefixOf (c :: t) = false := by simp [List.isPrefixOf]; exact fun e => h e.symm
  conv => lhs; unfold Lib.index
  rw [hp]
  simp
theorem cut_cons (c q : UInt8) (t : Bs) (h : c ≠ q) : Lib.cut (c :: t) [q] = (c :: (Lib.cut t [q]).1, (Lib.cut t [q]).2.1, (Lib.cut t [q]).2.2) := by
  have h1 := index_le [q] t
  have h2 := idx_cons c q t h
  unfold Lib.cut
  by_cases h0 : 0 ≤ Lib.index t [q]
  · rw [if_pos h0]
    rw [if_neg (by omega)] at h2
    rw [h2, if_pos (by omega)]
    obtain ⟨k, hk⟩ : ∃ k : Nat, Lib.index t [q] = k := ⟨(Lib.index t [q]).toNat, by omega⟩
    rw [hk, show ((k : Int) + 1).toNat = k + 1 by omega, show ((k : Int)).toNat = k by omega]
    simp [Nat.add_right_comm]
  · rw [if_neg h0]
    rw [if_pos (by omega)] at h2
    rw [h2, if_neg (by omega)]
theorem cut_same (q : UInt8) (t : Bs) : Lib.cut (q :: t) [q] = ([], t, true) := by
  have hp : [q].isPrefixOf (q :: t) = true := by simp [List.isPrefixOf]
  unfold Lib.cut Lib.index
  rw [hp]
  simp
theorem unesc_fuel : ∀ (n k : Nat) (s : Bs), s.length < n → s.length < k → unesc n s = unesc k s := by
  intro n
  induction n with
  | zero => intro k s h; omega
  | succ n ih =>
    intro k s h1 h2
    obtain ⟨k, rfl⟩ : ∃ j, k = j + 1 := ⟨k - 1, by omega⟩
    unfold unesc
    have hl1 := cut_lens (l := s) (s := [38])
    have hl2 := cut_lens (l := (Lib.cut s [38]).2.1) (s := [59])
    cases h3 : (Lib.cut s [38]).2.2
    · rfl
    · have hl1' := hl1 h3
      cases h4 : (Lib.cut (Lib.cut s [38]).2.1 [59]).2.2
      · rfl
      · have hl2' := hl2 h4
        simp only [List.length_cons, List.length_nil] at hl1' hl2'
        rw [ih k _ (by omega) (by omega)]
theorem unescA_nil : unescA [] = some [] := rfl
theorem unescA_char (c : UInt8) (t : Bs) (h : c ≠ 38) : unescA (c :: t) = (unescA t).map (c :: ·) := by
  unfold unescA
  rw [show (c :: t).length + 1 = (t.length + 1) + 1 from rfl]
  conv => lhs; unfold unesc
  conv => rhs; unfold unesc
  rw [cut_cons c 38 t h]
  have hl1 := cut_lens (l := t) (s := [38])
  have hl2 := cut_lens (l := (Lib.cut t [38]).2.1) (s := [59])
  cases h3 : (Lib.cut t [38]).2.2
  · rfl
  · cases h4 : (Lib.cut (Lib.cut t [38]).2.1 [59]).2.2
    · simp only [if_true, h4]; rfl
    · have hl1' := hl1 h3
      have hl2' := hl2 h4
      simp only [List.length_cons, List.length_nil] at hl1' hl2'
      simp only [if_true, h4]
      rw [unesc_fuel (t.length + 1) t.length _ (by omega) (by omega)]
      cases entL (Lib.cut (Lib.cut t [38]).2.1 [59]).1 with
      | none => rfl
      | some e =>
        cases unesc t.length (Lib.cut (Lib.cut t [38]).2.1 [59]).2.1 with
        | none => rfl
        | some o => rfl
theorem unescA_amp (t : Bs) : unescA (38 :: t) = if (Lib.cut t [59]).2.2 then (entL (Lib.cut t [59]).1).bind fun e => (unescA (Lib.cut t [59]).2.1).map fun o => e ++ o else none := by
  unfold unescA
  conv => lhs; unfold unesc
  rw [cut_same]
  have hl2 := cut_lens (l := t) (s := [59])
  cases h4 : (Lib.cut t [59]).2.2
  · simp only [if_true, h4]; rfl
  · have hl2' := hl2 h4
    simp only [List.length_cons, List.length_nil] at hl2'
    simp only [if_true, h4]
    rw [unesc_fuel _ ((Lib.cut t [59]).2.1.length + 1) _ (by simp only [List.length_cons]; omega) (by omega)]
    rfl
/-- The entities' names and characters. -/
def entN : List Bs := [[108, 116], [103, 116], [97, 109, 112], [113, 117, 111, 116], [97, 112, 111, 115]]
def entC : List Bs := [[60], [62], [38], [34], [39]]
/-- What the first m of them give. -/
def fndE (w : Bs) (m : Nat) : Bool := (entN.take m).any fun n => decide (w = n)
def chrE (w : Bs) (m : Nat) : Bs := (((entN.zip entC).take m).map fun x => if w = x.1 then x.2 else []).flatten
theorem chrE_len (w : Bs) : ∀ m, (chrE w m).length ≤ 5 := by
  intro m
  have h1 : ∀ l : List (Bs × Bs), (∀ x ∈ l, x.2.length ≤ 1) → ((l.map fun x => if w = x.1 then x.2 else []).flatten).length ≤ l.length := by
    intro l
    induction l with
    | nil => intro _; simp
    | cons x l ih =>
      intro h
      have := ih (fun y hy => h y (List.mem_cons_of_mem _ hy))
      have h2 := h x List.mem_cons_self
      simp only [List.map_cons, List.flatten_cons, List.length_append, List.length_cons]
      split
      · omega
      · simp only [List.length_nil]; omega
  have h3 := h1 ((entN.zip entC).take m) (fun x hx => by
    have hm : x ∈ [(([108, 116] : Bs), ([60] : Bs)), ([103, 116], [62]), ([97, 109, 112], [38]), ([113, 117, 111, 116], [34]), ([97, 112, 111, 115], [39])] := List.mem_of_mem_take hx
    simp only [List.mem_cons, List.not_mem_nil, or_false] at hm
    rcases hm with rfl | rfl | rfl | rfl | rfl <;> decide)
  have h4 : ((entN.zip entC).take m).length ≤ 5 := by rw [List.length_take]; have : (entN.zip entC).length = 5 := rfl; omega
  unfold chrE
  omega
theorem fndE_step (w : Bs) (m : Nat) (hm : m < 5) : fndE w (m + 1) = (fndE w m || decide (w = entN.getD m [])) := by
  match m, hm with
  | 0, _ => simp [fndE, entN]
  | 1, _ => simp [fndE, entN]
  | 2, _ => simp [fndE, entN, Bool.or_assoc]
  | 3, _ => simp [fndE, entN, Bool.or_assoc]
  | 4, _ => simp [fndE, entN, Bool.or_assoc]
theorem chrE_step (w : Bs) (m : Nat) (hm : m < 5) : chrE w (m + 1) = chrE w m ++ (if w = entN.getD m [] then entC.getD m [] else []) := by
  match m, hm with
  | 0, _ => simp [chrE, entN, entC]
  | 1, _ => simp [chrE, entN, entC]
  | 2, _ => simp [chrE, entN, entC]
  | 3, _ => simp [chrE, entN, entC]
  | 4, _ => simp [chrE, entN, entC]
/-- The number that an entity tells. -/
def numE (w : Bs) : Int × Bool :=
  if 2 < w.length ∧ w.take 2 = [35, 120] ∧ w.length ≤ 8 then numR 16 1114111 (w.drop 2) else if 1 < w.length ∧ w.getD 0 0 = 35 ∧ w.getD 1 0 ≠ 120 then numR 10 1114111 (w.drop 1) else (0, false)
theorem numR_nil (b m : Int) : numR b m [] = (0, false) := rfl
theorem chrO_no (n : Int) : chrO (n, false) = none := by unfold chrO; simp
theorem ent_found (w : Bs) (h : fndE w 5 = true) : entL w = some (chrE w 5) := by
  simp only [fndE, entN, List.take, List.any_cons, List.any_nil, Bool.or_false, Bool.or_eq_true, decide_eq_true_eq] at h
  rcases h with rfl | rfl | rfl | rfl | rfl <;> decide
theorem ent_not (w : Bs) (h : fndE w 5 = false) : chrE w 5 = [] ∧ entL w = chrO (numE w) := by
  simp only [fndE, entN, List.take, List.any_cons, List.any_nil, Bool.or_false, Bool.or_eq_false_iff, decide_eq_false_iff_not] at h
  obtain ⟨h1, h2, h3, h4, h5⟩ := h
  refine ⟨by simp [chrE, entN, entC, h1, h2, h3, h4, h5], ?_⟩
  unfold entL
  rw [if_neg h1, if_neg h2, if_neg h3, if_neg h4, if_neg h5]
  match w with
  | [] => rfl
  | [c] =>
    rw [pre_one]
    have hn : numE [c] = (0, false) := rfl
    rw [hn, chrO_no]
    cases hc : ((35 : UInt8) == c)
    · rfl
    · obtain rfl : 35 = c := by simpa using hc
      rfl
  | c :: d :: t =>
    rw [pre_one]
    cases hc : ((35 : UInt8) == c)
    · have hn : numE (c :: d :: t) = (0, false) := by
        have : ¬ c = 35 := fun e => by rw [e] at hc; simp at hc
        unfold numE
        rw [if_neg (by simp [this]), if_neg (by simp [this])]
      rw [hn, chrO_no]; rfl
    · obtain rfl : 35 = c := by simpa using hc
      have ht : Lib.trimPrefix (35 :: d :: t) [35] = d :: t := by unfold Lib.trimPrefix; rw [pre_one]; simp
      rw [ht, if_pos rfl]
      unfold entD
      rw [pre_one]
      cases hd : ((120 : UInt8) == d)
      · have hd' : ¬ d = 120 := fun e => by rw [e] at hd; simp at hd
        have hn : numE (35 :: d :: t) = numR 10 1114111 (d :: t) := by
          unfold numE
          rw [if_neg (by simp [hd']), if_pos (by simp [hd'])]
          rfl
        rw [hn]; rfl
      · obtain rfl : 120 = d := by simpa using hd
        rw [if_pos rfl]
        unfold entH
        have ht2 : Lib.trimPrefix (120 :: t) [120] = t := by unfold Lib.trimPrefix; rw [pre_one]; simp
        rw [ht2]
        by_cases h6 : t.length ≤ 6
        · rw [if_pos h6]
          match t, h6 with
          | [], _ =>
            have hn : numE [35, 120] = (0, false) := by unfold numE; rw [if_neg (by simp), if_neg (by simp)]
            rw [hn, numR_nil]
          | x :: t, h6 =>
            have hn : numE (35 :: 120 :: x :: t) = numR 16 1114111 (x :: t) := by
              unfold numE
              rw [if_pos ⟨by simp, rfl, by simp at h6 ⊢; omega⟩]
              rfl
            rw [hn]
        · rw [if_neg h6]
          have hn : numE (35 :: 120 :: t) = (0, false) := by
            unfold numE
            rw [if_neg (by simp; omega), if_neg (by simp)]
          rw [hn, chrO_no]
theorem numGo_lo {base : Int} (hb : 0 ≤ base) : ∀ {l : Bs} {n x : Int}, 0 ≤ n → numGo base n l = some x → 0 ≤ x := by
  intro l
  induction l with
  | nil => intro n x hn h; simp [numGo] at h; omega
  | cons c l ih =>
    intro n x hn h
    unfold numGo at h
    split at h
    · cases h
    · exact ih (by have := (valN_bd c).1; have := Int.mul_nonneg hn hb; omega) h
theorem numR_bd {base most : Int} {l : Bs} (hb : 0 ≤ base) (h0 : 0 ≤ most) : 0 ≤ (numR base most l).1 ∧ (numR base most l).1 ≤ most := by
  unfold numR
  split
  · exact ⟨Int.le_refl _, h0⟩
  · unfold numFin
    split
    · exact ⟨Int.le_refl _, h0⟩
    · rename_i n hn
      have := numGo_lo hb (Int.le_refl 0) hn
      split
      · exact ⟨Int.le_refl _, h0⟩
      · exact ⟨this, by simp only; omega⟩
theorem numE_bd (w : Bs) : 0 ≤ (numE w).1 ∧ (numE w).1 ≤ 1114111 := by
  unfold numE
  split
  · exact numR_bd (by omega) (by omega)
  · split
    · exact numR_bd (by omega) (by omega)
    · exact ⟨Int.le_refl _, by simp⟩
end Go.Proofs.YtmofnoconhgjmaaGreatDoor
/- Bounds of what the parser holds: kept by each step. It speaks of no program. -/
namespace Go.Proofs.YtmofnoconhgjmaaGreatDoor
open Go.RowKit
set_option linter.unusedVariables false
set_option linter.unusedSimpArgs false

def sumK : List Fr → Nat
  | [] => 0
  | f :: S => f.kids.len + sumK S
/-- Each text is at most four times as long as what was read of it; elements are counted. -/
def Ma.ok (N : Nat) (m : Ma) : Prop := m.cnt + m.r.length ≤ N ∧ sumK m.st + m.st.length ≤ m.cnt ∧ ∀ f ∈ m.st, f.tx.length + 4 * m.r.length ≤ 4 * N
theorem unesc_len4 : ∀ (n : Nat) (s t : Bs), unesc n s = some t → t.length ≤ 4 * s.length := by
  intro n
  induction n with
  | zero => intro s t h; cases h
  | succ n ih =>
    intro s t h
    unfold unesc at h
    have h0 : (Lib.cut s [38]).1.length ≤ s.length := by
      unfold Lib.cut; split
      · simp only [List.length_take]; omega
      · simp
    split at h
    · rename_i h1
      have l1 := cut_lens h1
      split at h
      · rename_i h2
        have l2 := cut_lens h2
        simp only [List.length_cons, List.length_nil] at l1 l2
        obtain ⟨e, he, h⟩ := Option.bind_eq_some_iff.1 h
        obtain ⟨o, ho, rfl⟩ := Option.map_eq_some_iff.1 h
        have := entL_len he
        have := ih _ _ ho
        simp only [List.length_append]
        omega
      · cases h
    · cases h; omega
theorem unescA_len4 {s t : Bs} (h : unescA s = some t) : t.length ≤ 4 * s.length := unesc_len4 _ s t h
theorem Ma.ok.rest {N : Nat} {r r' : Bs} {S : List Fr} {cnt : Nat} {full : Bool} (h : Ma.ok N ⟨r, S, cnt, full⟩) (hl : r'.length ≤ r.length) : Ma.ok N ⟨r', S, cnt, full⟩ := by
  obtain ⟨h1, h2, h3⟩ := h
  simp only at h1 h2 h3
  exact ⟨by simp only; omega, h2, fun f hf => by have := h3 f hf; simp only; omega⟩
theorem Ma.ok.txt {N : Nat} {r r' t : Bs} {f : Fr} {S : List Fr} {cnt : Nat} {full : Bool} (h : Ma.ok N ⟨r, f :: S, cnt, full⟩) (hl : t.length + 4 * r'.length ≤ 4 * r.length) : Ma.ok N ⟨r', f.txt t :: S, cnt, full⟩ := by
  obtain ⟨h1, h2, h3⟩ := h
  simp only [sumK, List.length_cons] at h1 h2 h3
  refine ⟨by simp only; omega, by simp only [sumK, List.length_cons, Fr.txt]; omega, fun g hg => ?_⟩
  simp only
  rcases List.mem_cons.1 hg with rfl | hg
  · have := h3 f List.mem_cons_self
    simp only [Fr.txt, List.length_append]; omega
  · have := h3 g (List.mem_cons_of_mem _ hg)
    omega
end Go.Proofs.YtmofnoconhgjmaaGreatDoor
/- XML, plainly: an element with its beginning; bounds of what is read. It speaks of no program. -/
namespace Go.Proofs.YtmofnoconhgjmaaGreatDoor
open Go.RowKit
set_option linter.unusedVariables false
set_option linter.unusedSimpArgs false

/-- An element from behind its < on. -/
def elmL (n : Nat) (up : List (Bs × Bs)) (r : Bs) (deep cnt : Nat) (full : Bool) : Option Res := match beginL up r with
  | none => none
  | some (g, emp, r', k) => if emp then some (g.el, r', cnt + 1, fullB full (cnt + 1) deep k) else inL n r' g deep (cnt + 1) (fullB full (cnt + 1) deep k)
theorem inL_lt {n : Nat} {r : Bs} {f : Fr} {deep cnt : Nat} {full : Bool} (h1 : Lib.hasPrefix r noteO = false) (h2 : Lib.hasPrefix r cdO = false) (h3 : Lib.hasPrefix r [60, 47] = false) (h4 : Lib.hasPrefix r [60] = true) :
    inL (n + 1) r f deep cnt full = match elmL n f.bs (Lib.trimPrefix r [60]) (deep + 1) cnt full with
      | none => none
      | some x => inL n x.2.1 (f.kid x.1) deep x.2.2.1 x.2.2.2 := by
  conv => lhs; unfold inL
  rw [h1, h2, h3, h4]
  simp only [Bool.false_eq_true, if_false, if_true]
  unfold elmL
  cases hb : beginL f.bs (Lib.trimPrefix r [60]) with
  | none => rfl
  | some y =>
    obtain ⟨g, emp, r', k⟩ := y
    cases emp
    · simp only [Bool.false_eq_true, if_false]
      cases hi : inL n r' g (deep + 1) (cnt + 1) (fullB full (cnt + 1) (deep + 1) k) with
      | none => rfl
      | some x => rfl
    · rfl
theorem attrsL_sum {n : Nat} {r r' : Bs} {acc l : List At} {b : Bool} (h : attrsL n r acc = some (l, b, r')) : l.length + r'.length ≤ acc.length + r.length := by
  induction n generalizing r acc with
  | zero => cases h
  | succ n ih =>
    unfold attrsL at h
    have h0 := trimS_len r
    split at h
    · rename_i h1
      have := trimP_len h1
      cases h; omega
    · split at h
      · rename_i h1
        have := trimP_len h1
        cases h; omega
      · split at h
        · split at h
          · cases h
          · rename_i a r2 h2
            have := oneL_len h2
            split at h
            · cases h
            · have := ih h; simp only [List.length_append, List.length_cons, List.length_nil] at this; omega
        · cases h
theorem attrsA_sum {r r' : Bs} {l : List At} {b : Bool} (h : attrsA r = some (l, b, r')) : l.length + r'.length ≤ r.length := by
  have := attrsL_sum h
  simp only [List.length_nil] at this; omega
theorem attrsA_len {r r' : Bs} {l : List At} {b : Bool} (h : attrsA r = some (l, b, r')) : r'.length < r.length := attrsL_len h
theorem inL_cnt : ∀ (n : Nat) {r : Bs} {f : Fr} {deep cnt : Nat} {full : Bool} {x : Res}, inL n r f deep cnt full = some x → x.2.1.length + x.2.2.1 ≤ r.length + cnt := by
  intro n
  induction n with
  | zero => intro _ _ _ _ _ _ h; cases h
  | succ n ih =>
    intro r f deep cnt full x h
    unfold inL at h
    split at h
    · rename_i h1
      have := trimP_len h1
      have := cut_len (Lib.trimPrefix r noteO) noteC
      split at h
      · have := ih h; omega
      · cases h
    split at h
    · rename_i h1
      have := trimP_len h1
      have := cut_len (Lib.trimPrefix r cdO) cdC
      split at h
      · have := ih h; omega
      · cases h
    split at h
    · rename_i h1
      have := trimP_len h1
      obtain ⟨r', h2, rfl⟩ := Option.map_eq_some_iff.1 h
      have := endL_len h2
      simp only; omega
    split at h
    · rename_i h1
      have := trimP_len h1
      split at h
      · cases h
      · rename_i h2; have := beginL_len h2; have := ih h; omega
      · rename_i h2
        have := beginL_len h2
        split at h
        · cases h
        · rename_i h3; have := ih h3; have := ih h; simp only at *; omega
    rename_i h4
    split at h
    · cases h
    · rename_i h5
      split at h
      · cases h
      · have := ih h
        simp only [List.length_drop] at this; omega
theorem elmL_cnt {n : Nat} {up : List (Bs × Bs)} {r : Bs} {deep cnt : Nat} {full : Bool} {x : Res} (h : elmL n up r deep cnt full = some x) : x.2.1.length < r.length ∧ x.2.1.length + x.2.2.1 ≤ r.length + cnt := by
  unfold elmL at h
  split at h
  · cases h
  · rename_i g emp r' k hb
    have := beginL_len hb
    split at h
    · cases h; exact ⟨this, by simp only; omega⟩
    · have h1 := inL_len n h
      have h2 := inL_cnt n h
      exact ⟨by omega, by omega⟩
/-- The root: from the place behind the first < on. -/
theorem rootL_elm (up : List (Bs × Bs)) (r : Bs) : rootL up r = elmL (r.length + 1) up r 1 0 false := by
  unfold rootL stepBegin elmL
  cases hb : beginL up r with
  | none => rfl
  | some y =>
    obtain ⟨g, emp, r', k⟩ := y
    have hl := beginL_len hb
    cases emp
    · show runL (r'.length + 1) ⟨r', [g], 0 + 1, _⟩ = _
      rw [run_in (r.length + 1) r' g [] _ _ (by omega)]
      simp only [Bool.false_eq_true, if_false, List.length_nil]
      cases inL (r.length + 1) r' g (0 + 1) (0 + 1) (fullB false (0 + 1) (0 + 1) k) with
      | none => rfl
      | some x => rfl
    · rfl
theorem elemL_none {p n : Bs} {l : List At} {up : List (Bs × Bs)} (h : (bindOk l && (spcL (bindB l up) p).2 && (attB (bindB l up) l []).2) = false) : elemL p n l up = none := by
  unfold elemL; rw [h]; rfl
theorem elemL_some {p n : Bs} {l : List At} {up : List (Bs × Bs)} (h : (bindOk l && (spcL (bindB l up) p).2 && (attB (bindB l up) l []).2) = true) : elemL p n l up = some ⟨p, n, (spcL (bindB l up) p).1, (attB (bindB l up) l []).1, [], .nil, bindB l up⟩ := by
  unfold elemL; rw [h]; rfl
theorem attB_at (bs : List (Bs × Bs)) (a : At) (l acc : List At) (h : isNs a = false) : attB bs (a :: l) acc = ((attB bs l (acc ++ [((atSp bs a.1).1, a.2.1, a.2.2)])).1, (atSp bs a.1).2 && !acc.any (sameA (atSp bs a.1).1 a.2.1) && (attB bs l (acc ++ [((atSp bs a.1).1, a.2.1, a.2.2)])).2) := by
  conv => lhs; unfold attB
  rw [h]; rfl
end Go.Proofs.YtmofnoconhgjmaaGreatDoor
