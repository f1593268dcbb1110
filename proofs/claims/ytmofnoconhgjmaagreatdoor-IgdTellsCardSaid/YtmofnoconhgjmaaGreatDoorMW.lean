/- Texts of one proof, put together: Xt1, Xw1, Xw2, Xw3. -/
import Derived.Test.YtmofnoconhgjmaaGreatDoorMP
import Derived.Test.YtmofnoconhgjmaaGreatDoorMT
import Derived.Test.YtmofnoconhgjmaaGreatDoorRp6
import Derived.Test.YtmofnoconhgjmaaGreatDoorMF
/- What is read of an element with an escaped text, and an escaped attribute. It speaks of no program. -/
namespace Go.Proofs.YtmofnoconhgjmaaGreatDoor
open Go.RowKit
set_option linter.unusedVariables false
set_option linter.unusedSimpArgs false

abbrev escL (s : Bs) : Bs := repL escP s
theorem escL_cons (c : UInt8) (s : Bs) : escL (c :: s) = rpC escP c ++ escL s := rfl
theorem rpC_esc : ∀ c, (∃ x ∈ escP, x.1 = c ∧ rpC escP c = x.2) ∨ (rpC escP c = [c] ∧ c ≠ 38 ∧ c ≠ 60 ∧ c ≠ 62 ∧ c ≠ 34) := all_bytes (by decide +kernel)
theorem esc_free : ∀ c, ∀ d ∈ rpC escP c, d ≠ 34 ∧ d ≠ 60 ∧ d ≠ 62 := all_bytes (by decide +kernel)
theorem esc_plain : ∀ c, plainB (rpC escP c) = !ctlB c := all_bytes (by decide +kernel)
theorem escL_free (s : Bs) : ∀ d ∈ escL s, d ≠ 34 ∧ d ≠ 60 ∧ d ≠ 62 := by
  intro d hd
  obtain ⟨c, -, h⟩ := List.mem_flatMap.1 hd
  exact esc_free c d h
theorem plain_app (a b : Bs) : plainB (a ++ b) = (plainB a && plainB b) := by
  unfold plainB; rw [List.all_append]
theorem escL_plain (s : Bs) : plainB (escL s) = plainB s := by
  induction s with
  | nil => rfl
  | cons c s ih => rw [escL_cons, plain_app, ih, esc_plain]; rfl
theorem cut_free (x : Bs) (q : UInt8) (r : Bs) (h : ∀ d ∈ x, d ≠ q) : Lib.cut (x ++ q :: r) [q] = (x, r, true) := by
  induction x with
  | nil => exact cut_same q r
  | cons c x ih => rw [List.cons_append, cut_cons c q _ (h c (List.mem_cons_self ..)), ih (fun d hd => h d (List.mem_cons_of_mem _ hd))]
theorem idx_same (q : UInt8) (r : Bs) : Lib.index (q :: r) [q] = 0 := by
  have h := pre_one q q r
  unfold Lib.index
  first
    | simp [h]
    | (rw [if_pos]; simpa using h)
theorem idx_free (x : Bs) (q : UInt8) (r : Bs) (h : ∀ d ∈ x, d ≠ q) : Lib.index (x ++ q :: r) [q] = (x.length : Int) := by
  induction x with
  | nil => exact idx_same q r
  | cons c x ih =>
    rw [List.cons_append, idx_cons c q _ (h c (List.mem_cons_self ..)), ih (fun d hd => h d (List.mem_cons_of_mem _ hd)), if_neg (by omega), List.length_cons]
    omega
theorem unesc_esc (s : Bs) : unescA (escL s) = some s := by
  induction s with
  | nil => rfl
  | cons c s ih =>
    rw [escL_cons]
    rcases rpC_esc c with ⟨x, hx, rfl, e⟩ | ⟨e, h, -⟩
    · rw [e]
      simp only [escP, List.mem_cons, List.not_mem_nil, or_false] at hx
      rcases hx with rfl | rfl | rfl | rfl
      · rw [show ([38, 97, 109, 112, 59] : Bs) ++ escL s = 38 :: ([97, 109, 112] ++ 59 :: escL s) from rfl, unescA_amp, cut_free _ _ _ (by decide)]
        simp only [if_true, show entL [97, 109, 112] = some [38] by kernel_rfl, Option.bind_some, ih, Option.map_some]
        rfl
      · rw [show ([38, 108, 116, 59] : Bs) ++ escL s = 38 :: ([108, 116] ++ 59 :: escL s) from rfl, unescA_amp, cut_free _ _ _ (by decide)]
        simp only [if_true, show entL [108, 116] = some [60] by kernel_rfl, Option.bind_some, ih, Option.map_some]
        rfl
      · rw [show ([38, 103, 116, 59] : Bs) ++ escL s = 38 :: ([103, 116] ++ 59 :: escL s) from rfl, unescA_amp, cut_free _ _ _ (by decide)]
        simp only [if_true, show entL [103, 116] = some [62] by kernel_rfl, Option.bind_some, ih, Option.map_some]
        rfl
      · rw [show ([38, 113, 117, 111, 116, 59] : Bs) ++ escL s = 38 :: ([113, 117, 111, 116] ++ 59 :: escL s) from rfl, unescA_amp, cut_free _ _ _ (by decide)]
        simp only [if_true, show entL [113, 117, 111, 116] = some [34] by kernel_rfl, Option.bind_some, ih, Option.map_some]
        rfl
    · rw [e, List.singleton_append, unescA_char c _ h, ih]
      rfl
theorem val_t (x r s : Bs) (h : ∀ d ∈ x, d ≠ 34 ∧ d ≠ 60 ∧ d ≠ 62) (hu : unescA x = some s) : valueL (34 :: (x ++ 34 :: r)) = some (s, r) := by
  unfold valueL
  rw [show Lib.hasPrefix (34 :: (x ++ 34 :: r)) [34] = true from rfl]
  simp only [if_true]
  rw [show Lib.trimPrefix (34 :: (x ++ 34 :: r)) [34] = x ++ 34 :: r from rfl]
  unfold valQ
  rw [cut_free x 34 r (fun d hd => (h d hd).1)]
  have hc : x.contains 60 = false := by
    rw [Bool.eq_false_iff]
    intro e
    exact (h 60 (List.contains_iff_mem.1 e)).2.1 rfl
  simp only [hc, Bool.not_false, Bool.and_self, if_true, hu, Option.map_some]
theorem pre_not (c q : UInt8) (p t : Bs) (h : c ≠ q) : Lib.hasPrefix (c :: t) (q :: p) = false := by
  have h1 : (q == c) = false := by
    rw [beq_eq_false_iff_ne]
    exact fun e => h e.symm
  show (q == c && _) = false
  rw [h1]
  rfl
end Go.Proofs.YtmofnoconhgjmaaGreatDoor
/- What xml.Write writes, plainly: it is read as it was. It speaks of no program. -/
namespace Go.Proofs.YtmofnoconhgjmaaGreatDoor
open Go.RowKit
set_option linter.unusedVariables false
set_option linter.unusedSimpArgs false

def qP : Prs := [(9, [38, 35, 57, 59]), (10, [38, 35, 49, 48, 59]), (13, [38, 35, 49, 51, 59])]
/-- A byte in a value, and in a text. -/
def qC (c : UInt8) : Bs := (rpC escP c).flatMap (rpC qP)
def quoL (s : Bs) : Bs := 34 :: (s.flatMap qC ++ [34])
def midB (x : Bs) : Bs := (x.drop 1).dropLast
theorem qC_ent : ∀ c, (qC c = [c] ∧ c ≠ 38) ∨ (qC c = 38 :: (midB (qC c) ++ [59]) ∧ (∀ d ∈ midB (qC c), d ≠ 59) ∧ entL (midB (qC c)) = some [c]) := all_bytes (by decide +kernel)
theorem qC_free : ∀ c, ∀ d ∈ qC c, d ≠ 34 ∧ d ≠ 60 ∧ d ≠ 62 := all_bytes (by decide +kernel)
theorem map_free {m : UInt8 → Bs} (h : ∀ c, ∀ d ∈ m c, d ≠ 34 ∧ d ≠ 60 ∧ d ≠ 62) (s : Bs) : ∀ d ∈ s.flatMap m, d ≠ 34 ∧ d ≠ 60 ∧ d ≠ 62 := by
  intro d hd
  obtain ⟨c, -, h1⟩ := List.mem_flatMap.1 hd
  exact h c d h1
theorem map_unesc {m : UInt8 → Bs} (h : ∀ c, (m c = [c] ∧ c ≠ 38) ∨ (m c = 38 :: (midB (m c) ++ [59]) ∧ (∀ d ∈ midB (m c), d ≠ 59) ∧ entL (midB (m c)) = some [c])) (s : Bs) : unescA (s.flatMap m) = some s := by
  induction s with
  | nil => rfl
  | cons c s ih =>
    rw [List.flatMap_cons]
    rcases h c with ⟨e, hc⟩ | ⟨e, h1, h2⟩
    · rw [e, List.singleton_append, unescA_char c _ hc, ih]; rfl
    · generalize midB (m c) = n at e h1 h2
      rw [e, List.cons_append, List.append_assoc, unescA_amp]
      rw [show n ++ ([59] ++ s.flatMap m) = n ++ 59 :: s.flatMap m from rfl, cut_free n 59 _ h1]
      simp only [if_true, h2, Option.bind_some, ih, Option.map_some]
      rfl
/-- A value that is read. -/
theorem val_q (v r : Bs) : valueL (quoL v ++ r) = some (v, r) := by
  unfold quoL
  rw [List.cons_append, List.append_assoc]
  exact val_t (v.flatMap qC) r v (map_free qC_free v) (map_unesc qC_ent v)
/-- A name that is next. -/
theorem wd_name {n : Bs} {c : UInt8} (r : Bs) (hn : n.all innB = true) (hc : innB c = false) : wdA (n ++ c :: r) = n ∧ wdR (n ++ c :: r) = c :: r := by
  unfold wdA wdR
  induction n with
  | nil => rw [List.nil_append, List.takeWhile_cons, List.dropWhile_cons, hc]; exact ⟨rfl, rfl⟩
  | cons x n ih =>
    rw [List.all_cons, Bool.and_eq_true] at hn
    rw [List.cons_append, List.takeWhile_cons, List.dropWhile_cons, hn.1]
    exact ⟨by rw [if_pos rfl, (ih hn.2).1], by rw [if_pos rfl, (ih hn.2).2]⟩
theorem name_inn {n : Bs} (h : nameB n = true) : n.all innB = true := by
  unfold nameB at h
  simp only [Bool.and_eq_true] at h
  exact h.2
theorem full_n {n : Bs} {c : UInt8} (r : Bs) (hn : nameB n = true) (hc : innB c = false) (h58 : c ≠ 58) : fullL (n ++ c :: r) = (([], n, true), c :: r) := by
  obtain ⟨e1, e2⟩ := wd_name r (name_inn hn) hc
  unfold fullL
  rw [e1, e2, pre_one, show ((58 : UInt8) == c) = false from beq_eq_false_iff_ne.2 (fun e => h58 e.symm), hn]
  rfl
theorem full_pn {p n : Bs} {c : UInt8} (r : Bs) (hp : nameB p = true) (hn : nameB n = true) (hc : innB c = false) : fullL (p ++ 58 :: (n ++ c :: r)) = ((p, n, true), c :: r) := by
  obtain ⟨e1, e2⟩ := wd_name (n ++ c :: r) (name_inn hp) (show innB 58 = false by decide)
  obtain ⟨e3, e4⟩ := wd_name r (name_inn hn) hc
  unfold fullL
  rw [e1, e2, hp, pre_one]
  simp only [beq_self_eq_true, Bool.and_self, if_true, List.drop_succ_cons, List.drop_zero]
  rw [e3, e4, hn]
theorem trim_no {c : UInt8} (r : Bs) (h : blkL.contains c = false) : Lib.trimLeftS (c :: r) blkL = c :: r := by
  unfold Lib.trimLeftS
  rw [List.dropWhile_cons, h]
  rfl
theorem trimP_one (c : UInt8) (r : Bs) : Lib.trimPrefix (c :: r) [c] = r := by
  unfold Lib.trimPrefix
  rw [pre_one, beq_self_eq_true]
  rfl
/-- An attribute as it stands. -/
def fnT (a : At) : Bs := if a.1 = [] then a.2.1 else a.1 ++ 58 :: a.2.1
structure RawOk (a : At) : Prop where
  n : nameB a.2.1 = true
  p : a.1 = [] ∨ nameB a.1 = true
theorem full_raw {a : At} (h : RawOk a) (c : UInt8) (r : Bs) (hc : innB c = false) (h58 : c ≠ 58) : fullL (fnT a ++ c :: r) = ((a.1, a.2.1, true), c :: r) := by
  unfold fnT
  by_cases he : a.1 = []
  · rw [if_pos he, full_n r h.n hc h58, he]
  · rw [if_neg he, List.append_assoc, List.cons_append]
    exact full_pn r (h.p.resolve_left he) h.n hc
theorem one_raw {a : At} (h : RawOk a) (r : Bs) : oneL (fnT a ++ 61 :: (quoL a.2.2 ++ r)) = some (a, r) := by
  unfold oneL
  rw [full_raw h 61 _ (by decide) (by decide)]
  simp only
  rw [trim_no _ (show blkL.contains 61 = false by decide), pre_one, trimP_one]
  have e : Lib.trimLeftS (quoL a.2.2 ++ r) blkL = quoL a.2.2 ++ r := by
    unfold quoL
    rw [List.cons_append]
    exact trim_no _ (by decide)
  rw [e, val_q]
  rfl
def rawT (l : List At) : Bs := l.flatMap fun a => 32 :: (fnT a ++ 61 :: quoL a.2.2)
theorem rawT_cons (a : At) (l : List At) : rawT (a :: l) = 32 :: (fnT a ++ 61 :: (quoL a.2.2 ++ rawT l)) := by
  unfold rawT
  rw [List.flatMap_cons]
  simp
theorem fnT_head {a : At} (h : RawOk a) : ∃ c t, fnT a = c :: t ∧ begB c = true := by
  have hd : ∀ {n : Bs}, nameB n = true → ∃ c t, n = c :: t ∧ begB c = true := by
    intro n hn
    unfold nameB at hn
    simp only [Bool.and_eq_true] at hn
    cases n with
    | nil => simp at hn
    | cons c t => exact ⟨c, t, rfl, by simpa using hn.1.2⟩
  unfold fnT
  by_cases he : a.1 = []
  · rw [if_pos he]; exact hd h.n
  · rw [if_neg he]
    obtain ⟨c, t, e, hb⟩ := hd (h.p.resolve_left he)
    exact ⟨c, t ++ 58 :: a.2.1, by rw [e]; rfl, hb⟩
theorem beg_not : ∀ c, begB c = true → blkL.contains c = false ∧ c ≠ 47 ∧ c ≠ 62 ∧ c ≠ 33 ∧ c ≠ 63 ∧ c ≠ 60 := all_bytes (by decide +kernel)
/-- Attributes that are read: none of them is there twice. -/
def Fresh (acc l : List At) : Prop := match l with
  | [] => True
  | a :: l => acc.any (sameF a) = false ∧ Fresh (acc ++ [a]) l
theorem attrs_raw : ∀ (l : List At) (acc : List At) (r : Bs) (n : Nat), l.length < n → (∀ a ∈ l, RawOk a) → Fresh acc l → attrsL n (rawT l ++ 62 :: r) acc = some (acc ++ l, false, r) := by
  intro l
  induction l with
  | nil =>
    intro acc r n hn _ _
    obtain ⟨n, rfl⟩ : ∃ k, n = k + 1 := ⟨n - 1, by simp at hn; omega⟩
    show attrsL (n + 1) (62 :: r) acc = _
    unfold attrsL
    rw [trim_no r (show blkL.contains 62 = false by decide), pre_not 62 47 [62] r (by decide), pre_one, trimP_one, List.append_nil]
    rfl
  | cons a l ih =>
    intro acc r n hn hok hf
    obtain ⟨n, rfl⟩ : ∃ k, n = k + 1 := ⟨n - 1, by simp at hn; omega⟩
    have ha := hok a (List.mem_cons_self ..)
    obtain ⟨c, t, he, hb⟩ := fnT_head ha
    obtain ⟨b1, b2, b3, -, -, -⟩ := beg_not c hb
    have e1 : rawT (a :: l) ++ 62 :: r = 32 :: (fnT a ++ 61 :: (quoL a.2.2 ++ (rawT l ++ 62 :: r))) := by rw [rawT_cons]; simp
    have e2 : Lib.trimLeftS (32 :: (fnT a ++ 61 :: (quoL a.2.2 ++ (rawT l ++ 62 :: r)))) blkL = fnT a ++ 61 :: (quoL a.2.2 ++ (rawT l ++ 62 :: r)) := by
      rw [he, List.cons_append]
      unfold Lib.trimLeftS
      rw [List.dropWhile_cons, show blkL.contains 32 = true by decide, if_pos rfl, List.dropWhile_cons, b1]
      rfl
    rw [e1]
    unfold attrsL
    rw [e2]
    have p1 : Lib.hasPrefix (fnT a ++ 61 :: (quoL a.2.2 ++ (rawT l ++ 62 :: r))) [47, 62] = false := by rw [he]; exact pre_not c 47 [62] _ b2
    have p2 : Lib.hasPrefix (fnT a ++ 61 :: (quoL a.2.2 ++ (rawT l ++ 62 :: r))) [62] = false := by rw [he]; exact pre_not c 62 [] _ b3
    rw [p1, p2, one_raw ha]
    simp only [Bool.false_eq_true, if_false]
    rw [if_pos (by simp), hf.1]
    simp only [Bool.false_eq_true, if_false]
    rw [ih (acc ++ [a]) r n (by simp at hn; omega) (fun x hx => hok x (List.mem_cons_of_mem _ hx)) hf.2, List.append_assoc]
    rfl
/-- The prefix that an attribute's space is written with. -/
def pI (i : Nat) : Bs := 112 :: Lib.decDigits i
theorem nsT_name : nameB nsT = true := by decide +kernel
theorem nsT_ne : ¬ ([] : Bs) = nsT := by decide +kernel
theorem pI_name : ∀ i : Fin 16, nameB (pI i.val) = true := by decide +kernel
theorem pI_inj : ∀ i j : Fin 16, pI i.val = pI j.val → i = j := by decide +kernel
theorem pI_ns (i : Nat) : pI i ≠ nsT := by unfold pI nsT; intro h; have := (List.cons.inj h).1; revert this; decide
theorem pI_ne (i : Nat) : pI i ≠ [] := by unfold pI; simp
theorem pI_eq {i j : Nat} (hi : i < 16) (hj : j < 16) (h : pI i = pI j) : i = j := by
  have := pI_inj ⟨i, hi⟩ ⟨j, hj⟩ h
  exact congrArg Fin.val this
/-- The attributes as they are written, behind the first one (the element's space). -/
def rawAt : Nat → List At → List At
  | _, [] => []
  | i, a :: l => (if a.1 = [] then [([], a.2.1, a.2.2)] else [(nsT, pI i, a.1), (pI i, a.2.1, a.2.2)]) ++ rawAt (i + 1) l
def rawE (s : Bs) (ats : List At) : List At := ([], nsT, s) :: rawAt 0 ats
structure AtOk (a : At) : Prop where
  n : nameB a.2.1 = true
  ns : a.1 = [] → a.2.1 ≠ nsT
/-- No attribute is there twice. -/
def AtsNew (acc l : List At) : Prop := match l with
  | [] => True
  | a :: l => acc.any (sameA a.1 a.2.1) = false ∧ AtsNew (acc ++ [a]) l
theorem rawAt_ok : ∀ (ats : List At) (i : Nat), i + ats.length ≤ 16 → (∀ a ∈ ats, AtOk a) → ∀ a ∈ rawAt i ats, RawOk a := by
  intro ats
  induction ats with
  | nil => intro i _ _ a ha; cases ha
  | cons x l ih =>
    intro i hi hok a ha
    have hi' : i < 16 := by simp at hi; omega
    have hx := hok x (List.mem_cons_self ..)
    rcases List.mem_append.1 ha with h | h
    · by_cases he : x.1 = []
      · rw [if_pos he] at h
        obtain rfl := List.mem_singleton.1 h
        exact ⟨hx.n, .inl rfl⟩
      · rw [if_neg he] at h
        simp only [List.mem_cons, List.not_mem_nil, or_false] at h
        rcases h with rfl | rfl
        · exact ⟨pI_name ⟨i, hi'⟩, .inr nsT_name⟩
        · exact ⟨hx.n, .inr (pI_name ⟨i, hi'⟩)⟩
    · exact ih (i + 1) (by simp at hi ⊢; omega) (fun y hy => hok y (List.mem_cons_of_mem _ hy)) a h
/-- What has been read so far: the first one, those of lower numbers, those without a space. -/
def OldA (i : Nat) (done : List At) (x : At) : Prop :=
  (x.1 = [] ∧ x.2.1 = nsT) ∨ (∃ j, j < i ∧ x.1 = nsT ∧ x.2.1 = pI j) ∨ (∃ j, j < i ∧ x.1 = pI j) ∨ (x.1 = [] ∧ ∃ d ∈ done, d.1 = [] ∧ d.2.1 = x.2.1)
theorem rawAt_fresh : ∀ (ats : List At) (i : Nat) (done acc : List At), i + ats.length ≤ 16 → (∀ a ∈ ats, AtOk a) → AtsNew done ats → (∀ x ∈ acc, OldA i done x) → Fresh acc (rawAt i ats) := by
  intro ats
  induction ats with
  | nil => intro i done acc _ _ _ _; trivial
  | cons a l ih =>
    intro i done acc hi hok hn hacc
    have hi' : i < 16 := by simp at hi; omega
    have ha := hok a (List.mem_cons_self ..)
    have hnew : ∀ d ∈ done, ¬ (a.1 = d.1 ∧ a.2.1 = d.2.1) := by
      intro d hd h
      have h1 := hn.1
      rw [List.any_eq_false] at h1
      exact h1 d hd (by unfold sameA; simp [h.1, h.2])
    have hold : ∀ x, OldA i done x → OldA (i + 1) (done ++ [a]) x := by
      rintro x (h | ⟨j, hj, h⟩ | ⟨j, hj, h⟩ | ⟨h1, d, hd, h2⟩)
      · exact .inl h
      · exact .inr (.inl ⟨j, by omega, h⟩)
      · exact .inr (.inr (.inl ⟨j, by omega, h⟩))
      · exact .inr (.inr (.inr ⟨h1, d, List.mem_append_left _ hd, h2⟩))
    by_cases he : a.1 = []
    · have e : rawAt i (a :: l) = ([], a.2.1, a.2.2) :: rawAt (i + 1) l := by
        show (if a.1 = [] then _ else _) ++ _ = _
        rw [if_pos he]; rfl
      rw [e]
      refine ⟨?_, ih (i + 1) (done ++ [a]) _ (by simp at hi ⊢; omega) (fun y hy => hok y (List.mem_cons_of_mem _ hy)) hn.2 ?_⟩
      · rw [List.any_eq_false]
        intro x hx h
        unfold sameF at h
        simp only [Bool.and_eq_true, decide_eq_true_eq] at h
        rcases hacc x hx with h1 | ⟨j, hj, h1, -⟩ | ⟨j, hj, h1⟩ | ⟨h1, d, hd, h2, h3⟩
        · exact ha.ns he (by rw [← h.2]; exact h1.2)
        · rw [h.1] at h1; exact absurd h1 (by decide +kernel)
        · rw [h.1] at h1; exact pI_ne j h1.symm
        · exact hnew d hd ⟨by rw [he, h2], by rw [← h.2, h3]⟩
      · intro x hx
        rcases List.mem_append.1 hx with h | h
        · exact hold x (hacc x h)
        · obtain rfl := List.mem_singleton.1 h
          exact .inr (.inr (.inr ⟨rfl, a, by simp, he, rfl⟩))
    · have e : rawAt i (a :: l) = (nsT, pI i, a.1) :: (pI i, a.2.1, a.2.2) :: rawAt (i + 1) l := by
        show (if a.1 = [] then _ else _) ++ _ = _
        rw [if_neg he]; rfl
      rw [e]
      have k1 : acc.any (sameF (nsT, pI i, a.1)) = false := by
        rw [List.any_eq_false]
        intro x hx h
        unfold sameF at h
        simp only [Bool.and_eq_true, decide_eq_true_eq] at h
        rcases hacc x hx with h1 | ⟨j, hj, h1, h2⟩ | ⟨j, hj, h1⟩ | ⟨h1, -⟩
        · rw [h.1] at h1; exact absurd h1.1 (by decide +kernel)
        · rw [h.2] at h2; have := pI_eq hi' (by omega) h2; omega
        · rw [h.1] at h1; exact pI_ns j h1.symm
        · rw [h.1] at h1; exact absurd h1 (by decide +kernel)
      have k2 : (acc ++ [((nsT, pI i, a.1) : At)]).any (sameF (pI i, a.2.1, a.2.2)) = false := by
        rw [List.any_eq_false]
        intro x hx h
        unfold sameF at h
        simp only [Bool.and_eq_true, decide_eq_true_eq] at h
        rcases List.mem_append.1 hx with hx | hx
        · rcases hacc x hx with h1 | ⟨j, hj, h1, h2⟩ | ⟨j, hj, h1⟩ | ⟨h1, -⟩
          · rw [h.1] at h1; exact pI_ne i h1.1
          · rw [h.1] at h1; exact pI_ns i h1
          · rw [h.1] at h1; have := pI_eq hi' (by omega) h1; omega
          · rw [h.1] at h1; exact pI_ne i h1
        · obtain rfl := List.mem_singleton.1 hx
          exact pI_ns i h.1.symm
      refine ⟨k1, k2, ih (i + 1) (done ++ [a]) _ (by simp at hi ⊢; omega) (fun y hy => hok y (List.mem_cons_of_mem _ hy)) hn.2 ?_⟩
      intro x hx
      simp only [List.mem_append, List.mem_cons, List.not_mem_nil, or_false] at hx
      rcases hx with (h | rfl) | rfl
      · exact hold x (hacc x h)
      · exact .inr (.inl ⟨i, by omega, rfl, rfl⟩)
      · exact .inr (.inr (.inl ⟨i, by omega, rfl⟩))
theorem isNs_1 (n v : Bs) (h : n ≠ nsT) : isNs ([], n, v) = false := by
  unfold isNs
  simp only [Bool.or_eq_false_iff, decide_eq_false_iff_not, Bool.and_eq_false_iff]
  exact ⟨by decide +kernel, .inr h⟩
theorem isNs_2 (n v : Bs) : isNs (nsT, n, v) = true := by unfold isNs; simp
theorem isNs_3 (i : Nat) (n v : Bs) : isNs (pI i, n, v) = false := by
  unfold isNs
  simp only [Bool.or_eq_false_iff, decide_eq_false_iff_not, Bool.and_eq_false_iff]
  exact ⟨pI_ns i, .inl (pI_ne i)⟩
theorem isNs_0 (v : Bs) : isNs ([], nsT, v) = true := by unfold isNs; simp
theorem spc_cons (k v p : Bs) (bs : List (Bs × Bs)) : spcL ((k, v) :: bs) p = if k = p then (v, true) else spcL bs p := by
  unfold spcL
  rw [List.find?_cons]
  by_cases h : k = p
  · rw [if_pos h, decide_eq_true h]
  · rw [if_neg h, decide_eq_false h]
theorem bind_raw1 (a : At) (l : List At) (i : Nat) (bs : List (Bs × Bs)) (h : AtOk a) : bindB (rawAt i (a :: l)) bs = bindB (rawAt (i + 1) l) (if a.1 = [] then bs else (pI i, a.1) :: bs) := by
  by_cases he : a.1 = []
  · have e : rawAt i (a :: l) = ([], a.2.1, a.2.2) :: rawAt (i + 1) l := by
      show (if a.1 = [] then _ else _) ++ _ = _
      rw [if_pos he]; rfl
    rw [e, if_pos he]
    conv => lhs; unfold bindB
    rw [isNs_1 _ _ (h.ns he)]
    rfl
  · have e : rawAt i (a :: l) = (nsT, pI i, a.1) :: (pI i, a.2.1, a.2.2) :: rawAt (i + 1) l := by
      show (if a.1 = [] then _ else _) ++ _ = _
      rw [if_neg he]; rfl
    rw [e, if_neg he]
    conv => lhs; unfold bindB
    rw [isNs_2]
    conv => lhs; unfold bindB
    rw [isNs_3, show nsOf (nsT, pI i, a.1) = pI i by unfold nsOf; rw [if_pos rfl]]
    rfl
theorem bind_other : ∀ (ats : List At) (i : Nat) (bs : List (Bs × Bs)) (p : Bs), (∀ a ∈ ats, AtOk a) → (∀ j, i ≤ j → j < i + ats.length → p ≠ pI j) → spcL (bindB (rawAt i ats) bs) p = spcL bs p := by
  intro ats
  induction ats with
  | nil => intro i bs p _ _; rfl
  | cons a l ih =>
    intro i bs p hok hp
    rw [bind_raw1 a l i bs (hok a (List.mem_cons_self ..)), ih (i + 1) _ p (fun y hy => hok y (List.mem_cons_of_mem _ hy)) (fun j h1 h2 => hp j (by omega) (by simp; omega))]
    by_cases he : a.1 = []
    · rw [if_pos he]
    · rw [if_neg he, spc_cons, if_neg (fun e => hp i (Nat.le_refl _) (by simp) e.symm)]
theorem bind_own : ∀ (ats : List At) (i k : Nat) (bs : List (Bs × Bs)) (a : At), i + ats.length ≤ 16 → (∀ a ∈ ats, AtOk a) → ats[k]? = some a → a.1 ≠ [] → spcL (bindB (rawAt i ats) bs) (pI (i + k)) = (a.1, true) := by
  intro ats
  induction ats with
  | nil => intro i k bs a _ _ h; simp at h
  | cons x l ih =>
    intro i k bs a hi hok hk ha
    rw [bind_raw1 x l i bs (hok x (List.mem_cons_self ..))]
    cases k with
    | zero =>
      obtain rfl : x = a := by simpa using hk
      simp only [Nat.add_zero]
      rw [bind_other l (i + 1) _ _ (fun y hy => hok y (List.mem_cons_of_mem _ hy)) (fun j h1 h2 e => by have := pI_eq (by simp at hi; omega) (by simp at hi; omega) e; omega), if_neg ha, spc_cons, if_pos rfl]
    | succ k =>
      have := ih (i + 1) k (if x.1 = [] then bs else (pI i, x.1) :: bs) a (by simp at hi ⊢; omega) (fun y hy => hok y (List.mem_cons_of_mem _ hy)) (by simpa using hk) ha
      rw [show i + (k + 1) = i + 1 + k by omega]
      exact this
theorem att_raw : ∀ (ats : List At) (i : Nat) (BS : List (Bs × Bs)) (acc : List At), (∀ a ∈ ats, AtOk a) → (∀ k a, ats[k]? = some a → a.1 ≠ [] → spcL BS (pI (i + k)) = (a.1, true)) → AtsNew acc ats → attB BS (rawAt i ats) acc = (acc ++ ats, true) := by
  intro ats
  induction ats with
  | nil => intro i BS acc _ _ _; rw [List.append_nil]; rfl
  | cons a l ih =>
    intro i BS acc hok hsp hn
    have ha := hok a (List.mem_cons_self ..)
    have hrec := ih (i + 1) BS (acc ++ [a]) (fun y hy => hok y (List.mem_cons_of_mem _ hy)) (fun k b hb h => by
      have := hsp (k + 1) b (by simpa using hb) h
      rw [show i + (k + 1) = i + 1 + k by omega] at this
      exact this) hn.2
    rw [List.append_assoc, List.singleton_append] at hrec
    obtain ⟨a1, a2, a3⟩ := a
    by_cases he : a1 = []
    · subst he
      have e : rawAt i ((([], a2, a3) : At) :: l) = ([], a2, a3) :: rawAt (i + 1) l := rfl
      rw [e, attB_at BS _ _ acc (isNs_1 _ _ (ha.ns rfl))]
      have es : (atSp BS ([] : Bs)) = ([], true) := by unfold atSp; rw [if_pos rfl]
      simp only [es]
      rw [hrec]
      have h1 := hn.1
      simp only at h1
      rw [h1]
      rfl
    · have e : rawAt i (((a1, a2, a3) : At) :: l) = (nsT, pI i, a1) :: (pI i, a2, a3) :: rawAt (i + 1) l := by
        show (if a1 = [] then _ else _) ++ _ = _
        rw [if_neg he]; rfl
      rw [e]
      conv => lhs; unfold attB
      rw [isNs_2, if_pos rfl, attB_at BS _ _ acc (isNs_3 _ _ _)]
      have es : (atSp BS (pI i)) = (a1, true) := by
        unfold atSp
        rw [if_neg (pI_ne i)]
        have := hsp 0 (a1, a2, a3) rfl he
        rwa [Nat.add_zero] at this
      simp only [es]
      rw [hrec]
      have h1 := hn.1
      simp only at h1
      rw [h1]
      rfl
theorem bindOk_raw : ∀ (ats : List At) (i : Nat), bindOk (rawAt i ats) = true := by
  intro ats
  induction ats with
  | nil => intro i; rfl
  | cons a l ih =>
    intro i
    unfold bindOk at ih ⊢
    show ((if a.1 = [] then _ else _) ++ rawAt (i + 1) l).all _ = true
    rw [List.all_append, ih (i + 1), Bool.and_true]
    by_cases he : a.1 = []
    · rw [if_pos he]; simp [nsT]
    · rw [if_neg he]
      simp only [List.all_cons, List.all_nil, Bool.and_true, Bool.and_eq_true, Bool.not_eq_true', Bool.and_eq_false_iff, decide_eq_false_iff_not]
      exact ⟨.inr he, .inl (pI_ns i)⟩
/-- What is right of an element's beginning. -/
structure WfA (n : Bs) (s : Bs) (ats : List At) : Prop where
  name : nameB n = true
  aok : ∀ a ∈ ats, AtOk a
  new : AtsNew [] ats
  len : (rawE s ats).length ≤ 16
theorem rawAt_len : ∀ (ats : List At) (i : Nat), ats.length ≤ (rawAt i ats).length := by
  intro ats
  induction ats with
  | nil => intro i; exact Nat.le_refl _
  | cons a l ih =>
    intro i
    have := ih (i + 1)
    show l.length + 1 ≤ ((if a.1 = [] then _ else _) ++ rawAt (i + 1) l).length
    rw [List.length_append]
    split <;> simp <;> omega
theorem begin_w {n s : Bs} {ats : List At} (h : WfA n s ats) (up : List (Bs × Bs)) (r : Bs) : beginL up (n ++ rawT (rawE s ats) ++ 62 :: r) = some (⟨[], n, s, ats, [], .nil, bindB (rawE s ats) up⟩, false, r, (rawE s ats).length) := by
  have hl : ats.length ≤ 15 := by have := h.len; have := rawAt_len ats 0; unfold rawE at *; simp at *; omega
  have hok0 : ∀ a ∈ rawE s ats, RawOk a := by
    intro a ha
    rcases List.mem_cons.1 ha with rfl | ha
    · exact ⟨nsT_name, .inl rfl⟩
    · exact rawAt_ok ats 0 (by omega) h.aok a ha
  have hfr : Fresh [] (rawE s ats) := ⟨rfl, rawAt_fresh ats 0 [] [([], nsT, s)] (by omega) h.aok h.new (fun x hx => by obtain rfl := List.mem_singleton.1 hx; exact .inl ⟨rfl, rfl⟩)⟩
  have e1 : n ++ rawT (rawE s ats) ++ 62 :: r = n ++ 32 :: (fnT (([], nsT, s) : At) ++ 61 :: (quoL s ++ (rawT (rawAt 0 ats) ++ 62 :: r))) := by
    unfold rawE; rw [rawT_cons]; simp
  have e2 : (32 :: (fnT (([], nsT, s) : At) ++ 61 :: (quoL s ++ (rawT (rawAt 0 ats) ++ 62 :: r))) : Bs) = rawT (rawE s ats) ++ 62 :: r := by
    unfold rawE; rw [rawT_cons]; simp
  unfold beginL
  rw [e1, full_n _ h.name (by decide) (by decide)]
  simp only [if_true]
  rw [e2]
  unfold attrsA
  rw [attrs_raw (rawE s ats) [] r _ ?_ hok0 hfr]
  · simp only [List.nil_append]
    have hb0 : bindOk (rawE s ats) = true := by
      have := bindOk_raw ats 0
      unfold bindOk at this ⊢
      unfold rawE
      rw [List.all_cons, this]
      simp [nsT]
    have hb1 : bindB (rawE s ats) up = bindB (rawAt 0 ats) (([], s) :: up) := by
      unfold rawE
      conv => lhs; unfold bindB
      rw [isNs_0, show nsOf ([], nsT, s) = [] by unfold nsOf; rw [if_neg nsT_ne]]
      rfl
    have hb2 : spcL (bindB (rawE s ats) up) [] = (s, true) := by
      rw [hb1, bind_other ats 0 _ [] h.aok (fun j _ _ e => pI_ne j e.symm), spc_cons, if_pos rfl]
    have hb3 : attB (bindB (rawE s ats) up) (rawE s ats) [] = (ats, true) := by
      have := att_raw ats 0 (bindB (rawE s ats) up) [] h.aok (fun k a hk ha => by rw [hb1]; exact bind_own ats 0 k _ a (by omega) h.aok hk ha) h.new
      unfold rawE at this ⊢
      conv => lhs; unfold attB
      rw [isNs_0, if_pos rfl]
      exact this
    rw [elemL_some (by rw [hb0, hb2, hb3]; rfl), hb2, hb3]
    rfl
  · have : (rawE s ats).length ≤ (rawT (rawE s ats)).length := by
      generalize rawE s ats = l
      induction l with
      | nil => exact Nat.le_refl _
      | cons a l ih => rw [rawT_cons]; simp; omega
    simp only [List.length_append, List.length_cons]; omega
end Go.Proofs.YtmofnoconhgjmaaGreatDoor
/- Elements that are written are read as they were; a document with blanks and comments around it. It speaks of no program. -/
namespace Go.Proofs.YtmofnoconhgjmaaGreatDoor
open Go.RowKit
set_option linter.unusedVariables false
set_option linter.unusedSimpArgs false

def Fo.app : Fo → Fo → Fo
  | .nil, g => g
  | .cons s n ats tx k next, g => .cons s n ats tx k (next.app g)
theorem Fo.app_nil (f : Fo) : f.app .nil = f := by
  induction f with
  | nil => rfl
  | cons s n ats tx k next _ ih => simp only [Fo.app, ih]
theorem Fo.snoc_app (f : Fo) (e : El) (g : Fo) : (f.snoc e).app g = f.app (.cons e.s e.n e.ats e.tx e.kids g) := by
  induction f with
  | nil => rfl
  | cons s n ats tx k next _ ih => simp only [Fo.snoc, Fo.app, ih]
def WfF : Nat → Fo → Prop
  | _, .nil => True
  | d, .cons s n ats _ k next => d ≤ 8 ∧ WfA n s ats ∧ WfF (d + 1) k ∧ WfF d next
theorem inL_fuel : ∀ (n k : Nat) (r : Bs) (f : Fr) (deep cnt : Nat) (full : Bool), r.length < n → r.length < k → inL n r f deep cnt full = inL k r f deep cnt full := by
  intro n
  induction n with
  | zero => intro k r _ _ _ _ h; omega
  | succ n ih =>
    intro k r f deep cnt full h1 h2
    obtain ⟨k, rfl⟩ : ∃ j, k = j + 1 := ⟨k - 1, by omega⟩
    unfold inL
    split
    · rename_i hp
      have := trimP_len hp
      have h4 : noteO.length = 4 := rfl
      have := cut_len (Lib.trimPrefix r noteO) noteC
      split
      · exact ih k _ f deep cnt full (by omega) (by omega)
      · rfl
    split
    · rename_i hp
      have := trimP_len hp
      have h4 : cdO.length = 9 := rfl
      have := cut_len (Lib.trimPrefix r cdO) cdC
      split
      · exact ih k _ _ deep cnt full (by omega) (by omega)
      · rfl
    split
    · rfl
    split
    · rename_i hp
      have := trimP_len hp
      simp only [List.length_cons, List.length_nil] at this
      cases hb : beginL f.bs (Lib.trimPrefix r [60]) with
      | none => rfl
      | some y =>
        obtain ⟨g, emp, r', kk⟩ := y
        have := beginL_len hb
        cases emp
        · simp only
          rw [ih k r' g (deep + 1) (cnt + 1) _ (by omega) (by omega)]
          cases hi : inL k r' g (deep + 1) (cnt + 1) (fullB full (cnt + 1) (deep + 1) kk) with
          | none => rfl
          | some x =>
            obtain ⟨e, r2, c2, f2⟩ := x
            have := inL_len k hi
            exact ih k r2 (f.kid e) deep c2 f2 (by simp only at this; omega) (by simp only at this; omega)
        · exact ih k r' (f.kid g.el) deep (cnt + 1) _ (by omega) (by omega)
    rename_i h4
    split
    · rfl
    · rename_i h5
      have := index_pos (by simpa using h4) h5
      split
      · rfl
      · exact ih k _ _ deep cnt full (by simp only [List.length_drop]; omega) (by simp only [List.length_drop]; omega)
def inA (r : Bs) (f : Fr) (deep cnt : Nat) (full : Bool) : Option Res := inL (r.length + 1) r f deep cnt full
theorem inA_of (n : Nat) (r : Bs) (f : Fr) (deep cnt : Nat) (full : Bool) (h : r.length < n) : inL n r f deep cnt full = inA r f deep cnt full := inL_fuel _ _ _ _ _ _ _ h (Nat.lt_succ_self _)
theorem txt_nil (f : Fr) : f.txt [] = f := by unfold Fr.txt; simp
theorem trim_blanks (b : Bs) (hb : ∀ d ∈ b, blkL.contains d = true) (c : UInt8) (r : Bs) (hc : blkL.contains c = false) : Lib.trimLeftS (b ++ c :: r) blkL = c :: r := by
  induction b with
  | nil => exact trim_no r hc
  | cons d b ih =>
    unfold Lib.trimLeftS at ih ⊢
    rw [List.cons_append, List.dropWhile_cons, hb d (List.mem_cons_self ..), if_pos rfl]
    exact ih (fun x hx => hb x (List.mem_cons_of_mem _ hx))
theorem blk_inn : ∀ c, blkL.contains c = true → innB c = false ∧ c ≠ 58 := all_bytes (by decide +kernel)
theorem full_pad {n : Bs} (hn : nameB n = true) (b r : Bs) (hb : ∀ d ∈ b, blkL.contains d = true) : fullL (n ++ (b ++ 62 :: r)) = (([], n, true), b ++ 62 :: r) := by
  cases b with
  | nil => exact full_n r hn (by decide) (by decide)
  | cons c b => exact full_n _ hn (blk_inn c (hb c (List.mem_cons_self ..))).1 (blk_inn c (hb c (List.mem_cons_self ..))).2
theorem inA_end (n b r : Bs) (f : Fr) (deep cnt : Nat) (full : Bool) (hn : nameB n = true) (hb : ∀ d ∈ b, blkL.contains d = true) (hp : f.p = []) (hf : f.n = n) : inA (60 :: 47 :: (n ++ (b ++ 62 :: r))) f deep cnt full = some (f.el, r, cnt, full) := by
  unfold inA inL
  rw [show Lib.hasPrefix (60 :: 47 :: (n ++ (b ++ 62 :: r))) noteO = false from rfl, show Lib.hasPrefix (60 :: 47 :: (n ++ (b ++ 62 :: r))) cdO = false from rfl, show Lib.hasPrefix (60 :: 47 :: (n ++ (b ++ 62 :: r))) [60, 47] = true from rfl]
  simp only [Bool.false_eq_true, if_false, if_true]
  rw [show Lib.trimPrefix (60 :: 47 :: (n ++ (b ++ 62 :: r))) [60, 47] = n ++ (b ++ 62 :: r) from rfl]
  unfold endL
  rw [full_pad hn b r hb, trim_blanks b hb 62 r (by decide), pre_one, trimP_one, hp, hf]
  simp
theorem name_head {n : Bs} (h : nameB n = true) : ∃ c t, n = c :: t ∧ begB c = true := by
  unfold nameB at h
  simp only [Bool.and_eq_true] at h
  cases n with
  | nil => simp at h
  | cons c t => exact ⟨c, t, rfl, by simpa using h.1.2⟩
theorem lt_pre {n : Bs} (h : nameB n = true) (r : Bs) : Lib.hasPrefix (60 :: (n ++ r)) noteO = false ∧ Lib.hasPrefix (60 :: (n ++ r)) cdO = false ∧ Lib.hasPrefix (60 :: (n ++ r)) [60, 47] = false ∧ Lib.hasPrefix (60 :: (n ++ r)) [60] = true := by
  obtain ⟨c, t, rfl, hb⟩ := name_head h
  obtain ⟨-, h1, -, h2, -, -⟩ := beg_not c hb
  have k : ∀ (q : UInt8) (p : Bs), c ≠ q → Lib.hasPrefix (60 :: (c :: t ++ r)) (60 :: q :: p) = false := by
    intro q p hq
    have := pre_not c q p (t ++ r) hq
    unfold Lib.hasPrefix at this ⊢
    rw [List.cons_append, List.isPrefixOf_cons_cons, this]
    rfl
  exact ⟨k 33 [45, 45] h2, k 33 [91, 67, 68, 65, 84, 65, 91] h2, k 47 [] h1, rfl⟩
theorem kids_eta (f : Fr) : ({ f with kids := f.kids.app .nil } : Fr) = f := by rw [Fo.app_nil]
theorem misc_none (n : Nat) (c : UInt8) (t : Bs) (hc : blkL.contains c = false) (hp : Lib.hasPrefix (c :: t) noteO = false) (b : Bs) (hb : ∀ d ∈ b, blkL.contains d = true) : miscL (n + 1) (b ++ c :: t) = some (c :: t) := by
  unfold miscL
  rw [trim_blanks b hb c t hc, hp]
  rfl
structure WfE (e : El) : Prop where
  a : WfA e.n e.s e.ats
  k : WfF 2 e.kids
  c : 1 + e.kids.cnt ≤ 64
def declT : Bs := [60, 63, 120, 109, 108, 32, 118, 101, 114, 115, 105, 111, 110, 61, 34, 49, 46, 48, 34, 63, 62]
theorem head_decl (r : Bs) : docHead (declT ++ r) = some r := by
  unfold docHead
  rw [show Lib.hasPrefix (declT ++ r) decO = true from rfl, if_pos rfl]
  rw [show Lib.trimPrefix (declT ++ r) decO = [32, 118, 101, 114, 115, 105, 111, 110, 61, 34, 49, 46, 48, 34, 63, 62] ++ r from rfl]
  have hc : Lib.cut ([32, 118, 101, 114, 115, 105, 111, 110, 61, 34, 49, 46, 48, 34, 63, 62] ++ r) decC = ([32, 118, 101, 114, 115, 105, 111, 110, 61, 34, 49, 46, 48, 34], r, true) := by
    have hi : Lib.index ([32, 118, 101, 114, 115, 105, 111, 110, 61, 34, 49, 46, 48, 34, 63, 62] ++ r) decC = 14 := by
      simp [Lib.index, decC, List.isPrefixOf]
    unfold Lib.cut
    rw [hi]
    rfl
  rw [hc]
  rfl
theorem plain_cons (c : UInt8) (r : Bs) : plainB (c :: r) = (!ctlB c && plainB r) := rfl
end Go.Proofs.YtmofnoconhgjmaaGreatDoor
/- What may be written: told element by element. It speaks of no program. -/
namespace Go.Proofs.YtmofnoconhgjmaaGreatDoor
open Go.RowKit
set_option linter.unusedVariables false
set_option linter.unusedSimpArgs false

/-- An attribute that may be written, behind those ahead of it. -/
def okAt (ats : List At) (i : Nat) : Bool := match ats[i]? with
  | none => true
  | some a => nameB a.2.1 && plainB a.1 && plainB a.2.2 && !(decide (a.1 = []) && decide (a.2.1 = nsT)) && !((ats.take i).any (sameA a.1 a.2.1))
def okAts (ats : List At) (k : Nat) : Bool := (List.range k).all (okAt ats)
def rightB (x : El) : Bool := nameB x.n && plainB x.s && plainB x.tx && okAts x.ats x.ats.length
def weiN (x : El) : Nat := (rawE x.s x.ats).length
/-- What an element may be, so deep. -/
structure OkX (d : Nat) (x : El) : Prop where
  r : rightB x = true
  d : d ≤ 7
  w : weiN x ≤ 16
end Go.Proofs.YtmofnoconhgjmaaGreatDoor
