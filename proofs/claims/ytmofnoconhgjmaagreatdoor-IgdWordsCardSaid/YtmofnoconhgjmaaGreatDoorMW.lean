/- Texts of one proof, put together: Xt1, Xw1, Xw2, Xw3. -/
import Derived.Test.YtmofnoconhgjmaaGreatDoorMP
import Derived.Test.YtmofnoconhgjmaaGreatDoorMT
import Derived.Test.YtmofnoconhgjmaaGreatDoorRp6
import Derived.Test.YtmofnoconhgjmaaGreatDoorMF
/- What is read of an element with an escaped text, and an escaped attribute. It speaks of no program. -/
namespace Go.Proofs.YtmofnoconhgjmaaGreatDoor
open Go.RowKit
set_option linter.unusedVariables false
set_option linter.unusedSimpArgs false

abbrev escL (s : Bs) : Bs := repL escP s
theorem escL_cons (c : UInt8) (s : Bs) : escL (c :: s) = rpC escP c ++ escL s := rfl
def nameOf (x : UInt8 × Bs) : Bs := (x.2.drop 1).dropLast
theorem rpC_esc : ∀ c, (∃ x ∈ escP, x.1 = c ∧ rpC escP c = x.2) ∨ (rpC escP c = [c] ∧ c ≠ 38 ∧ c ≠ 60 ∧ c ≠ 62 ∧ c ≠ 34) := all_bytes (by decide +kernel)
theorem esc_free : ∀ c, ∀ d ∈ rpC escP c, d ≠ 34 ∧ d ≠ 60 ∧ d ≠ 62 := all_bytes (by decide +kernel)
theorem esc_plain : ∀ c, plainB (rpC escP c) = !ctlB c := all_bytes (by decide +kernel)
theorem escL_free (s : Bs) : ∀ d ∈ escL s, d ≠ 34 ∧ d ≠ 60 ∧ d ≠ 62 := by
  intro d hd
  obtain ⟨c, -, h⟩ := List.mem_flatMap.1 hd
  exact esc_free c d h
theorem plain_app (a b : Bs) : plainB (a ++ b) = (plainB a && plainB b) := by
  unfold plainB; rw [List.all_append]
theorem escL_plain (s : Bs) : plainB (escL s) = plainB s := by
  induction s with
  | nil => rfl
  | cons c s ih => rw [escL_cons, plain_app, ih, esc_plain]; rfl
theorem cut_free (x : Bs) (q : UInt8) (r : Bs) (h : ∀ d ∈ x, d ≠ q) : Lib.cut (x ++ q :: r) [q] = (x, r, true) := by
  induction x with
  | nil => exact cut_same q r
  | cons c x ih => rw [List.cons_append, cut_cons c q _ (h c (List.mem_cons_self ..)), ih (fun d hd => h d (List.mem_cons_of_mem _ hd))]
theorem idx_same (q : UInt8) (r : Bs) : Lib.index (q :: r) [q] = 0 := by
  have h := pre_one q q r
  unfold Lib.index
  first
    | simp [h]
    | (rw [if_pos]; simpa using h)
theorem idx_free (x : Bs) (q : UInt8) (r : Bs) (h : ∀ d ∈ x, d ≠ q) : Lib.index (x ++ q :: r) [q] = (x.length : Int) := by
  induction x with
  | nil => exact idx_same q r
  | cons c x ih =>
    rw [List.cons_append, idx_cons c q _ (h c (List.mem_cons_self ..)), ih (fun d hd => h d (List.mem_cons_of_mem _ hd)), if_neg (by omega), List.length_cons]
    omega
theorem unesc_esc (s : Bs) : unescA (escL s) = some s := by
  induction s with
  | nil => rfl
  | cons c s ih =>
    rw [escL_cons]
    rcases rpC_esc c with ⟨x, hx, rfl, e⟩ | ⟨e, h, -⟩
    · rw [e]
      simp only [escP, List.mem_cons, List.not_mem_nil, or_false] at hx
      rcases hx with rfl | rfl | rfl | rfl
      · rw [show ([38, 97, 109, 112, 59] : Bs) ++ escL s = 38 :: ([97, 109, 112] ++ 59 :: escL s) from rfl, unescA_amp, cut_free _ _ _ (by decide)]
        simp only [if_true, show entL [97, 109, 112] = some [38] by kernel_rfl, Option.bind_some, ih, Option.map_some]
        rfl
      · rw [show ([38, 108, 116, 59] : Bs) ++ escL s = 38 :: ([108, 116] ++ 59 :: escL s) from rfl, unescA_amp, cut_free _ _ _ (by decide)]
        simp only [if_true, show entL [108, 116] = some [60] by kernel_rfl, Option.bind_some, ih, Option.map_some]
        rfl
      · rw [show ([38, 103, 116, 59] : Bs) ++ escL s = 38 :: ([103, 116] ++ 59 :: escL s) from rfl, unescA_amp, cut_free _ _ _ (by decide)]
        simp only [if_true, show entL [103, 116] = some [62] by kernel_rfl, Option.bind_some, ih, Option.map_some]
        rfl
      · rw [show ([38, 113, 117, 111, 116, 59] : Bs) ++ escL s = 38 :: ([113, 117, 111, 116] ++ 59 :: escL s) from rfl, unescA_amp, cut_free _ _ _ (by decide)]
        simp only [if_true, show entL [113, 117, 111, 116] = some [34] by kernel_rfl, Option.bind_some, ih, Option.map_some]
        rfl
    · rw [e, List.singleton_append, unescA_char c _ h, ih]
      rfl
theorem full_t (r : Bs) : fullL (116 :: 32 :: r) = (([], [116], true), 32 :: r) := by kernel_rfl
theorem full_at (r : Bs) : fullL (97 :: 61 :: r) = (([], [97], true), 61 :: r) := by kernel_rfl
theorem full_te (r : Bs) : fullL (116 :: 62 :: r) = (([], [116], true), 62 :: r) := by kernel_rfl
/-- The text with x in it. -/
def textT (x : Bs) : Bs := [60, 116, 32, 97, 61, 34] ++ x ++ [34, 62] ++ x ++ [60, 47, 116, 62]
theorem val_t (x r s : Bs) (h : ∀ d ∈ x, d ≠ 34 ∧ d ≠ 60 ∧ d ≠ 62) (hu : unescA x = some s) : valueL (34 :: (x ++ 34 :: r)) = some (s, r) := by
  unfold valueL
  rw [show Lib.hasPrefix (34 :: (x ++ 34 :: r)) [34] = true from rfl]
  simp only [if_true]
  rw [show Lib.trimPrefix (34 :: (x ++ 34 :: r)) [34] = x ++ 34 :: r from rfl]
  unfold valQ
  rw [cut_free x 34 r (fun d hd => (h d hd).1)]
  have hc : x.contains 60 = false := by
    rw [Bool.eq_false_iff]
    intro e
    exact (h 60 (List.contains_iff_mem.1 e)).2.1 rfl
  simp only [hc, Bool.not_false, Bool.and_self, if_true, hu, Option.map_some]
theorem one_t (x r s : Bs) (h : ∀ d ∈ x, d ≠ 34 ∧ d ≠ 60 ∧ d ≠ 62) (hu : unescA x = some s) : oneL (97 :: 61 :: 34 :: (x ++ 34 :: r)) = some (([], [97], s), r) := by
  unfold oneL
  rw [full_at]
  simp only [show Lib.trimLeftS (61 :: 34 :: (x ++ 34 :: r)) blkL = 61 :: 34 :: (x ++ 34 :: r) by kernel_rfl, show Lib.hasPrefix (61 :: 34 :: (x ++ 34 :: r)) [61] = true from rfl, Bool.and_self, if_true, show Lib.trimPrefix (61 :: 34 :: (x ++ 34 :: r)) [61] = 34 :: (x ++ 34 :: r) from rfl, show Lib.trimLeftS (34 :: (x ++ 34 :: r)) blkL = 34 :: (x ++ 34 :: r) by kernel_rfl, val_t x r s h hu, Option.map_some]
theorem attrs_t (x r s : Bs) (h : ∀ d ∈ x, d ≠ 34 ∧ d ≠ 60 ∧ d ≠ 62) (hu : unescA x = some s) : attrsA (32 :: 97 :: 61 :: 34 :: (x ++ 34 :: 62 :: r)) = some ([([], [97], s)], false, r) := by
  unfold attrsA
  obtain ⟨n, hn⟩ : ∃ n, (32 :: 97 :: 61 :: 34 :: (x ++ 34 :: 62 :: r)).length + 1 = (n + 1) + 1 := ⟨(97 :: 61 :: 34 :: (x ++ 34 :: 62 :: r)).length, rfl⟩
  rw [hn]
  have e1 : Lib.trimLeftS (32 :: 97 :: 61 :: 34 :: (x ++ 34 :: 62 :: r)) blkL = 97 :: 61 :: 34 :: (x ++ 34 :: 62 :: r) := by kernel_rfl
  conv => lhs; unfold attrsL
  rw [e1, show Lib.hasPrefix (97 :: 61 :: 34 :: (x ++ 34 :: 62 :: r)) [47, 62] = false from rfl, show Lib.hasPrefix (97 :: 61 :: 34 :: (x ++ 34 :: 62 :: r)) [62] = false from rfl]
  simp only [Bool.false_eq_true, if_false]
  rw [if_pos (by simp), one_t x (62 :: r) s h hu]
  simp only [List.any_nil, Bool.false_eq_true, if_false, List.nil_append]
  conv => lhs; unfold attrsL
  rw [show Lib.trimLeftS (62 :: r) blkL = 62 :: r by kernel_rfl, show Lib.hasPrefix (62 :: r) [47, 62] = false from rfl, show Lib.hasPrefix (62 :: r) [62] = true from rfl]
  simp only [Bool.false_eq_true, if_false, if_true]
  rfl
theorem begin_t (x r s : Bs) (h : ∀ d ∈ x, d ≠ 34 ∧ d ≠ 60 ∧ d ≠ 62) (hu : unescA x = some s) : beginL xmlB (116 :: 32 :: 97 :: 61 :: 34 :: (x ++ 34 :: 62 :: r)) = some (⟨[], [116], [], [([], [97], s)], [], .nil, xmlB⟩, false, r, 1) := by
  unfold beginL
  rw [full_t]
  simp only [if_true, attrs_t x r s h hu]
  unfold elemL
  have h1 : isNs ([], [97], s) = false := by unfold isNs nsT; simp
  have h2 : bindOk [(([], [97], s) : At)] = true := by unfold bindOk nsT; simp
  have h3 : bindB [(([], [97], s) : At)] xmlB = xmlB := by unfold bindB; rw [h1]; rfl
  have h4 : attB xmlB [(([], [97], s) : At)] [] = ([([], [97], s)], true) := by unfold attB; rw [h1]; simp [atSp, attB]
  rw [h2, h3, h4, show spcL xmlB [] = ([], true) by kernel_rfl]
  rfl
theorem in_te (n : Nat) (f : Fr) (deep cnt : Nat) (full : Bool) (h : f.p = [] ∧ f.n = [116]) : inL (n + 1) [60, 47, 116, 62] f deep cnt full = some (f.el, [], cnt, full) := by
  conv => lhs; unfold inL
  rw [show Lib.hasPrefix [60, 47, 116, 62] noteO = false from rfl, show Lib.hasPrefix [60, 47, 116, 62] cdO = false from rfl, show Lib.hasPrefix [60, 47, 116, 62] [60, 47] = true from rfl]
  simp only [Bool.false_eq_true, if_false, if_true]
  rw [show Lib.trimPrefix [60, 47, 116, 62] [60, 47] = [116, 62] from rfl]
  unfold endL
  rw [show fullL [116, 62] = (([], [116], true), [62]) by kernel_rfl, h.1, h.2]
  rfl
theorem pre_not (c q : UInt8) (p t : Bs) (h : c ≠ q) : Lib.hasPrefix (c :: t) (q :: p) = false := by
  have h1 : (q == c) = false := by
    rw [beq_eq_false_iff_ne]
    exact fun e => h e.symm
  show (q == c && _) = false
  rw [h1]
  rfl
theorem in_t (n : Nat) (x s : Bs) (f : Fr) (deep cnt : Nat) (full : Bool) (hx : ∀ d ∈ x, d ≠ 34 ∧ d ≠ 60 ∧ d ≠ 62) (hu : unescA x = some s) (h : f.p = [] ∧ f.n = [116]) : inL (n + 2) (x ++ [60, 47, 116, 62]) f deep cnt full = some ((f.txt s).el, [], cnt, full) := by
  cases x with
  | nil =>
    rw [unescA_nil] at hu
    obtain rfl := Option.some.inj hu
    rw [List.nil_append, show n + 2 = (n + 1) + 1 from rfl, in_te (n + 1) f deep cnt full h]
    unfold Fr.txt Fr.el
    simp
  | cons c x =>
    have hc : c ≠ 60 := (hx c (List.mem_cons_self ..)).2.1
    rw [show n + 2 = (n + 1) + 1 from rfl]
    conv => lhs; unfold inL
    rw [List.cons_append, show noteO = 60 :: [33, 45, 45] from rfl, show cdO = 60 :: [33, 91, 67, 68, 65, 84, 65, 91] from rfl, pre_not c 60 _ _ hc, pre_not c 60 _ _ hc, pre_not c 60 [47] _ hc, pre_not c 60 [] _ hc]
    simp only [Bool.false_eq_true, if_false]
    rw [← List.cons_append, idx_free (c :: x) 60 [47, 116, 62] (fun d hd => (hx d hd).2.1), if_neg (by omega), Int.toNat_natCast, List.take_left, List.drop_left, hu]
    simp only
    exact in_te n (f.txt s) deep cnt full h
theorem root_t (x s : Bs) (hx : ∀ d ∈ x, d ≠ 34 ∧ d ≠ 60 ∧ d ≠ 62) (hu : unescA x = some s) : rootL xmlB (116 :: 32 :: 97 :: 61 :: 34 :: (x ++ 34 :: 62 :: (x ++ [60, 47, 116, 62]))) = some (⟨[], [116], [([], [97], s)], s, .nil⟩, [], 1, false) := by
  rw [rootL_elm]
  unfold elmL
  rw [begin_t x _ s hx hu]
  simp only [Bool.false_eq_true, if_false]
  obtain ⟨n, hn⟩ : ∃ n, (116 :: 32 :: 97 :: 61 :: 34 :: (x ++ 34 :: 62 :: (x ++ [60, 47, 116, 62]))).length + 1 = n + 2 := ⟨_, rfl⟩
  have hl : (116 :: 32 :: 97 :: 61 :: 34 :: (x ++ 34 :: 62 :: (x ++ [60, 47, 116, 62]))).length + 1 = ((116 :: 32 :: 97 :: 61 :: 34 :: (x ++ 34 :: 62 :: (x ++ [60, 47, 116, 62]))).length - 1) + 2 := by simp
  first
    | rw [in_t _ x s _ _ _ _ hx hu ⟨rfl, rfl⟩]; rfl
    | (rw [hl, in_t _ x s _ _ _ _ hx hu ⟨rfl, rfl⟩]; rfl)
theorem beg_t (y : Bs) : docBeg (60 :: 116 :: y) = some (116 :: y) := by kernel_rfl
theorem doc_t (x s : Bs) (hx : ∀ d ∈ x, d ≠ 34 ∧ d ≠ 60 ∧ d ≠ 62) (hu : unescA x = some s) : docL (textT x) = some (⟨[], [116], [([], [97], s)], s, .nil⟩, false) := by
  unfold docL
  rw [show textT x = 60 :: 116 :: 32 :: 97 :: 61 :: 34 :: (x ++ 34 :: 62 :: (x ++ [60, 47, 116, 62])) by simp [textT], beg_t]
  simp only [Option.bind_some, root_t x s hx hu]
  rw [if_pos (by kernel_rfl)]
theorem textT_len (x : Bs) : (textT x).length = 12 + 2 * x.length := by unfold textT; simp; omega
theorem textT_plain (x : Bs) : plainB (textT x) = plainB x := by
  unfold textT
  rw [plain_app, plain_app, plain_app, plain_app, show plainB [60, 116, 32, 97, 61, 34] = true by kernel_rfl, show plainB [34, 62] = true by kernel_rfl, show plainB [60, 47, 116, 62] = true by kernel_rfl]
  cases plainB x <;> rfl
/-- What is read of the text. -/
theorem parse_t (s : Bs) : parseL (textT (escL s)) = if 4090 < (escL s).length then (El.zero, 14) else if !plainB s then (El.zero, 11) else (⟨[], [116], [([], [97], s)], s, .nil⟩, 0) := by
  unfold parseL
  rw [textT_len, doc_t _ _ (escL_free s) (unesc_esc s), textT_plain, escL_plain]
  by_cases h : 4090 < (escL s).length
  · rw [if_pos (by omega), if_pos h]
  · rw [if_neg (by omega), if_neg h]
    simp
end Go.Proofs.YtmofnoconhgjmaaGreatDoor
/- What xml.Write writes, plainly: it is read as it was. It speaks of no program. -/
namespace Go.Proofs.YtmofnoconhgjmaaGreatDoor
open Go.RowKit
set_option linter.unusedVariables false
set_option linter.unusedSimpArgs false

def qP : Prs := [(9, [38, 35, 57, 59]), (10, [38, 35, 49, 48, 59]), (13, [38, 35, 49, 51, 59])]
def crP : Prs := [(13, [38, 35, 49, 51, 59])]
/-- A byte in a value, and in a text. -/
def qC (c : UInt8) : Bs := (rpC escP c).flatMap (rpC qP)
def tC (c : UInt8) : Bs := (rpC escP c).flatMap (rpC crP)
def quoL (s : Bs) : Bs := 34 :: (s.flatMap qC ++ [34])
def txtL (s : Bs) : Bs := s.flatMap tC
theorem rep_rep (P Q : Prs) (s : Bs) : repL Q (repL P s) = s.flatMap fun c => (rpC P c).flatMap (rpC Q) := by
  unfold repL; rw [List.flatMap_assoc]
theorem quoL_rep (s : Bs) : quoL s = 34 :: (repL qP (escL s) ++ [34]) := by unfold quoL escL; rw [rep_rep]; rfl
theorem txtL_rep (s : Bs) : txtL s = repL crP (escL s) := by unfold txtL escL; rw [rep_rep]; rfl
def midB (x : Bs) : Bs := (x.drop 1).dropLast
theorem qC_ent : ∀ c, (qC c = [c] ∧ c ≠ 38) ∨ (qC c = 38 :: (midB (qC c) ++ [59]) ∧ (∀ d ∈ midB (qC c), d ≠ 59) ∧ entL (midB (qC c)) = some [c]) := all_bytes (by decide +kernel)
theorem tC_ent : ∀ c, (tC c = [c] ∧ c ≠ 38) ∨ (tC c = 38 :: (midB (tC c) ++ [59]) ∧ (∀ d ∈ midB (tC c), d ≠ 59) ∧ entL (midB (tC c)) = some [c]) := all_bytes (by decide +kernel)
theorem qC_free : ∀ c, ∀ d ∈ qC c, d ≠ 34 ∧ d ≠ 60 ∧ d ≠ 62 := all_bytes (by decide +kernel)
theorem tC_free : ∀ c, ∀ d ∈ tC c, d ≠ 34 ∧ d ≠ 60 ∧ d ≠ 62 := all_bytes (by decide +kernel)
theorem qC_plain : ∀ c, plainB (qC c) = !ctlB c := all_bytes (by decide +kernel)
theorem tC_plain : ∀ c, plainB (tC c) = !ctlB c := all_bytes (by decide +kernel)
theorem map_free {m : UInt8 → Bs} (h : ∀ c, ∀ d ∈ m c, d ≠ 34 ∧ d ≠ 60 ∧ d ≠ 62) (s : Bs) : ∀ d ∈ s.flatMap m, d ≠ 34 ∧ d ≠ 60 ∧ d ≠ 62 := by
  intro d hd
  obtain ⟨c, -, h1⟩ := List.mem_flatMap.1 hd
  exact h c d h1
theorem map_plain {m : UInt8 → Bs} (h : ∀ c, plainB (m c) = !ctlB c) (s : Bs) : plainB (s.flatMap m) = plainB s := by
  induction s with
  | nil => rfl
  | cons c s ih => rw [List.flatMap_cons, plain_app, ih, h]; rfl
theorem map_unesc {m : UInt8 → Bs} (h : ∀ c, (m c = [c] ∧ c ≠ 38) ∨ (m c = 38 :: (midB (m c) ++ [59]) ∧ (∀ d ∈ midB (m c), d ≠ 59) ∧ entL (midB (m c)) = some [c])) (s : Bs) : unescA (s.flatMap m) = some s := by
  induction s with
  | nil => rfl
  | cons c s ih =>
    rw [List.flatMap_cons]
    rcases h c with ⟨e, hc⟩ | ⟨e, h1, h2⟩
    · rw [e, List.singleton_append, unescA_char c _ hc, ih]; rfl
    · generalize midB (m c) = n at e h1 h2
      rw [e, List.cons_append, List.append_assoc, unescA_amp]
      rw [show n ++ ([59] ++ s.flatMap m) = n ++ 59 :: s.flatMap m from rfl, cut_free n 59 _ h1]
      simp only [if_true, h2, Option.bind_some, ih, Option.map_some]
      rfl
/-- A value that is read. -/
theorem val_q (v r : Bs) : valueL (quoL v ++ r) = some (v, r) := by
  unfold quoL
  rw [List.cons_append, List.append_assoc]
  exact val_t (v.flatMap qC) r v (map_free qC_free v) (map_unesc qC_ent v)
/-- A name that is next. -/
theorem wd_name {n : Bs} {c : UInt8} (r : Bs) (hn : n.all innB = true) (hc : innB c = false) : wdA (n ++ c :: r) = n ∧ wdR (n ++ c :: r) = c :: r := by
  unfold wdA wdR
  induction n with
  | nil => rw [List.nil_append, List.takeWhile_cons, List.dropWhile_cons, hc]; exact ⟨rfl, rfl⟩
  | cons x n ih =>
    rw [List.all_cons, Bool.and_eq_true] at hn
    rw [List.cons_append, List.takeWhile_cons, List.dropWhile_cons, hn.1]
    exact ⟨by rw [if_pos rfl, (ih hn.2).1], by rw [if_pos rfl, (ih hn.2).2]⟩
theorem name_inn {n : Bs} (h : nameB n = true) : n.all innB = true := by
  unfold nameB at h
  simp only [Bool.and_eq_true] at h
  exact h.2
theorem full_n {n : Bs} {c : UInt8} (r : Bs) (hn : nameB n = true) (hc : innB c = false) (h58 : c ≠ 58) : fullL (n ++ c :: r) = (([], n, true), c :: r) := by
  obtain ⟨e1, e2⟩ := wd_name r (name_inn hn) hc
  unfold fullL
  rw [e1, e2, pre_one, show ((58 : UInt8) == c) = false from beq_eq_false_iff_ne.2 (fun e => h58 e.symm), hn]
  rfl
theorem full_pn {p n : Bs} {c : UInt8} (r : Bs) (hp : nameB p = true) (hn : nameB n = true) (hc : innB c = false) : fullL (p ++ 58 :: (n ++ c :: r)) = ((p, n, true), c :: r) := by
  obtain ⟨e1, e2⟩ := wd_name (n ++ c :: r) (name_inn hp) (show innB 58 = false by decide)
  obtain ⟨e3, e4⟩ := wd_name r (name_inn hn) hc
  unfold fullL
  rw [e1, e2, hp, pre_one]
  simp only [beq_self_eq_true, Bool.and_self, if_true, List.drop_succ_cons, List.drop_zero]
  rw [e3, e4, hn]
theorem trim_no {c : UInt8} (r : Bs) (h : blkL.contains c = false) : Lib.trimLeftS (c :: r) blkL = c :: r := by
  unfold Lib.trimLeftS
  rw [List.dropWhile_cons, h]
  rfl
theorem trimP_one (c : UInt8) (r : Bs) : Lib.trimPrefix (c :: r) [c] = r := by
  unfold Lib.trimPrefix
  rw [pre_one, beq_self_eq_true]
  rfl
/-- An attribute as it stands. -/
def fnT (a : At) : Bs := if a.1 = [] then a.2.1 else a.1 ++ 58 :: a.2.1
structure RawOk (a : At) : Prop where
  n : nameB a.2.1 = true
  p : a.1 = [] ∨ nameB a.1 = true
theorem full_raw {a : At} (h : RawOk a) (c : UInt8) (r : Bs) (hc : innB c = false) (h58 : c ≠ 58) : fullL (fnT a ++ c :: r) = ((a.1, a.2.1, true), c :: r) := by
  unfold fnT
  by_cases he : a.1 = []
  · rw [if_pos he, full_n r h.n hc h58, he]
  · rw [if_neg he, List.append_assoc, List.cons_append]
    exact full_pn r (h.p.resolve_left he) h.n hc
theorem one_raw {a : At} (h : RawOk a) (r : Bs) : oneL (fnT a ++ 61 :: (quoL a.2.2 ++ r)) = some (a, r) := by
  unfold oneL
  rw [full_raw h 61 _ (by decide) (by decide)]
  simp only
  rw [trim_no _ (show blkL.contains 61 = false by decide), pre_one, trimP_one]
  have e : Lib.trimLeftS (quoL a.2.2 ++ r) blkL = quoL a.2.2 ++ r := by
    unfold quoL
    rw [List.cons_append]
    exact trim_no _ (by decide)
  rw [e, val_q]
  rfl
def rawT (l : List At) : Bs := l.flatMap fun a => 32 :: (fnT a ++ 61 :: quoL a.2.2)
theorem rawT_cons (a : At) (l : List At) : rawT (a :: l) = 32 :: (fnT a ++ 61 :: (quoL a.2.2 ++ rawT l)) := by
  unfold rawT
  rw [List.flatMap_cons]
  simp
theorem fnT_head {a : At} (h : RawOk a) : ∃ c t, fnT a = c :: t ∧ begB c = true := by
  have hd : ∀ {n : Bs}, nameB n = true → ∃ c t, n = c :: t ∧ begB c = true := by
    intro n hn
    unfold nameB at hn
    simp only [Bool.and_eq_true] at hn
    cases n with
    | nil => simp at hn
    | cons c t => exact ⟨c, t, rfl, by simpa using hn.1.2⟩
  unfold fnT
  by_cases he : a.1 = []
  · rw [if_pos he]; exact hd h.n
  · rw [if_neg he]
    obtain ⟨c, t, e, hb⟩ := hd (h.p.resolve_left he)
    exact ⟨c, t ++ 58 :: a.2.1, by rw [e]; rfl, hb⟩
theorem beg_not : ∀ c, begB c = true → blkL.contains c = false ∧ c ≠ 47 ∧ c ≠ 62 ∧ c ≠ 33 ∧ c ≠ 63 ∧ c ≠ 60 := all_bytes (by decide +kernel)
/-- Attributes that are read: none of them is there twice. -/
def Fresh (acc l : List At) : Prop := match l with
  | [] => True
  | a :: l => acc.any (sameF a) = false ∧ Fresh (acc ++ [a]) l
theorem attrs_raw : ∀ (l : List At) (acc : List At) (r : Bs) (n : Nat), l.length < n → (∀ a ∈ l, RawOk a) → Fresh acc l → attrsL n (rawT l ++ 62 :: r) acc = some (acc ++ l, false, r) := by
  intro l
  induction l with
  | nil =>
    intro acc r n hn _ _
    obtain ⟨n, rfl⟩ : ∃ k, n = k + 1 := ⟨n - 1, by simp at hn; omega⟩
    show attrsL (n + 1) (62 :: r) acc = _
    unfold attrsL
    rw [trim_no r (show blkL.contains 62 = false by decide), pre_not 62 47 [62] r (by decide), pre_one, trimP_one, List.append_nil]
    rfl
  | cons a l ih =>
    intro acc r n hn hok hf
    obtain ⟨n, rfl⟩ : ∃ k, n = k + 1 := ⟨n - 1, by simp at hn; omega⟩
    have ha := hok a (List.mem_cons_self ..)
    obtain ⟨c, t, he, hb⟩ := fnT_head ha
    obtain ⟨b1, b2, b3, -, -, -⟩ := beg_not c hb
    have e1 : rawT (a :: l) ++ 62 :: r = 32 :: (fnT a ++ 61 :: (quoL a.2.2 ++ (rawT l ++ 62 :: r))) := by rw [rawT_cons]; simp
    have e2 : Lib.trimLeftS (32 :: (fnT a ++ 61 :: (quoL a.2.2 ++ (rawT l ++ 62 :: r)))) blkL = fnT a ++ 61 :: (quoL a.2.2 ++ (rawT l ++ 62 :: r)) := by
      rw [he, List.cons_append]
      unfold Lib.trimLeftS
      rw [List.dropWhile_cons, show blkL.contains 32 = true by decide, if_pos rfl, List.dropWhile_cons, b1]
      rfl
    rw [e1]
    unfold attrsL
    rw [e2]
    have p1 : Lib.hasPrefix (fnT a ++ 61 :: (quoL a.2.2 ++ (rawT l ++ 62 :: r))) [47, 62] = false := by rw [he]; exact pre_not c 47 [62] _ b2
    have p2 : Lib.hasPrefix (fnT a ++ 61 :: (quoL a.2.2 ++ (rawT l ++ 62 :: r))) [62] = false := by rw [he]; exact pre_not c 62 [] _ b3
    rw [p1, p2, one_raw ha]
    simp only [Bool.false_eq_true, if_false]
    rw [if_pos (by simp), hf.1]
    simp only [Bool.false_eq_true, if_false]
    rw [ih (acc ++ [a]) r n (by simp at hn; omega) (fun x hx => hok x (List.mem_cons_of_mem _ hx)) hf.2, List.append_assoc]
    rfl
/-- The prefix that an attribute's space is written with. -/
def pI (i : Nat) : Bs := 112 :: Lib.decDigits i
theorem nsT_name : nameB nsT = true := by decide +kernel
theorem nsT_ne : ¬ ([] : Bs) = nsT := by decide +kernel
theorem pI_name : ∀ i : Fin 16, nameB (pI i.val) = true := by decide +kernel
theorem pI_inj : ∀ i j : Fin 16, pI i.val = pI j.val → i = j := by decide +kernel
theorem pI_ns (i : Nat) : pI i ≠ nsT := by unfold pI nsT; intro h; have := (List.cons.inj h).1; revert this; decide
theorem pI_ne (i : Nat) : pI i ≠ [] := by unfold pI; simp
theorem pI_eq {i j : Nat} (hi : i < 16) (hj : j < 16) (h : pI i = pI j) : i = j := by
  have := pI_inj ⟨i, hi⟩ ⟨j, hj⟩ h
  exact congrArg Fin.val this
/-- The attributes as they are written, behind the first one (the element's space). -/
def rawAt : Nat → List At → List At
  | _, [] => []
  | i, a :: l => (if a.1 = [] then [([], a.2.1, a.2.2)] else [(nsT, pI i, a.1), (pI i, a.2.1, a.2.2)]) ++ rawAt (i + 1) l
def rawE (s : Bs) (ats : List At) : List At := ([], nsT, s) :: rawAt 0 ats
structure AtOk (a : At) : Prop where
  n : nameB a.2.1 = true
  ns : a.1 = [] → a.2.1 ≠ nsT
/-- No attribute is there twice. -/
def AtsNew (acc l : List At) : Prop := match l with
  | [] => True
  | a :: l => acc.any (sameA a.1 a.2.1) = false ∧ AtsNew (acc ++ [a]) l
theorem rawAt_ok : ∀ (ats : List At) (i : Nat), i + ats.length ≤ 16 → (∀ a ∈ ats, AtOk a) → ∀ a ∈ rawAt i ats, RawOk a := by
  intro ats
  induction ats with
  | nil => intro i _ _ a ha; cases ha
  | cons x l ih =>
    intro i hi hok a ha
    have hi' : i < 16 := by simp at hi; omega
    have hx := hok x (List.mem_cons_self ..)
    rcases List.mem_append.1 ha with h | h
    · by_cases he : x.1 = []
      · rw [if_pos he] at h
        obtain rfl := List.mem_singleton.1 h
        exact ⟨hx.n, .inl rfl⟩
      · rw [if_neg he] at h
        simp only [List.mem_cons, List.not_mem_nil, or_false] at h
        rcases h with rfl | rfl
        · exact ⟨pI_name ⟨i, hi'⟩, .inr nsT_name⟩
        · exact ⟨hx.n, .inr (pI_name ⟨i, hi'⟩)⟩
    · exact ih (i + 1) (by simp at hi ⊢; omega) (fun y hy => hok y (List.mem_cons_of_mem _ hy)) a h
/-- What has been read so far: the first one, those of lower numbers, those without a space. -/
def OldA (i : Nat) (done : List At) (x : At) : Prop :=
  (x.1 = [] ∧ x.2.1 = nsT) ∨ (∃ j, j < i ∧ x.1 = nsT ∧ x.2.1 = pI j) ∨ (∃ j, j < i ∧ x.1 = pI j) ∨ (x.1 = [] ∧ ∃ d ∈ done, d.1 = [] ∧ d.2.1 = x.2.1)
theorem rawAt_fresh : ∀ (ats : List At) (i : Nat) (done acc : List At), i + ats.length ≤ 16 → (∀ a ∈ ats, AtOk a) → AtsNew done ats → (∀ x ∈ acc, OldA i done x) → Fresh acc (rawAt i ats) := by
  intro ats
  induction ats with
  | nil => intro i done acc _ _ _ _; trivial
  | cons a l ih =>
    intro i done acc hi hok hn hacc
    have hi' : i < 16 := by simp at hi; omega
    have ha := hok a (List.mem_cons_self ..)
    have hnew : ∀ d ∈ done, ¬ (a.1 = d.1 ∧ a.2.1 = d.2.1) := by
      intro d hd h
      have h1 := hn.1
      rw [List.any_eq_false] at h1
      exact h1 d hd (by unfold sameA; simp [h.1, h.2])
    have hold : ∀ x, OldA i done x → OldA (i + 1) (done ++ [a]) x := by
      rintro x (h | ⟨j, hj, h⟩ | ⟨j, hj, h⟩ | ⟨h1, d, hd, h2⟩)
      · exact .inl h
      · exact .inr (.inl ⟨j, by omega, h⟩)
      · exact .inr (.inr (.inl ⟨j, by omega, h⟩))
      · exact .inr (.inr (.inr ⟨h1, d, List.mem_append_left _ hd, h2⟩))
    by_cases he : a.1 = []
    · have e : rawAt i (a :: l) = ([], a.2.1, a.2.2) :: rawAt (i + 1) l := by
        show (if a.1 = [] then _ else _) ++ _ = _
        rw [if_pos he]; rfl
      rw [e]
      refine ⟨?_, ih (i + 1) (done ++ [a]) _ (by simp at hi ⊢; omega) (fun y hy => hok y (List.mem_cons_of_mem _ hy)) hn.2 ?_⟩
      · rw [List.any_eq_false]
        intro x hx h
        unfold sameF at h
        simp only [Bool.and_eq_true, decide_eq_true_eq] at h
        rcases hacc x hx with h1 | ⟨j, hj, h1, -⟩ | ⟨j, hj, h1⟩ | ⟨h1, d, hd, h2, h3⟩
        · exact ha.ns he (by rw [← h.2]; exact h1.2)
        · rw [h.1] at h1; exact absurd h1 (by decide +kernel)
        · rw [h.1] at h1; exact pI_ne j h1.symm
        · exact hnew d hd ⟨by rw [he, h2], by rw [← h.2, h3]⟩
      · intro x hx
        rcases List.mem_append.1 hx with h | h
        · exact hold x (hacc x h)
        · obtain rfl := List.mem_singleton.1 h
          exact .inr (.inr (.inr ⟨rfl, a, by simp, he, rfl⟩))
    · have e : rawAt i (a :: l) = (nsT, pI i, a.1) :: (pI i, a.2.1, a.2.2) :: rawAt (i + 1) l := by
        show (if a.1 = [] then _ else _) ++ _ = _
        rw [if_neg he]; rfl
      rw [e]
      have k1 : acc.any (sameF (nsT, pI i, a.1)) = false := by
        rw [List.any_eq_false]
        intro x hx h
        unfold sameF at h
        simp only [Bool.and_eq_true, decide_eq_true_eq] at h
        rcases hacc x hx with h1 | ⟨j, hj, h1, h2⟩ | ⟨j, hj, h1⟩ | ⟨h1, -⟩
        · rw [h.1] at h1; exact absurd h1.1 (by decide +kernel)
        · rw [h.2] at h2; have := pI_eq hi' (by omega) h2; omega
        · rw [h.1] at h1; exact pI_ns j h1.symm
        · rw [h.1] at h1; exact absurd h1 (by decide +kernel)
      have k2 : (acc ++ [((nsT, pI i, a.1) : At)]).any (sameF (pI i, a.2.1, a.2.2)) = false := by
        rw [List.any_eq_false]
        intro x hx h
        unfold sameF at h
        simp only [Bool.and_eq_true, decide_eq_true_eq] at h
        rcases List.mem_append.1 hx with hx | hx
        · rcases hacc x hx with h1 | ⟨j, hj, h1, h2⟩ | ⟨j, hj, h1⟩ | ⟨h1, -⟩
          · rw [h.1] at h1; exact pI_ne i h1.1
          · rw [h.1] at h1; exact pI_ns i h1
          · rw [h.1] at h1; have := pI_eq hi' (by omega) h1; omega
          · rw [h.1] at h1; exact pI_ne i h1
        · obtain rfl := List.mem_singleton.1 hx
          exact pI_ns i h.1.symm
      refine ⟨k1, k2, ih (i + 1) (done ++ [a]) _ (by simp at hi ⊢; omega) (fun y hy => hok y (List.mem_cons_of_mem _ hy)) hn.2 ?_⟩
      intro x hx
      simp only [List.mem_append, List.mem_cons, List.not_mem_nil, or_false] at hx
      rcases hx with (h | rfl) | rfl
      · exact hold x (hacc x h)
      · exact .inr (.inl ⟨i, by omega, rfl, rfl⟩)
      · exact .inr (.inr (.inl ⟨i, by omega, rfl⟩))
theorem isNs_1 (n v : Bs) (h : n ≠ nsT) : isNs ([], n, v) = false := by
  unfold isNs
  simp only [Bool.or_eq_false_iff, decide_eq_false_iff_not, Bool.and_eq_false_iff]
  exact ⟨by decide +kernel, .inr h⟩
theorem isNs_2 (n v : Bs) : isNs (nsT, n, v) = true := by unfold isNs; simp
theorem isNs_3 (i : Nat) (n v : Bs) : isNs (pI i, n, v) = false := by
  unfold isNs
  simp only [Bool.or_eq_false_iff, decide_eq_false_iff_not, Bool.and_eq_false_iff]
  exact ⟨pI_ns i, .inl (pI_ne i)⟩
theorem isNs_0 (v : Bs) : isNs ([], nsT, v) = true := by unfold isNs; simp
theorem spc_cons (k v p : Bs) (bs : List (Bs × Bs)) : spcL ((k, v) :: bs) p = if k = p then (v, true) else spcL bs p := by
  unfold spcL
  rw [List.find?_cons]
  by_cases h : k = p
  · rw [if_pos h, decide_eq_true h]
  · rw [if_neg h, decide_eq_false h]
theorem bind_raw1 (a : At) (l : List At) (i : Nat) (bs : List (Bs × Bs)) (h : AtOk a) : bindB (rawAt i (a :: l)) bs = bindB (rawAt (i + 1) l) (if a.1 = [] then bs else (pI i, a.1) :: bs) := by
  by_cases he : a.1 = []
  · have e : rawAt i (a :: l) = ([], a.2.1, a.2.2) :: rawAt (i + 1) l := by
      show (if a.1 = [] then _ else _) ++ _ = _
      rw [if_pos he]; rfl
    rw [e, if_pos he]
    conv => lhs; unfold bindB
    rw [isNs_1 _ _ (h.ns he)]
    rfl
  · have e : rawAt i (a :: l) = (nsT, pI i, a.1) :: (pI i, a.2.1, a.2.2) :: rawAt (i + 1) l := by
      show (if a.1 = [] then _ else _) ++ _ = _
      rw [if_neg he]; rfl
    rw [e, if_neg he]
    conv => lhs; unfold bindB
    rw [isNs_2]
    conv => lhs; unfold bindB
    rw [isNs_3, show nsOf (nsT, pI i, a.1) = pI i by unfold nsOf; rw [if_pos rfl]]
    rfl
theorem bind_other : ∀ (ats : List At) (i : Nat) (bs : List (Bs × Bs)) (p : Bs), (∀ a ∈ ats, AtOk a) → (∀ j, i ≤ j → j < i + ats.length → p ≠ pI j) → spcL (bindB (rawAt i ats) bs) p = spcL bs p := by
  intro ats
  induction ats with
  | nil => intro i bs p _ _; rfl
  | cons a l ih =>
    intro i bs p hok hp
    rw [bind_raw1 a l i bs (hok a (List.mem_cons_self ..)), ih (i + 1) _ p (fun y hy => hok y (List.mem_cons_of_mem _ hy)) (fun j h1 h2 => hp j (by omega) (by simp; omega))]
    by_cases he : a.1 = []
    · rw [if_pos he]
    · rw [if_neg he, spc_cons, if_neg (fun e => hp i (Nat.le_refl _) (by simp) e.symm)]
theorem bind_own : ∀ (ats : List At) (i k : Nat) (bs : List (Bs × Bs)) (a : At), i + ats.length ≤ 16 → (∀ a ∈ ats, AtOk a) → ats[k]? = some a → a.1 ≠ [] → spcL (bindB (rawAt i ats) bs) (pI (i + k)) = (a.1, true) := by
  intro ats
  induction ats with
  | nil => intro i k bs a _ _ h; simp at h
  | cons x l ih =>
    intro i k bs a hi hok hk ha
    rw [bind_raw1 x l i bs (hok x (List.mem_cons_self ..))]
    cases k with
    | zero =>
      obtain rfl : x = a := by simpa using hk
      simp only [Nat.add_zero]
      rw [bind_other l (i + 1) _ _ (fun y hy => hok y (List.mem_cons_of_mem _ hy)) (fun j h1 h2 e => by have := pI_eq (by simp at hi; omega) (by simp at hi; omega) e; omega), if_neg ha, spc_cons, if_pos rfl]
    | succ k =>
      have := ih (i + 1) k (if x.1 = [] then bs else (pI i, x.1) :: bs) a (by simp at hi ⊢; omega) (fun y hy => hok y (List.mem_cons_of_mem _ hy)) (by simpa using hk) ha
      rw [show i + (k + 1) = i + 1 + k by omega]
      exact this
theorem att_raw : ∀ (ats : List At) (i : Nat) (BS : List (Bs × Bs)) (acc : List At), (∀ a ∈ ats, AtOk a) → (∀ k a, ats[k]? = some a → a.1 ≠ [] → spcL BS (pI (i + k)) = (a.1, true)) → AtsNew acc ats → attB BS (rawAt i ats) acc = (acc ++ ats, true) := by
  intro ats
  induction ats with
  | nil => intro i BS acc _ _ _; rw [List.append_nil]; rfl
  | cons a l ih =>
    intro i BS acc hok hsp hn
    have ha := hok a (List.mem_cons_self ..)
    have hrec := ih (i + 1) BS (acc ++ [a]) (fun y hy => hok y (List.mem_cons_of_mem _ hy)) (fun k b hb h => by
      have := hsp (k + 1) b (by simpa using hb) h
      rw [show i + (k + 1) = i + 1 + k by omega] at this
      exact this) hn.2
    rw [List.append_assoc, List.singleton_append] at hrec
    obtain ⟨a1, a2, a3⟩ := a
    by_cases he : a1 = []
    · subst he
      have e : rawAt i ((([], a2, a3) : At) :: l) = ([], a2, a3) :: rawAt (i + 1) l := rfl
      rw [e, attB_at BS _ _ acc (isNs_1 _ _ (ha.ns rfl))]
      have es : (atSp BS ([] : Bs)) = ([], true) := by unfold atSp; rw [if_pos rfl]
      simp only [es]
      rw [hrec]
      have h1 := hn.1
      simp only at h1
      rw [h1]
      rfl
    · have e : rawAt i (((a1, a2, a3) : At) :: l) = (nsT, pI i, a1) :: (pI i, a2, a3) :: rawAt (i + 1) l := by
        show (if a1 = [] then _ else _) ++ _ = _
        rw [if_neg he]; rfl
      rw [e]
      conv => lhs; unfold attB
      rw [isNs_2, if_pos rfl, attB_at BS _ _ acc (isNs_3 _ _ _)]
      have es : (atSp BS (pI i)) = (a1, true) := by
        unfold atSp
        rw [if_neg (pI_ne i)]
        have := hsp 0 (a1, a2, a3) rfl he
        rwa [Nat.add_zero] at this
      simp only [es]
      rw [hrec]
      have h1 := hn.1
      simp only at h1
      rw [h1]
      rfl
theorem bindOk_raw : ∀ (ats : List At) (i : Nat), bindOk (rawAt i ats) = true := by
  intro ats
  induction ats with
  | nil => intro i; rfl
  | cons a l ih =>
    intro i
    unfold bindOk at ih ⊢
    show ((if a.1 = [] then _ else _) ++ rawAt (i + 1) l).all _ = true
    rw [List.all_append, ih (i + 1), Bool.and_true]
    by_cases he : a.1 = []
    · rw [if_pos he]; simp [nsT]
    · rw [if_neg he]
      simp only [List.all_cons, List.all_nil, Bool.and_true, Bool.and_eq_true, Bool.not_eq_true', Bool.and_eq_false_iff, decide_eq_false_iff_not]
      exact ⟨.inr he, .inl (pI_ns i)⟩
/-- What is right of an element's beginning. -/
structure WfA (n : Bs) (s : Bs) (ats : List At) : Prop where
  name : nameB n = true
  aok : ∀ a ∈ ats, AtOk a
  new : AtsNew [] ats
  len : (rawE s ats).length ≤ 16
theorem rawAt_len : ∀ (ats : List At) (i : Nat), ats.length ≤ (rawAt i ats).length := by
  intro ats
  induction ats with
  | nil => intro i; exact Nat.le_refl _
  | cons a l ih =>
    intro i
    have := ih (i + 1)
    show l.length + 1 ≤ ((if a.1 = [] then _ else _) ++ rawAt (i + 1) l).length
    rw [List.length_append]
    split <;> simp <;> omega
theorem begin_w {n s : Bs} {ats : List At} (h : WfA n s ats) (up : List (Bs × Bs)) (r : Bs) : beginL up (n ++ rawT (rawE s ats) ++ 62 :: r) = some (⟨[], n, s, ats, [], .nil, bindB (rawE s ats) up⟩, false, r, (rawE s ats).length) := by
  have hl : ats.length ≤ 15 := by have := h.len; have := rawAt_len ats 0; unfold rawE at *; simp at *; omega
  have hok0 : ∀ a ∈ rawE s ats, RawOk a := by
    intro a ha
    rcases List.mem_cons.1 ha with rfl | ha
    · exact ⟨nsT_name, .inl rfl⟩
    · exact rawAt_ok ats 0 (by omega) h.aok a ha
  have hfr : Fresh [] (rawE s ats) := ⟨rfl, rawAt_fresh ats 0 [] [([], nsT, s)] (by omega) h.aok h.new (fun x hx => by obtain rfl := List.mem_singleton.1 hx; exact .inl ⟨rfl, rfl⟩)⟩
  have e1 : n ++ rawT (rawE s ats) ++ 62 :: r = n ++ 32 :: (fnT (([], nsT, s) : At) ++ 61 :: (quoL s ++ (rawT (rawAt 0 ats) ++ 62 :: r))) := by
    unfold rawE; rw [rawT_cons]; simp
  have e2 : (32 :: (fnT (([], nsT, s) : At) ++ 61 :: (quoL s ++ (rawT (rawAt 0 ats) ++ 62 :: r))) : Bs) = rawT (rawE s ats) ++ 62 :: r := by
    unfold rawE; rw [rawT_cons]; simp
  unfold beginL
  rw [e1, full_n _ h.name (by decide) (by decide)]
  simp only [if_true]
  rw [e2]
  unfold attrsA
  rw [attrs_raw (rawE s ats) [] r _ ?_ hok0 hfr]
  · simp only [List.nil_append]
    have hb0 : bindOk (rawE s ats) = true := by
      have := bindOk_raw ats 0
      unfold bindOk at this ⊢
      unfold rawE
      rw [List.all_cons, this]
      simp [nsT]
    have hb1 : bindB (rawE s ats) up = bindB (rawAt 0 ats) (([], s) :: up) := by
      unfold rawE
      conv => lhs; unfold bindB
      rw [isNs_0, show nsOf ([], nsT, s) = [] by unfold nsOf; rw [if_neg nsT_ne]]
      rfl
    have hb2 : spcL (bindB (rawE s ats) up) [] = (s, true) := by
      rw [hb1, bind_other ats 0 _ [] h.aok (fun j _ _ e => pI_ne j e.symm), spc_cons, if_pos rfl]
    have hb3 : attB (bindB (rawE s ats) up) (rawE s ats) [] = (ats, true) := by
      have := att_raw ats 0 (bindB (rawE s ats) up) [] h.aok (fun k a hk ha => by rw [hb1]; exact bind_own ats 0 k _ a (by omega) h.aok hk ha) h.new
      unfold rawE at this ⊢
      conv => lhs; unfold attB
      rw [isNs_0, if_pos rfl]
      exact this
    rw [elemL_some (by rw [hb0, hb2, hb3]; rfl), hb2, hb3]
    rfl
  · have : (rawE s ats).length ≤ (rawT (rawE s ats)).length := by
      generalize rawE s ats = l
      induction l with
      | nil => exact Nat.le_refl _
      | cons a l ih => rw [rawT_cons]; simp; omega
    simp only [List.length_append, List.length_cons]; omega
end Go.Proofs.YtmofnoconhgjmaaGreatDoor
/- Elements that are written are read as they were; a document with blanks and comments around it. It speaks of no program. -/
namespace Go.Proofs.YtmofnoconhgjmaaGreatDoor
open Go.RowKit
set_option linter.unusedVariables false
set_option linter.unusedSimpArgs false

def Fo.app : Fo → Fo → Fo
  | .nil, g => g
  | .cons s n ats tx k next, g => .cons s n ats tx k (next.app g)
theorem Fo.app_nil (f : Fo) : f.app .nil = f := by
  induction f with
  | nil => rfl
  | cons s n ats tx k next _ ih => simp only [Fo.app, ih]
theorem Fo.snoc_app (f : Fo) (e : El) (g : Fo) : (f.snoc e).app g = f.app (.cons e.s e.n e.ats e.tx e.kids g) := by
  induction f with
  | nil => rfl
  | cons s n ats tx k next _ ih => simp only [Fo.snoc, Fo.app, ih]
/-- Elements as a text. -/
def textF : Fo → Bs
  | .nil => []
  | .cons s n ats tx k next => 60 :: (n ++ (rawT (rawE s ats) ++ 62 :: (txtL tx ++ (textF k ++ 60 :: 47 :: (n ++ [62]))))) ++ textF next
theorem textF_rec (s n : Bs) (ats : List At) (tx : Bs) (k next : Fo) : textF (.cons s n ats tx k next) = 60 :: (n ++ (rawT (rawE s ats) ++ 62 :: (txtL tx ++ (textF k ++ 60 :: 47 :: (n ++ [62]))))) ++ textF next := rfl
def WfF : Nat → Fo → Prop
  | _, .nil => True
  | d, .cons s n ats _ k next => d ≤ 8 ∧ WfA n s ats ∧ WfF (d + 1) k ∧ WfF d next
theorem inL_fuel : ∀ (n k : Nat) (r : Bs) (f : Fr) (deep cnt : Nat) (full : Bool), r.length < n → r.length < k → inL n r f deep cnt full = inL k r f deep cnt full := by
  intro n
  induction n with
  | zero => intro k r _ _ _ _ h; omega
  | succ n ih =>
    intro k r f deep cnt full h1 h2
    obtain ⟨k, rfl⟩ : ∃ j, k = j + 1 := ⟨k - 1, by omega⟩
    unfold inL
    split
    · rename_i hp
      have := trimP_len hp
      have h4 : noteO.length = 4 := rfl
      have := cut_len (Lib.trimPrefix r noteO) noteC
      split
      · exact ih k _ f deep cnt full (by omega) (by omega)
      · rfl
    split
    · rename_i hp
      have := trimP_len hp
      have h4 : cdO.length = 9 := rfl
      have := cut_len (Lib.trimPrefix r cdO) cdC
      split
      · exact ih k _ _ deep cnt full (by omega) (by omega)
      · rfl
    split
    · rfl
    split
    · rename_i hp
      have := trimP_len hp
      simp only [List.length_cons, List.length_nil] at this
      cases hb : beginL f.bs (Lib.trimPrefix r [60]) with
      | none => rfl
      | some y =>
        obtain ⟨g, emp, r', kk⟩ := y
        have := beginL_len hb
        cases emp
        · simp only
          rw [ih k r' g (deep + 1) (cnt + 1) _ (by omega) (by omega)]
          cases hi : inL k r' g (deep + 1) (cnt + 1) (fullB full (cnt + 1) (deep + 1) kk) with
          | none => rfl
          | some x =>
            obtain ⟨e, r2, c2, f2⟩ := x
            have := inL_len k hi
            exact ih k r2 (f.kid e) deep c2 f2 (by simp only at this; omega) (by simp only at this; omega)
        · exact ih k r' (f.kid g.el) deep (cnt + 1) _ (by omega) (by omega)
    rename_i h4
    split
    · rfl
    · rename_i h5
      have := index_pos (by simpa using h4) h5
      split
      · rfl
      · exact ih k _ _ deep cnt full (by simp only [List.length_drop]; omega) (by simp only [List.length_drop]; omega)
def inA (r : Bs) (f : Fr) (deep cnt : Nat) (full : Bool) : Option Res := inL (r.length + 1) r f deep cnt full
theorem inA_of (n : Nat) (r : Bs) (f : Fr) (deep cnt : Nat) (full : Bool) (h : r.length < n) : inL n r f deep cnt full = inA r f deep cnt full := inL_fuel _ _ _ _ _ _ _ h (Nat.lt_succ_self _)
theorem txt_nil (f : Fr) : f.txt [] = f := by unfold Fr.txt; simp
theorem inA_text (tx r : Bs) (f : Fr) (deep cnt : Nat) (full : Bool) : inA (txtL tx ++ 60 :: r) f deep cnt full = inA (60 :: r) (f.txt tx) deep cnt full := by
  have hx := map_free tC_free tx
  have hu := map_unesc tC_ent tx
  change ∀ d ∈ txtL tx, _ at hx
  change unescA (txtL tx) = _ at hu
  generalize txtL tx = x at hx hu
  cases x with
  | nil =>
    rw [unescA_nil] at hu
    obtain rfl := Option.some.inj hu
    rw [txt_nil]
    rfl
  | cons c x =>
    have hc : c ≠ 60 := (hx c (List.mem_cons_self ..)).2.1
    show inL ((c :: x ++ 60 :: r).length + 1) (c :: x ++ 60 :: r) f deep cnt full = _
    conv => lhs; unfold inL
    rw [List.cons_append, show noteO = 60 :: [33, 45, 45] from rfl, show cdO = 60 :: [33, 91, 67, 68, 65, 84, 65, 91] from rfl, pre_not c 60 _ _ hc, pre_not c 60 _ _ hc, pre_not c 60 [47] _ hc, pre_not c 60 [] _ hc]
    simp only [Bool.false_eq_true, if_false]
    rw [← List.cons_append, idx_free (c :: x) 60 r (fun d hd => (hx d hd).2.1), if_neg (by omega), Int.toNat_natCast, List.take_left, List.drop_left, hu]
    simp only
    exact inA_of _ _ _ _ _ _ (by simp; omega)
theorem trim_blanks (b : Bs) (hb : ∀ d ∈ b, blkL.contains d = true) (c : UInt8) (r : Bs) (hc : blkL.contains c = false) : Lib.trimLeftS (b ++ c :: r) blkL = c :: r := by
  induction b with
  | nil => exact trim_no r hc
  | cons d b ih =>
    unfold Lib.trimLeftS at ih ⊢
    rw [List.cons_append, List.dropWhile_cons, hb d (List.mem_cons_self ..), if_pos rfl]
    exact ih (fun x hx => hb x (List.mem_cons_of_mem _ hx))
theorem blk_inn : ∀ c, blkL.contains c = true → innB c = false ∧ c ≠ 58 := all_bytes (by decide +kernel)
theorem full_pad {n : Bs} (hn : nameB n = true) (b r : Bs) (hb : ∀ d ∈ b, blkL.contains d = true) : fullL (n ++ (b ++ 62 :: r)) = (([], n, true), b ++ 62 :: r) := by
  cases b with
  | nil => exact full_n r hn (by decide) (by decide)
  | cons c b => exact full_n _ hn (blk_inn c (hb c (List.mem_cons_self ..))).1 (blk_inn c (hb c (List.mem_cons_self ..))).2
theorem inA_end (n b r : Bs) (f : Fr) (deep cnt : Nat) (full : Bool) (hn : nameB n = true) (hb : ∀ d ∈ b, blkL.contains d = true) (hp : f.p = []) (hf : f.n = n) : inA (60 :: 47 :: (n ++ (b ++ 62 :: r))) f deep cnt full = some (f.el, r, cnt, full) := by
  unfold inA inL
  rw [show Lib.hasPrefix (60 :: 47 :: (n ++ (b ++ 62 :: r))) noteO = false from rfl, show Lib.hasPrefix (60 :: 47 :: (n ++ (b ++ 62 :: r))) cdO = false from rfl, show Lib.hasPrefix (60 :: 47 :: (n ++ (b ++ 62 :: r))) [60, 47] = true from rfl]
  simp only [Bool.false_eq_true, if_false, if_true]
  rw [show Lib.trimPrefix (60 :: 47 :: (n ++ (b ++ 62 :: r))) [60, 47] = n ++ (b ++ 62 :: r) from rfl]
  unfold endL
  rw [full_pad hn b r hb, trim_blanks b hb 62 r (by decide), pre_one, trimP_one, hp, hf]
  simp
theorem name_head {n : Bs} (h : nameB n = true) : ∃ c t, n = c :: t ∧ begB c = true := by
  unfold nameB at h
  simp only [Bool.and_eq_true] at h
  cases n with
  | nil => simp at h
  | cons c t => exact ⟨c, t, rfl, by simpa using h.1.2⟩
theorem lt_pre {n : Bs} (h : nameB n = true) (r : Bs) : Lib.hasPrefix (60 :: (n ++ r)) noteO = false ∧ Lib.hasPrefix (60 :: (n ++ r)) cdO = false ∧ Lib.hasPrefix (60 :: (n ++ r)) [60, 47] = false ∧ Lib.hasPrefix (60 :: (n ++ r)) [60] = true := by
  obtain ⟨c, t, rfl, hb⟩ := name_head h
  obtain ⟨-, h1, -, h2, -, -⟩ := beg_not c hb
  have k : ∀ (q : UInt8) (p : Bs), c ≠ q → Lib.hasPrefix (60 :: (c :: t ++ r)) (60 :: q :: p) = false := by
    intro q p hq
    have := pre_not c q p (t ++ r) hq
    unfold Lib.hasPrefix at this ⊢
    rw [List.cons_append, List.isPrefixOf_cons_cons, this]
    rfl
  exact ⟨k 33 [45, 45] h2, k 33 [91, 67, 68, 65, 84, 65, 91] h2, k 47 [] h1, rfl⟩
theorem F_lt (F : Fo) (r : Bs) : ∃ r2, textF F ++ 60 :: r = 60 :: r2 := by
  cases F with
  | nil => exact ⟨r, rfl⟩
  | cons s n ats tx k next => exact ⟨_, rfl⟩
theorem kids_eta (f : Fr) : ({ f with kids := f.kids.app .nil } : Fr) = f := by rw [Fo.app_nil]
theorem inA_F : ∀ (F : Fo) (deep cnt : Nat) (f : Fr) (r : Bs), WfF (deep + 1) F → cnt + F.cnt ≤ 64 → inA (textF F ++ 60 :: r) f deep cnt false = inA (60 :: r) { f with kids := f.kids.app F } deep (cnt + F.cnt) false := by
  intro F
  induction F with
  | nil =>
    intro deep cnt f r _ _
    rw [kids_eta]
    rfl
  | cons s n ats tx k next ihk ihn =>
    intro deep cnt f r hw hc
    obtain ⟨hd, ha, hk, hnx⟩ := hw
    simp only [Fo.cnt] at hc ⊢
    have e1 : textF (.cons s n ats tx k next) ++ 60 :: r = 60 :: (n ++ (rawT (rawE s ats) ++ 62 :: (txtL tx ++ (textF k ++ 60 :: (47 :: (n ++ ([] ++ 62 :: (textF next ++ 60 :: r)))))))) := by
      rw [textF_rec]; simp
    rw [e1]
    obtain ⟨p1, p2, p3, p4⟩ := lt_pre ha.name (rawT (rawE s ats) ++ 62 :: (txtL tx ++ (textF k ++ 60 :: (47 :: (n ++ ([] ++ 62 :: (textF next ++ 60 :: r)))))))
    unfold inA
    rw [show (60 :: (n ++ (rawT (rawE s ats) ++ 62 :: (txtL tx ++ (textF k ++ 60 :: (47 :: (n ++ ([] ++ 62 :: (textF next ++ 60 :: r))))))))).length + 1 = ((n ++ (rawT (rawE s ats) ++ 62 :: (txtL tx ++ (textF k ++ 60 :: (47 :: (n ++ ([] ++ 62 :: (textF next ++ 60 :: r)))))))).length + 1) + 1 from rfl, inL_lt p1 p2 p3 p4, trimP_one]
    unfold elmL
    rw [← List.append_assoc, begin_w ha]
    simp only [Bool.false_eq_true, if_false]
    have hfull : fullB false (cnt + 1) (deep + 1) (rawE s ats).length = false := by
      have := ha.len
      unfold fullB
      simp
      omega
    rw [hfull, inA_of _ _ _ _ _ _ (by simp; omega)]
    obtain ⟨r2, hr2⟩ := F_lt k (47 :: (n ++ ([] ++ 62 :: (textF next ++ 60 :: r))))
    rw [hr2, inA_text, ← hr2, ihk (deep + 1) (cnt + 1) _ _ hk (by omega), inA_end n [] (textF next ++ 60 :: r) _ _ _ _ ha.name (fun d hd => by cases hd) rfl rfl]
    simp only
    rw [inA_of _ _ _ _ _ _ (by simp; omega), ihn deep _ _ r hnx (by omega)]
    unfold inA
    congr 1
    · show ({ f with kids := (f.kids.snoc _).app next } : Fr) = _
      rw [Fo.snoc_app]
      rfl
    · omega
/-- The element that a document is. -/
theorem root_w (s n : Bs) (ats : List At) (tx : Bs) (k : Fo) (b r : Bs) (N : Nat) (ha : WfA n s ats) (hk : WfF 2 k) (hc : 1 + k.cnt ≤ 64) (hb : ∀ d ∈ b, blkL.contains d = true)
    (hN : (n ++ (rawT (rawE s ats) ++ 62 :: (txtL tx ++ (textF k ++ 60 :: (47 :: (n ++ (b ++ 62 :: r))))))).length < N) :
    elmL N xmlB (n ++ (rawT (rawE s ats) ++ 62 :: (txtL tx ++ (textF k ++ 60 :: (47 :: (n ++ (b ++ 62 :: r))))))) 1 0 false = some (⟨s, n, ats, tx, k⟩, r, 1 + k.cnt, false) := by
  unfold elmL
  rw [← List.append_assoc, begin_w ha]
  simp only [Bool.false_eq_true, if_false]
  have hfull : fullB false (0 + 1) 1 (rawE s ats).length = false := by
    have := ha.len
    unfold fullB
    simp
    omega
  rw [hfull, inA_of _ _ _ _ _ _ (by simp at hN ⊢; omega)]
  obtain ⟨r2, hr2⟩ := F_lt k (47 :: (n ++ (b ++ 62 :: r)))
  rw [hr2, inA_text, ← hr2, inA_F k 1 (0 + 1) _ _ hk (by omega), inA_end n b r _ _ _ _ ha.name hb rfl rfl]
  rfl
theorem cut_note : ∀ (note r : Bs), (∀ d ∈ note, d ≠ 62) → Lib.index (note ++ 45 :: 45 :: 62 :: r) noteC = (note.length : Int) := by
  intro note
  induction note with
  | nil =>
    intro r _
    show Lib.index (45 :: 45 :: 62 :: r) noteC = 0
    unfold Lib.index
    exact if_pos rfl
  | cons c t ih =>
    intro r h
    have hp : noteC.isPrefixOf (c :: t ++ 45 :: 45 :: 62 :: r) = false := by
      rw [show noteC = 45 :: [45, 62] from rfl, List.cons_append, List.isPrefixOf_cons_cons]
      match t, h with
      | [], _ => simp [List.isPrefixOf]
      | [d], _ => simp [List.isPrefixOf]
      | d :: e :: t', h =>
        have he : e ≠ 62 := h e (by simp)
        have he2 : ((62 : UInt8) == e) = false := beq_eq_false_iff_ne.2 (fun x => he x.symm)
        simp [List.isPrefixOf, he2]
    have hi := ih r (fun d hd => h d (List.mem_cons_of_mem _ hd))
    rw [List.cons_append] at hp ⊢
    conv => lhs; unfold Lib.index
    rw [hp, hi]
    simp <;> omega
theorem cut_note2 (note r : Bs) (h : ∀ d ∈ note, d ≠ 62) : Lib.cut (note ++ 45 :: 45 :: 62 :: r) noteC = (note, r, true) := by
  unfold Lib.cut
  rw [cut_note note r h, if_pos (by omega), Int.toNat_natCast, List.take_left]
  rw [show noteC.length = 3 from rfl, List.drop_append]
  simp
theorem misc_none (n : Nat) (c : UInt8) (t : Bs) (hc : blkL.contains c = false) (hp : Lib.hasPrefix (c :: t) noteO = false) (b : Bs) (hb : ∀ d ∈ b, blkL.contains d = true) : miscL (n + 1) (b ++ c :: t) = some (c :: t) := by
  unfold miscL
  rw [trim_blanks b hb c t hc, hp]
  rfl
theorem misc_end (b : Bs) (hb : ∀ d ∈ b, blkL.contains d = true) : miscA b = some [] := by
  have h : Lib.trimLeftS b blkL = [] := by
    unfold Lib.trimLeftS
    induction b with
    | nil => rfl
    | cons d b ih => rw [List.dropWhile_cons, hb d (List.mem_cons_self ..), if_pos rfl]; exact ih (fun x hx => hb x (List.mem_cons_of_mem _ hx))
  unfold miscA miscL
  rw [h]
  rfl
theorem misc_note (b note : Bs) (c : UInt8) (t : Bs) (hb : ∀ d ∈ b, blkL.contains d = true) (hn : ∀ d ∈ note, d ≠ 62) (hc : blkL.contains c = false) (hp : Lib.hasPrefix (c :: t) noteO = false) : miscA (b ++ 60 :: 33 :: 45 :: 45 :: (note ++ 45 :: 45 :: 62 :: c :: t)) = some (c :: t) := by
  unfold miscA
  obtain ⟨N, hN⟩ : ∃ N, (b ++ 60 :: 33 :: 45 :: 45 :: (note ++ 45 :: 45 :: 62 :: c :: t)).length = N + 1 := ⟨(b ++ 33 :: 45 :: 45 :: (note ++ 45 :: 45 :: 62 :: c :: t)).length, by simp; omega⟩
  rw [hN]
  unfold miscL
  rw [trim_blanks b hb 60 _ (by decide), show Lib.hasPrefix (60 :: 33 :: 45 :: 45 :: (note ++ 45 :: 45 :: 62 :: c :: t)) noteO = true from rfl, show Lib.trimPrefix (60 :: 33 :: 45 :: 45 :: (note ++ 45 :: 45 :: 62 :: c :: t)) noteO = note ++ 45 :: 45 :: 62 :: c :: t from rfl, cut_note2 note _ hn]
  simp only [if_true]
  exact misc_none N c t hc hp [] (fun d hd => by cases hd)
/-- The text of an element whose last mark has blanks in it. -/
def bodyT (e : El) (b r : Bs) : Bs := e.n ++ (rawT (rawE e.s e.ats) ++ 62 :: (txtL e.tx ++ (textF e.kids ++ 60 :: (47 :: (e.n ++ (b ++ 62 :: r))))))
structure WfE (e : El) : Prop where
  a : WfA e.n e.s e.ats
  k : WfF 2 e.kids
  c : 1 + e.kids.cnt ≤ 64
theorem doc_w (r0 : Bs) (e : El) (b r : Bs) (h : WfE e) (hb : ∀ d ∈ b, blkL.contains d = true) (hr : miscA r = some []) (h0 : (docHead r0).bind miscA = some (60 :: bodyT e b r)) : docL r0 = some (e, false) := by
  have h1 : docBeg r0 = some (bodyT e b r) := by
    unfold docBeg
    rw [h0]
    show (if Lib.hasPrefix (60 :: bodyT e b r) [60] = true then some (Lib.trimPrefix (60 :: bodyT e b r) [60]) else none) = _
    rw [trimP_one, pre_one]
    rfl
  have h2 : rootL xmlB (bodyT e b r) = some (e, r, 1 + e.kids.cnt, false) := by
    rw [rootL_elm]
    unfold bodyT
    exact root_w e.s e.n e.ats e.tx e.kids b r _ h.a h.k h.c hb (Nat.lt_succ_self _)
  unfold docL
  rw [h1, Option.bind_some, h2, Option.bind_some]
  simp only
  rw [if_pos hr]
theorem body_head {e : El} (h : WfE e) (b r : Bs) : Lib.hasPrefix (60 :: bodyT e b r) noteO = false := (lt_pre h.a.name _).1
/-- What is turned is read as it was. -/
theorem doc_turned (e : El) (b0 note b1 b2 : Bs) (h : WfE e) (h0 : ∀ d ∈ b0, blkL.contains d = true) (h1 : ∀ d ∈ b1, blkL.contains d = true) (h2 : ∀ d ∈ b2, blkL.contains d = true) (hn : ∀ d ∈ note, d ≠ 62) :
    docL (b0 ++ 60 :: 33 :: 45 :: 45 :: (note ++ 45 :: 45 :: 62 :: 60 :: bodyT e b1 b2)) = some (e, false) := by
  refine doc_w _ e b1 b2 h h1 (misc_end b2 h2) ?_
  have hh : docHead (b0 ++ 60 :: 33 :: 45 :: 45 :: (note ++ 45 :: 45 :: 62 :: 60 :: bodyT e b1 b2)) = some (b0 ++ 60 :: 33 :: 45 :: 45 :: (note ++ 45 :: 45 :: 62 :: 60 :: bodyT e b1 b2)) := by
    unfold docHead
    have hp : Lib.hasPrefix (b0 ++ 60 :: 33 :: 45 :: 45 :: (note ++ 45 :: 45 :: 62 :: 60 :: bodyT e b1 b2)) decO = false := by
      cases b0 with
      | nil => rfl
      | cons c b0 =>
        refine pre_not c 60 _ _ ?_
        intro e
        have := h0 c (List.mem_cons_self ..)
        rw [e] at this
        exact absurd this (by decide)
    rw [hp]
    rfl
  rw [hh, Option.bind_some]
  exact misc_note b0 note 60 _ h0 hn (by decide) (body_head h b1 b2)
def declT : Bs := [60, 63, 120, 109, 108, 32, 118, 101, 114, 115, 105, 111, 110, 61, 34, 49, 46, 48, 34, 63, 62]
theorem head_decl (r : Bs) : docHead (declT ++ r) = some r := by
  unfold docHead
  rw [show Lib.hasPrefix (declT ++ r) decO = true from rfl, if_pos rfl]
  rw [show Lib.trimPrefix (declT ++ r) decO = [32, 118, 101, 114, 115, 105, 111, 110, 61, 34, 49, 46, 48, 34, 63, 62] ++ r from rfl]
  have hc : Lib.cut ([32, 118, 101, 114, 115, 105, 111, 110, 61, 34, 49, 46, 48, 34, 63, 62] ++ r) decC = ([32, 118, 101, 114, 115, 105, 111, 110, 61, 34, 49, 46, 48, 34], r, true) := by
    have hi : Lib.index ([32, 118, 101, 114, 115, 105, 111, 110, 61, 34, 49, 46, 48, 34, 63, 62] ++ r) decC = 14 := by
      simp [Lib.index, decC, List.isPrefixOf]
    unfold Lib.cut
    rw [hi]
    rfl
  rw [hc]
  rfl
theorem doc_decl (e : El) (b0 note b1 b2 : Bs) (h : WfE e) (h0 : ∀ d ∈ b0, blkL.contains d = true) (h1 : ∀ d ∈ b1, blkL.contains d = true) (h2 : ∀ d ∈ b2, blkL.contains d = true) (hn : ∀ d ∈ note, d ≠ 62) :
    docL (declT ++ (b0 ++ 60 :: 33 :: 45 :: 45 :: (note ++ 45 :: 45 :: 62 :: 60 :: bodyT e b1 b2))) = some (e, false) := by
  refine doc_w _ e b1 b2 h h1 (misc_end b2 h2) ?_
  rw [head_decl, Option.bind_some]
  exact misc_note b0 note 60 _ h0 hn (by decide) (body_head h b1 b2)
/-- What is written alone. -/
theorem doc_plain (e : El) (h : WfE e) : docL (60 :: bodyT e [] []) = some (e, false) := by
  refine doc_w _ e [] [] h (fun d hd => by cases hd) rfl ?_
  have hp : Lib.hasPrefix (60 :: bodyT e [] []) decO = false := by
    obtain ⟨c, t, hc, hb⟩ := name_head h.a.name
    obtain ⟨-, -, -, -, h63, -⟩ := beg_not c hb
    unfold bodyT
    rw [hc]
    have := pre_not c 63 [120, 109, 108] (t ++ (rawT (rawE e.s e.ats) ++ 62 :: (txtL e.tx ++ (textF e.kids ++ 60 :: (47 :: (c :: t ++ ([] ++ [62]))))))) h63
    unfold Lib.hasPrefix at this ⊢
    rw [show decO = 60 :: 63 :: [120, 109, 108] from rfl, List.isPrefixOf_cons_cons, List.cons_append, this]
    rfl
  have hh : docHead (60 :: bodyT e [] []) = some (60 :: bodyT e [] []) := by
    unfold docHead; rw [hp]; rfl
  rw [hh, Option.bind_some]
  exact misc_none _ 60 _ (by decide) (body_head h [] []) [] (fun d hd => by cases hd)
/-- Bytes that may stand in a document. -/
def PlA (s : Bs) (ats : List At) : Prop := plainB s = true ∧ ∀ a ∈ ats, plainB a.1 = true ∧ plainB a.2.2 = true
def PlF : Fo → Prop
  | .nil => True
  | .cons s _ ats tx k next => PlA s ats ∧ plainB tx = true ∧ PlF k ∧ PlF next
theorem inn_plain : ∀ c, innB c = true → ctlB c = false := all_bytes (by decide +kernel)
theorem name_plain {n : Bs} (h : nameB n = true) : plainB n = true := by
  have := name_inn h
  unfold plainB
  rw [List.all_eq_true] at this ⊢
  intro c hc
  rw [inn_plain c (this c hc)]
  rfl
theorem plain_cons (c : UInt8) (r : Bs) : plainB (c :: r) = (!ctlB c && plainB r) := rfl
theorem quo_plain {s : Bs} (h : plainB s = true) : plainB (quoL s) = true := by
  unfold quoL
  rw [plain_cons, plain_app, map_plain qC_plain, h]
  decide +kernel
theorem raw_plain : ∀ (l : List At), (∀ a ∈ l, RawOk a ∧ plainB a.2.2 = true) → plainB (rawT l) = true := by
  intro l
  induction l with
  | nil => intro _; rfl
  | cons a l ih =>
    intro h
    obtain ⟨h1, h2⟩ := h a (List.mem_cons_self ..)
    have hf : plainB (fnT a) = true := by
      unfold fnT
      split
      · exact name_plain h1.n
      · rename_i he
        rw [plain_app, plain_cons, name_plain (h1.p.resolve_left he), name_plain h1.n]
        decide +kernel
    rw [rawT_cons, plain_cons, plain_app, plain_cons, plain_app, hf, quo_plain h2, ih (fun x hx => h x (List.mem_cons_of_mem _ hx))]
    decide +kernel
theorem rawAt_val : ∀ (ats : List At) (i : Nat), (∀ a ∈ ats, plainB a.1 = true ∧ plainB a.2.2 = true) → ∀ a ∈ rawAt i ats, plainB a.2.2 = true := by
  intro ats
  induction ats with
  | nil => intro i _ a ha; cases ha
  | cons x l ih =>
    intro i h a ha
    have hx := h x (List.mem_cons_self ..)
    rcases List.mem_append.1 ha with h1 | h1
    · split at h1
      · obtain rfl := List.mem_singleton.1 h1; exact hx.2
      · simp only [List.mem_cons, List.not_mem_nil, or_false] at h1
        rcases h1 with rfl | rfl
        · exact hx.1
        · exact hx.2
    · exact ih (i + 1) (fun y hy => h y (List.mem_cons_of_mem _ hy)) a h1
theorem rawE_plain {n s : Bs} {ats : List At} (h : WfA n s ats) (hp : PlA s ats) : plainB (rawT (rawE s ats)) = true := by
  have hl : ats.length ≤ 15 := by have := h.len; have := rawAt_len ats 0; unfold rawE at *; simp at *; omega
  refine raw_plain _ fun a ha => ?_
  rcases List.mem_cons.1 ha with rfl | ha
  · exact ⟨⟨nsT_name, .inl rfl⟩, hp.1⟩
  · exact ⟨rawAt_ok ats 0 (by omega) h.aok a ha, rawAt_val ats 0 hp.2 a ha⟩
theorem textF_plain : ∀ (F : Fo) (d : Nat), WfF d F → PlF F → plainB (textF F) = true := by
  intro F
  induction F with
  | nil => intro d _ _; rfl
  | cons s n ats tx k next ihk ihn =>
    intro d hw hp
    obtain ⟨-, ha, hk, hnx⟩ := hw
    obtain ⟨p1, p2, p3, p4⟩ := hp
    unfold textF
    simp only [plain_app, plain_cons, name_plain ha.name, rawE_plain ha p1, ihk _ hk p3, ihn _ hnx p4, show plainB (txtL tx) = true by unfold txtL; rw [map_plain tC_plain]; exact p2]
    decide +kernel
theorem body_plain {e : El} (h : WfE e) (hp : PlA e.s e.ats) (ht : plainB e.tx = true) (hk : PlF e.kids) (b r : Bs) : plainB (bodyT e b r) = (plainB b && plainB r) := by
  unfold bodyT
  simp only [plain_app, plain_cons, name_plain h.a.name, rawE_plain h.a hp, textF_plain _ _ h.k hk, show plainB (txtL e.tx) = true by unfold txtL; rw [map_plain tC_plain]; exact ht]
  rw [show (!ctlB 62) = true by decide +kernel, show (!ctlB 60) = true by decide +kernel, show (!ctlB 47) = true by decide +kernel]
  simp
end Go.Proofs.YtmofnoconhgjmaaGreatDoor
/- What may be written: told element by element. It speaks of no program. -/
namespace Go.Proofs.YtmofnoconhgjmaaGreatDoor
open Go.RowKit
set_option linter.unusedVariables false
set_option linter.unusedSimpArgs false

/-- An attribute that may be written, behind those ahead of it. -/
def okAt (ats : List At) (i : Nat) : Bool := match ats[i]? with
  | none => true
  | some a => nameB a.2.1 && plainB a.1 && plainB a.2.2 && !(decide (a.1 = []) && decide (a.2.1 = nsT)) && !((ats.take i).any (sameA a.1 a.2.1))
def okAts (ats : List At) (k : Nat) : Bool := (List.range k).all (okAt ats)
theorem okAts_succ (ats : List At) (k : Nat) : okAts ats (k + 1) = (okAts ats k && okAt ats k) := by
  unfold okAts; rw [List.range_succ, List.all_append]; simp
def rightB (x : El) : Bool := nameB x.n && plainB x.s && plainB x.tx && okAts x.ats x.ats.length
def weiN (x : El) : Nat := (rawE x.s x.ats).length
/-- The element's own weight, by its attributes. -/
def weiA (ats : List At) (k : Nat) : Nat := ((ats.take k).map fun a => if a.1 = [] then 1 else 2).sum
theorem rawAt_wei : ∀ (ats : List At) (i : Nat), (rawAt i ats).length = (ats.map fun a => if a.1 = [] then 1 else 2).sum := by
  intro ats
  induction ats with
  | nil => intro i; rfl
  | cons a l ih =>
    intro i
    show ((if a.1 = [] then _ else _) ++ rawAt (i + 1) l).length = _
    rw [List.length_append, ih (i + 1), List.map_cons, List.sum_cons]
    split <;> rfl
theorem weiN_eq (x : El) : weiN x = 1 + weiA x.ats x.ats.length := by
  unfold weiN weiA rawE
  rw [List.length_cons, rawAt_wei, List.take_length]
  omega
theorem weiA_succ {ats : List At} {k : Nat} {a : At} (h : ats[k]? = some a) : weiA ats (k + 1) = weiA ats k + (if a.1 = [] then 1 else 2) := by
  unfold weiA
  rw [List.take_add_one, h]
  simp
theorem weiA_le (ats : List At) (k : Nat) : weiA ats k ≤ 2 * k := by
  unfold weiA
  have h : ∀ l : List At, (l.map fun a => if a.1 = [] then 1 else 2).sum ≤ 2 * l.length := by
    intro l
    induction l with
    | nil => exact Nat.le_refl _
    | cons a l ih => rw [List.map_cons, List.sum_cons, List.length_cons]; split <;> omega
  have := h (ats.take k)
  rw [List.length_take] at this
  omega
theorem okAt_some {ats : List At} {i : Nat} {a : At} (h : okAt ats i = true) (ha : ats[i]? = some a) : nameB a.2.1 = true ∧ plainB a.1 = true ∧ plainB a.2.2 = true ∧ (a.1 = [] → a.2.1 ≠ nsT) ∧ (ats.take i).any (sameA a.1 a.2.1) = false := by
  unfold okAt at h
  rw [ha] at h
  simp only [Bool.and_eq_true, Bool.not_eq_true', Bool.and_eq_false_iff, decide_eq_false_iff_not] at h
  obtain ⟨⟨⟨⟨h1, h2⟩, h3⟩, h4⟩, h5⟩ := h
  exact ⟨h1, h2, h3, fun e => h4.resolve_left (fun hn => hn e), h5⟩
theorem ats_new (l : List At) : ∀ acc, (∀ i a, l[i]? = some a → (acc ++ l.take i).any (sameA a.1 a.2.1) = false) → AtsNew acc l := by
  induction l with
  | nil => intro acc _; trivial
  | cons a l ih =>
    intro acc h
    refine ⟨by have := h 0 a rfl; simpa using this, ih (acc ++ [a]) fun i b hb => ?_⟩
    have := h (i + 1) b (by simpa using hb)
    rw [List.take_succ_cons] at this
    rw [List.append_assoc]
    exact this
/-- What an element may be, so deep. -/
structure OkX (d : Nat) (x : El) : Prop where
  r : rightB x = true
  d : d ≤ 7
  w : weiN x ≤ 16
theorem right_parts {x : El} (h : rightB x = true) : nameB x.n = true ∧ plainB x.s = true ∧ plainB x.tx = true ∧ ∀ i, i < x.ats.length → okAt x.ats i = true := by
  unfold rightB okAts at h
  simp only [Bool.and_eq_true, List.all_eq_true] at h
  exact ⟨h.1.1.1, h.1.1.2, h.1.2, fun i hi => h.2 i (List.mem_range.2 hi)⟩
theorem ok_wfa {d : Nat} {x : El} (h : OkX d x) : WfA x.n x.s x.ats ∧ PlA x.s x.ats := by
  obtain ⟨h1, h2, h3, h4⟩ := right_parts h.r
  refine ⟨⟨h1, fun a ha => ?_, ats_new x.ats [] fun i a ha => ?_, h.w⟩, h2, fun a ha => ?_⟩
  · obtain ⟨i, hi, rfl⟩ := List.getElem_of_mem ha
    obtain ⟨k1, -, -, k2, -⟩ := okAt_some (h4 i hi) (List.getElem?_eq_getElem hi)
    exact ⟨k1, k2⟩
  · exact (okAt_some (h4 i (List.getElem?_eq_some_iff.1 ha).1) ha).2.2.2.2
  · obtain ⟨i, hi, rfl⟩ := List.getElem_of_mem ha
    obtain ⟨-, k1, k2, -, -⟩ := okAt_some (h4 i hi) (List.getElem?_eq_getElem hi)
    exact ⟨k1, k2⟩
theorem ok_wff : ∀ (F : Fo) (d : Nat), (∀ y ∈ flatF d F, OkX y.1 y.2) → WfF (d + 1) F ∧ PlF F := by
  intro F
  induction F with
  | nil => intro d _; exact ⟨trivial, trivial⟩
  | cons s n ats tx k next ihk ihn =>
    intro d h
    have h0 := h (d, ⟨s, n, ats, tx, k⟩) (by simp [flatF])
    obtain ⟨a1, a2⟩ := ok_wfa h0
    obtain ⟨k1, k2⟩ := ihk (d + 1) (fun y hy => h y (by simp [flatF, hy]))
    obtain ⟨n1, n2⟩ := ihn d (fun y hy => h y (by simp [flatF, hy]))
    exact ⟨⟨by have := h0.d; simp only at this; omega, a1, k1, n1⟩, a2, (right_parts h0.r).2.2.1, k2, n2⟩
theorem flat_cnt : ∀ (F : Fo) (d : Nat), (flatF d F).length = F.cnt := by
  intro F
  induction F with
  | nil => intro d; rfl
  | cons s n ats tx k next ihk ihn => intro d; simp only [flatF, List.length_cons, List.length_append, ihk, ihn, Fo.cnt]; omega
/-- An element that may be written. -/
theorem ok_wfe {e : El} (h : ∀ y ∈ flatE 0 e, OkX y.1 y.2) (hc : (flatE 0 e).length ≤ 64) : WfE e ∧ PlA e.s e.ats ∧ plainB e.tx = true ∧ PlF e.kids := by
  have h0 := h (0, e) (List.mem_cons_self ..)
  obtain ⟨a1, a2⟩ := ok_wfa h0
  obtain ⟨k1, k2⟩ := ok_wff e.kids 1 (fun y hy => h y (List.mem_cons_of_mem _ hy))
  refine ⟨⟨a1, k1, ?_⟩, a2, (right_parts h0.r).2.2.1, k2⟩
  unfold flatE at hc
  rw [List.length_cons, flat_cnt] at hc
  omega
/-- The text of an element. -/
def textE (e : El) : Bs := 60 :: bodyT e [] []
theorem textE_F (e : El) : textE e = textF (.cons e.s e.n e.ats e.tx e.kids .nil) := by
  unfold textE bodyT
  rw [textF_rec]
  simp [textF]
/-- What was written is read as it. -/
theorem parse_text {e : El} (h : WfE e) (hp : PlA e.s e.ats) (ht : plainB e.tx = true) (hk : PlF e.kids) (hl : (textE e).length ≤ 8192) : parseL (textE e) = (e, 0) := by
  unfold parseL
  rw [if_neg (by omega), show docL (textE e) = some (e, false) from doc_plain e h]
  simp only
  have : plainB (textE e) = true := by
    unfold textE
    rw [plain_cons, body_plain h hp ht hk]
    decide +kernel
  rw [this]
  rfl
end Go.Proofs.YtmofnoconhgjmaaGreatDoor
