/- What is read of an element with an escaped text, and an escaped attribute. It speaks of no program. -/
import Derived.Test.YtllmdlpogjjmcaaGreatDoorXp2
import Derived.Test.YtllmdlpogjjmcaaGreatDoorMT
import Derived.Test.YtllmdlpogjjmcaaGreatDoorXp4
import Derived.Test.YtllmdlpogjjmcaaGreatDoorRp6
namespace Go.Proofs.YtllmdlpogjjmcaaGreatDoor
open Go.RowKit
set_option linter.unusedVariables false
set_option linter.unusedSimpArgs false

abbrev escL (s : Bs) : Bs := repL escP s
theorem escL_cons (c : UInt8) (s : Bs) : escL (c :: s) = rpC escP c ++ escL s := rfl
def nameOf (x : UInt8 × Bs) : Bs := (x.2.drop 1).dropLast
theorem rpC_esc : ∀ c, (∃ x ∈ escP, x.1 = c ∧ rpC escP c = x.2) ∨ (rpC escP c = [c] ∧ c ≠ 38 ∧ c ≠ 60 ∧ c ≠ 62 ∧ c ≠ 34) := all_bytes (by decide +kernel)
theorem esc_free : ∀ c, ∀ d ∈ rpC escP c, d ≠ 34 ∧ d ≠ 60 ∧ d ≠ 62 := all_bytes (by decide +kernel)
theorem esc_plain : ∀ c, plainB (rpC escP c) = !ctlB c := all_bytes (by decide +kernel)
theorem escL_free (s : Bs) : ∀ d ∈ escL s, d ≠ 34 ∧ d ≠ 60 ∧ d ≠ 62 := by
  intro d hd
  obtain ⟨c, -, h⟩ := List.mem_flatMap.1 hd
  exact esc_free c d h
theorem plain_app (a b : Bs) : plainB (a ++ b) = (plainB a && plainB b) := by
  unfold plainB; rw [List.all_append]
theorem escL_plain (s : Bs) : plainB (escL s) = plainB s := by
  induction s with
  | nil => rfl
  | cons c s ih => rw [escL_cons, plain_app, ih, esc_plain]; rfl
theorem cut_free (x : Bs) (q : UInt8) (r : Bs) (h : ∀ d ∈ x, d ≠ q) : Lib.cut (x ++ q :: r) [q] = (x, r, true) := by
  induction x with
  | nil => exact cut_same q r
  | cons c x ih => rw [List.cons_append, cut_cons c q _ (h c (List.mem_cons_self ..)), ih (fun d hd => h d (List.mem_cons_of_mem _ hd))]
theorem idx_same (q : UInt8) (r : Bs) : Lib.index (q :: r) [q] = 0 := by
  have h := pre_one q q r
  unfold Lib.index
  first
    | simp [h]
    | (rw [if_pos]; simpa using h)
theorem idx_free (x : Bs) (q : UInt8) (r : Bs) (h : ∀ d ∈ x, d ≠ q) : Lib.index (x ++ q :: r) [q] = (x.length : Int) := by
  induction x with
  | nil => exact idx_same q r
  | cons c x ih =>
    rw [List.cons_append, idx_cons c q _ (h c (List.mem_cons_self ..)), ih (fun d hd => h d (List.mem_cons_of_mem _ hd)), if_neg (by omega), List.length_cons]
    omega
theorem unesc_esc (s : Bs) : unescA (escL s) = some s := by
  induction s with
  | nil => rfl
  | cons c s ih =>
    rw [escL_cons]
    rcases rpC_esc c with ⟨x, hx, rfl, e⟩ | ⟨e, h, -⟩
    · rw [e]
      simp only [escP, List.mem_cons, List.not_mem_nil, or_false] at hx
      rcases hx with rfl | rfl | rfl | rfl
      · rw [show ([38, 97, 109, 112, 59] : Bs) ++ escL s = 38 :: ([97, 109, 112] ++ 59 :: escL s) from rfl, unescA_amp, cut_free _ _ _ (by decide)]
        simp only [if_true, show entL [97, 109, 112] = some [38] by kernel_rfl, Option.bind_some, ih, Option.map_some]
        rfl
      · rw [show ([38, 108, 116, 59] : Bs) ++ escL s = 38 :: ([108, 116] ++ 59 :: escL s) from rfl, unescA_amp, cut_free _ _ _ (by decide)]
        simp only [if_true, show entL [108, 116] = some [60] by kernel_rfl, Option.bind_some, ih, Option.map_some]
        rfl
      · rw [show ([38, 103, 116, 59] : Bs) ++ escL s = 38 :: ([103, 116] ++ 59 :: escL s) from rfl, unescA_amp, cut_free _ _ _ (by decide)]
        simp only [if_true, show entL [103, 116] = some [62] by kernel_rfl, Option.bind_some, ih, Option.map_some]
        rfl
      · rw [show ([38, 113, 117, 111, 116, 59] : Bs) ++ escL s = 38 :: ([113, 117, 111, 116] ++ 59 :: escL s) from rfl, unescA_amp, cut_free _ _ _ (by decide)]
        simp only [if_true, show entL [113, 117, 111, 116] = some [34] by kernel_rfl, Option.bind_some, ih, Option.map_some]
        rfl
    · rw [e, List.singleton_append, unescA_char c _ h, ih]
      rfl
theorem full_t (r : Bs) : fullL (116 :: 32 :: r) = (([], [116], true), 32 :: r) := by kernel_rfl
theorem full_at (r : Bs) : fullL (97 :: 61 :: r) = (([], [97], true), 61 :: r) := by kernel_rfl
theorem full_te (r : Bs) : fullL (116 :: 62 :: r) = (([], [116], true), 62 :: r) := by kernel_rfl
/-- The text with x in it. -/
def textT (x : Bs) : Bs := [60, 116, 32, 97, 61, 34] ++ x ++ [34, 62] ++ x ++ [60, 47, 116, 62]
theorem val_t (x r s : Bs) (h : ∀ d ∈ x, d ≠ 34 ∧ d ≠ 60 ∧ d ≠ 62) (hu : unescA x = some s) : valueL (34 :: (x ++ 34 :: r)) = some (s, r) := by
  unfold valueL
  rw [show Lib.hasPrefix (34 :: (x ++ 34 :: r)) [34] = true from rfl]
  simp only [if_true]
  rw [show Lib.trimPrefix (34 :: (x ++ 34 :: r)) [34] = x ++ 34 :: r from rfl]
  unfold valQ
  rw [cut_free x 34 r (fun d hd => (h d hd).1)]
  have hc : x.contains 60 = false := by
    rw [Bool.eq_false_iff]
    intro e
    exact (h 60 (List.contains_iff_mem.1 e)).2.1 rfl
  simp only [hc, Bool.not_false, Bool.and_self, if_true, hu, Option.map_some]
theorem one_t (x r s : Bs) (h : ∀ d ∈ x, d ≠ 34 ∧ d ≠ 60 ∧ d ≠ 62) (hu : unescA x = some s) : oneL (97 :: 61 :: 34 :: (x ++ 34 :: r)) = some (([], [97], s), r) := by
  unfold oneL
  rw [full_at]
  simp only [show Lib.trimLeftS (61 :: 34 :: (x ++ 34 :: r)) blkL = 61 :: 34 :: (x ++ 34 :: r) by kernel_rfl, show Lib.hasPrefix (61 :: 34 :: (x ++ 34 :: r)) [61] = true from rfl, Bool.and_self, if_true, show Lib.trimPrefix (61 :: 34 :: (x ++ 34 :: r)) [61] = 34 :: (x ++ 34 :: r) from rfl, show Lib.trimLeftS (34 :: (x ++ 34 :: r)) blkL = 34 :: (x ++ 34 :: r) by kernel_rfl, val_t x r s h hu, Option.map_some]
theorem attrs_t (x r s : Bs) (h : ∀ d ∈ x, d ≠ 34 ∧ d ≠ 60 ∧ d ≠ 62) (hu : unescA x = some s) : attrsA (32 :: 97 :: 61 :: 34 :: (x ++ 34 :: 62 :: r)) = some ([([], [97], s)], false, r) := by
  unfold attrsA
  obtain ⟨n, hn⟩ : ∃ n, (32 :: 97 :: 61 :: 34 :: (x ++ 34 :: 62 :: r)).length + 1 = (n + 1) + 1 := ⟨(97 :: 61 :: 34 :: (x ++ 34 :: 62 :: r)).length, rfl⟩
  rw [hn]
  have e1 : Lib.trimLeftS (32 :: 97 :: 61 :: 34 :: (x ++ 34 :: 62 :: r)) blkL = 97 :: 61 :: 34 :: (x ++ 34 :: 62 :: r) := by kernel_rfl
  conv => lhs; unfold attrsL
  rw [e1, show Lib.hasPrefix (97 :: 61 :: 34 :: (x ++ 34 :: 62 :: r)) [47, 62] = false from rfl, show Lib.hasPrefix (97 :: 61 :: 34 :: (x ++ 34 :: 62 :: r)) [62] = false from rfl]
  simp only [Bool.false_eq_true, if_false]
  rw [if_pos (by simp), one_t x (62 :: r) s h hu]
  simp only [List.any_nil, Bool.false_eq_true, if_false, List.nil_append]
  conv => lhs; unfold attrsL
  rw [show Lib.trimLeftS (62 :: r) blkL = 62 :: r by kernel_rfl, show Lib.hasPrefix (62 :: r) [47, 62] = false from rfl, show Lib.hasPrefix (62 :: r) [62] = true from rfl]
  simp only [Bool.false_eq_true, if_false, if_true]
  rfl
theorem begin_t (x r s : Bs) (h : ∀ d ∈ x, d ≠ 34 ∧ d ≠ 60 ∧ d ≠ 62) (hu : unescA x = some s) : beginL xmlB (116 :: 32 :: 97 :: 61 :: 34 :: (x ++ 34 :: 62 :: r)) = some (⟨[], [116], [], [([], [97], s)], [], .nil, xmlB⟩, false, r, 1) := by
  unfold beginL
  rw [full_t]
  simp only [if_true, attrs_t x r s h hu]
  unfold elemL
  have h1 : isNs ([], [97], s) = false := by unfold isNs nsT; simp
  have h2 : bindOk [(([], [97], s) : At)] = true := by unfold bindOk nsT; simp
  have h3 : bindB [(([], [97], s) : At)] xmlB = xmlB := by unfold bindB; rw [h1]; rfl
  have h4 : attB xmlB [(([], [97], s) : At)] [] = ([([], [97], s)], true) := by unfold attB; rw [h1]; simp [atSp, attB]
  rw [h2, h3, h4, show spcL xmlB [] = ([], true) by kernel_rfl]
  rfl
theorem in_te (n : Nat) (f : Fr) (deep cnt : Nat) (full : Bool) (h : f.p = [] ∧ f.n = [116]) : inL (n + 1) [60, 47, 116, 62] f deep cnt full = some (f.el, [], cnt, full) := by
  conv => lhs; unfold inL
  rw [show Lib.hasPrefix [60, 47, 116, 62] noteO = false from rfl, show Lib.hasPrefix [60, 47, 116, 62] cdO = false from rfl, show Lib.hasPrefix [60, 47, 116, 62] [60, 47] = true from rfl]
  simp only [Bool.false_eq_true, if_false, if_true]
  rw [show Lib.trimPrefix [60, 47, 116, 62] [60, 47] = [116, 62] from rfl]
  unfold endL
  rw [show fullL [116, 62] = (([], [116], true), [62]) by kernel_rfl, h.1, h.2]
  rfl
theorem pre_not (c q : UInt8) (p t : Bs) (h : c ≠ q) : Lib.hasPrefix (c :: t) (q :: p) = false := by
  have h1 : (q == c) = false := by
    rw [beq_eq_false_iff_ne]
    exact fun e => h e.symm
  show (q == c && _) = false
  rw [h1]
  rfl
theorem in_t (n : Nat) (x s : Bs) (f : Fr) (deep cnt : Nat) (full : Bool) (hx : ∀ d ∈ x, d ≠ 34 ∧ d ≠ 60 ∧ d ≠ 62) (hu : unescA x = some s) (h : f.p = [] ∧ f.n = [116]) : inL (n + 2) (x ++ [60, 47, 116, 62]) f deep cnt full = some ((f.txt s).el, [], cnt, full) := by
  cases x with
  | nil =>
    rw [unescA_nil] at hu
    obtain rfl := Option.some.inj hu
    rw [List.nil_append, show n + 2 = (n + 1) + 1 from rfl, in_te (n + 1) f deep cnt full h]
    unfold Fr.txt Fr.el
    simp
  | cons c x =>
    have hc : c ≠ 60 := (hx c (List.mem_cons_self ..)).2.1
    rw [show n + 2 = (n + 1) + 1 from rfl]
    conv => lhs; unfold inL
    rw [List.cons_append, show noteO = 60 :: [33, 45, 45] from rfl, show cdO = 60 :: [33, 91, 67, 68, 65, 84, 65, 91] from rfl, pre_not c 60 _ _ hc, pre_not c 60 _ _ hc, pre_not c 60 [47] _ hc, pre_not c 60 [] _ hc]
    simp only [Bool.false_eq_true, if_false]
    rw [← List.cons_append, idx_free (c :: x) 60 [47, 116, 62] (fun d hd => (hx d hd).2.1), if_neg (by omega), Int.toNat_natCast, List.take_left, List.drop_left, hu]
    simp only
    exact in_te n (f.txt s) deep cnt full h
theorem root_t (x s : Bs) (hx : ∀ d ∈ x, d ≠ 34 ∧ d ≠ 60 ∧ d ≠ 62) (hu : unescA x = some s) : rootL xmlB (116 :: 32 :: 97 :: 61 :: 34 :: (x ++ 34 :: 62 :: (x ++ [60, 47, 116, 62]))) = some (⟨[], [116], [([], [97], s)], s, .nil⟩, [], 1, false) := by
  rw [rootL_elm]
  unfold elmL
  rw [begin_t x _ s hx hu]
  simp only [Bool.false_eq_true, if_false]
  obtain ⟨n, hn⟩ : ∃ n, (116 :: 32 :: 97 :: 61 :: 34 :: (x ++ 34 :: 62 :: (x ++ [60, 47, 116, 62]))).length + 1 = n + 2 := ⟨_, rfl⟩
  have hl : (116 :: 32 :: 97 :: 61 :: 34 :: (x ++ 34 :: 62 :: (x ++ [60, 47, 116, 62]))).length + 1 = ((116 :: 32 :: 97 :: 61 :: 34 :: (x ++ 34 :: 62 :: (x ++ [60, 47, 116, 62]))).length - 1) + 2 := by simp
  first
    | rw [in_t _ x s _ _ _ _ hx hu ⟨rfl, rfl⟩]; rfl
    | (rw [hl, in_t _ x s _ _ _ _ hx hu ⟨rfl, rfl⟩]; rfl)
theorem beg_t (y : Bs) : docBeg (60 :: 116 :: y) = some (116 :: y) := by kernel_rfl
theorem doc_t (x s : Bs) (hx : ∀ d ∈ x, d ≠ 34 ∧ d ≠ 60 ∧ d ≠ 62) (hu : unescA x = some s) : docL (textT x) = some (⟨[], [116], [([], [97], s)], s, .nil⟩, false) := by
  unfold docL
  rw [show textT x = 60 :: 116 :: 32 :: 97 :: 61 :: 34 :: (x ++ 34 :: 62 :: (x ++ [60, 47, 116, 62])) by simp [textT], beg_t]
  simp only [Option.bind_some, root_t x s hx hu]
  rw [if_pos (by kernel_rfl)]
theorem textT_len (x : Bs) : (textT x).length = 12 + 2 * x.length := by unfold textT; simp; omega
theorem textT_plain (x : Bs) : plainB (textT x) = plainB x := by
  unfold textT
  rw [plain_app, plain_app, plain_app, plain_app, show plainB [60, 116, 32, 97, 61, 34] = true by kernel_rfl, show plainB [34, 62] = true by kernel_rfl, show plainB [60, 47, 116, 62] = true by kernel_rfl]
  cases plainB x <;> rfl
/-- What is read of the text. -/
theorem parse_t (s : Bs) : parseL (textT (escL s)) = if 4090 < (escL s).length then (El.zero, 14) else if !plainB s then (El.zero, 11) else (⟨[], [116], [([], [97], s)], s, .nil⟩, 0) := by
  unfold parseL
  rw [textT_len, doc_t _ _ (escL_free s) (unesc_esc s), textT_plain, escL_plain]
  by_cases h : 4090 < (escL s).length
  · rw [if_pos (by omega), if_pos h]
  · rw [if_neg (by omega), if_neg h]
    simp
end Go.Proofs.YtllmdlpogjjmcaaGreatDoor
