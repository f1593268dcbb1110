/- Texts of one proof, put together: Gmd, Gme. -/
import Derived.Test.YtfceodbpkghkaaaGreatDoorMG
import Derived.Test.YtfceodbpkghkaaaGreatDoorSl
import Derived.BigQuiet
import Derived.Test.YtfceodbpkghkaaaGreatDoorReg
/- Rows of variables: Equal, Contains, Clone, knows. -/
namespace Go.Proofs.YtfceodbpkghkaaaGreatDoor
open Go.RowKit
set_option linter.unusedVariables false
set_option linter.unusedSimpArgs false

def encA (x : Gs × Gs) : List Value := [.string ⟨x.1.toArray⟩, .string ⟨x.2.toArray⟩]
theorem encA_len (x : Gs × Gs) : (encA x).length = 2 := rfl
theorem toList_mk (l : Gs) : (⟨l.toArray⟩ : ByteArray).toList = l := by rw [Lib.toList_data]
theorem arg_equal (x y : Gs × Gs) (w : World) : (Op.equalIn 10000 58 (.agg (encA x).toArray) (.agg (encA y).toArray)).run Tryz.prog w = .ok (decide (x = y)) w := by
  have h : decide (x = y) = (x.1 == y.1 && x.2 == y.2) := by
    rw [Bool.eq_iff_iff, decide_eq_true_iff, Bool.and_eq_true, beq_iff_eq, beq_iff_eq]
    exact ⟨fun e => by rw [e]; exact ⟨rfl, rfl⟩, fun ⟨a, b⟩ => Prod.ext a b⟩
  rw [h]
  unfold encA
  go_simp
  by_cases h1 : x.1 = y.1 <;> by_cases h2 : x.2 = y.2 <;> simp [h1, h2]
theorem arg_neq : NeqAt Tryz.prog 58 (fun x => .agg (encA x).toArray) (fun x y => decide (x = y)) :=
  ⟨fun x y w => by rw [run_neq_struct, arg_equal, Result.andThen_ok], .agg _ (by kernel_rfl)⟩
theorem arg_eql : EqlAt Tryz.prog 58 (fun x => .agg (encA x).toArray) (fun x y => decide (x = y)) :=
  ⟨fun x y w => by rw [run_eql_struct, arg_equal, Result.andThen_ok], .agg _ (by kernel_rfl)⟩
theorem argAgg (w : World) : (isAgg 58).run Tryz.prog w = .ok true w := by first | exact Tryz.isAgg58 w | kernel_rfl
theorem argSize (w : World) : (Go.sizeOf 58).run Tryz.prog w = .ok 2 w := by first | exact Tryz.sizeOf58 w | kernel_rfl
theorem pair_enc {w : World} {b o : Nat} {xs : Gp} (h : ∀ i, i < xs.length → PairAt w b (o + i * 2) (gN xs i) (gV xs i)) : ∀ j, j < xs.length → ∀ i v, (encA xs[j]!)[i]? = some v → w.cell? ⟨b, o + j * 2 + i, none⟩ = some v := by
  intro j hj i v hv
  have hp := h j hj
  have e : xs.getD j ([], []) = xs[j]! := by rw [List.getD_eq_getElem?_getD, List.getElem?_eq_getElem hj, getElem!_pos xs j hj]; rfl
  unfold gN gV at hp
  rw [e] at hp
  match i, hv with
  | 0, hv => obtain rfl := Option.some.inj hv; exact hp.c0
  | 1, hv => obtain rfl := Option.some.inj hv; exact hp.c1
theorem allEq_is : ∀ (xs ys : Gp), Lib.allEq (fun x y => decide (x = y)) xs ys = decide (xs = ys) := by
  intro xs
  induction xs with
  | nil => intro ys; cases ys <;> simp [Lib.allEq]
  | cons x xs ih =>
    intro ys
    cases ys with
    | nil => simp [Lib.allEq]
    | cons y ys => 
      rw [Lib.allEq, ih ys]
      by_cases h1 : x = y <;> by_cases h2 : xs = ys <;> simp [h1, h2]
theorem ArgsAt.shape {w : World} {v : Value} {xs : Gp} (h : ArgsAt w v xs) : ∃ a c, v = .slice a xs.length c ∧ (0 < xs.length → ∃ b o, a = some ⟨b, o, none⟩ ∧ ∀ i, i < xs.length → PairAt w b (o + i * 2) (gN xs i) (gV xs i)) := by
  obtain ⟨a, c, h1, h2⟩ := h
  refine ⟨a, c, h1, fun hp => ?_⟩
  rcases h2 with h | ⟨b, o, e, h⟩
  · omega
  · exact ⟨b, o, e, h⟩
set_option maxRecDepth 20000 in
set_option maxHeartbeats 2000000 in
theorem equal_x (xs ys : Gp) (v1 v2 : Value) (w : World) (h1 : ArgsAt w v1 xs) (h2 : ArgsAt w v2 ys) (l1 : xs.length ≤ 9223372036854775807) (l2 : ys.length ≤ 9223372036854775807) :
    Calls Tryz.prog 45 #[v1, v2] w fun e w' => e = .returned (.bool (decide (xs = ys))) ∧ w.grownBy w' none := by
  obtain ⟨a1, c1, rfl, k1⟩ := h1.shape
  obtain ⟨a2, c2, rfl, k2⟩ := h2.shape
  by_cases hl : xs.length = ys.length
  rotate_left
  · have R := hid (show decide (xs = ys) = false by rw [decide_eq_false_iff_not]; intro e; exact hl (by rw [e]))
    have hb1 : ((xs.length : Int) != (ys.length : Int)) = true := by simp; omega
    have hb2 : ((xs.length : Int) == (ys.length : Int)) = false := by simp; omega
    clear k1 k2 h1 h2 hl
    generalize xs.length = n1 at *
    generalize ys.length = n2 at *
    go_enter Tryz.func45, Tryz.ntmps45
    go_wp2
    go_ret
    exact ⟨by rw [R.out]; rfl, gr_refl _ _⟩
  by_cases h0 : 0 < xs.length
  · obtain ⟨b1, o1, rfl, p1⟩ := k1 h0
    obtain ⟨b2, o2, rfl, p2⟩ := k2 (by omega)
    have h := Tryz.slices_Equal 2 argAgg argSize encA encA_len (fun x y => decide (x = y)) arg_neq b1 o1 xs.length c1 b2 o2 ys.length c2 xs ys w (Nat.le_refl _) (Nat.le_refl _) l1 l2 (pair_enc p1) (pair_enc p2)
    rw [List.take_length, List.take_length, allEq_is] at h
    refine h.mono ?_
    rintro e w' ⟨rfl, q, rfl⟩
    exact ⟨rfl, gr_drewN _ (gr_refl _ _)⟩
  · obtain rfl : xs = [] := List.eq_nil_of_length_eq_zero (by omega)
    obtain rfl : ys = [] := List.eq_nil_of_length_eq_zero (by simpa using hl.symm)
    clear k1 k2 h1 h2 hl h0 l1 l2
    simp only [List.length_nil]
    go_enter Tryz.func45, Tryz.ntmps45
    go_wp2_with fail
    go_loopw [13] (fun v13 wr => v13 = .int .i64 0 ∧ w = wr) (fun _ _ => 0)
    case atStart => exact ⟨rfl, rfl⟩
    case round =>
      obtain ⟨rfl, rfl⟩ := hrel
      go_wp2
      go_ret
      exact ⟨rfl, gr_refl _ _⟩
set_option maxRecDepth 20000 in
set_option maxHeartbeats 2000000 in
theorem contains_x (xs : Gp) (x : Gs × Gs) (v : Value) (w : World) (h1 : ArgsAt w v xs) (l1 : xs.length ≤ 9223372036854775807) :
    Calls Tryz.prog 85 #[v, .agg (encA x).toArray] w fun e w' => e = .returned (.bool (decide (x ∈ xs))) ∧ w.grownBy w' none := by
  obtain ⟨a1, c1, rfl, k1⟩ := h1.shape
  by_cases h0 : 0 < xs.length
  · obtain ⟨b1, o1, rfl, p1⟩ := k1 h0
    have h := Tryz.slices_Contains 2 argAgg argSize encA encA_len (fun x y => decide (x = y)) arg_eql b1 o1 xs.length c1 xs x w (Nat.le_refl _) l1 (pair_enc p1)
    rw [List.take_length, show (xs.any fun y => decide (x = y)) = decide (x ∈ xs) by rw [Bool.eq_iff_iff, List.any_eq_true, decide_eq_true_iff]; exact ⟨fun ⟨y, h, e⟩ => by rw [of_decide_eq_true e]; exact h, fun h => ⟨x, h, by simp⟩⟩] at h
    refine h.mono ?_
    rintro e w' ⟨rfl, hb⟩
    exact ⟨rfl, gr_of_below hb⟩
  · obtain rfl : xs = [] := List.eq_nil_of_length_eq_zero (by omega)
    have hI : ∀ W : World, Calls Tryz.prog 110 #[.slice a1 0 c1, .agg (encA x).toArray] W fun e w' => e = .returned (.int .i64 (-1)) ∧ W.grownBy w' none := by
      intro W
      clear k1 h1 h0 l1
      unfold encA
      go_enter Tryz.func110, Tryz.ntmps110
      go_wp2_with fail
      go_loopw [8] (fun v8 wr => v8 = .int .i64 0 ∧ W.grownBy wr none) (fun _ _ => 0)
      case atStart => exact ⟨rfl, by (repeat (first | exact gr_refl _ _ | assumption | refine gr_drew ?_ | refine gr_drewN _ ?_ | refine gr_alloc ?_ _ | refine gr_set ?_ | refine gr_set_new ?_ (by first | omega | (simp; omega))))⟩
      case round =>
        obtain ⟨rfl, gw⟩ := hrel
        go_wp2
        go_ret
        exact ⟨rfl, gw⟩
    have HI := hid hI
    clear k1 h1 h0 l1 hI
    unfold encA at *
    simp only [List.length_nil]
    have nb := heap_alloc_new w (.cells #[.string ⟨x.1.toArray⟩, .string ⟨x.2.toArray⟩] 58)
    have c0 := (cell_of_block nb 0).trans (show _ = some (Value.string ⟨x.1.toArray⟩) from rfl)
    have c1 := (cell_of_block nb 1).trans (show _ = some (Value.string ⟨x.2.toArray⟩) from rfl)
    have g1 := World.grownBy_alloc w (.cells #[.string ⟨x.1.toArray⟩, .string ⟨x.2.toArray⟩] 58) none
    go_enter Tryz.func85, Tryz.ntmps85
    go_wp2_with fail
    refine (HI.out _).mono ?_
    rintro e w' ⟨rfl, g⟩
    go_wp2
    go_ret
    exact ⟨rfl, gr_trans g1 g⟩
theorem infoArg : (Tryz.prog.info? 58).map (fun i => (i.zero, i.size, i.bytes)) = some (some (.agg #[.string ⟨#[]⟩, .string ⟨#[]⟩]), 2, 32) := by kernel_rfl
def flatA (xs : Gp) : List Value := xs.flatMap encA
theorem flatA_len (xs : Gp) : (flatA xs).length = xs.length * 2 := by
  unfold flatA
  induction xs with
  | nil => rfl
  | cons x xs ih => rw [List.flatMap_cons, List.length_append, ih, encA_len, List.length_cons]; omega
theorem flatA_at (xs : Gp) : ∀ i, i < xs.length → (flatA xs)[i * 2]? = some (.string (gN xs i)) ∧ (flatA xs)[i * 2 + 1]? = some (.string (gV xs i)) := by
  unfold flatA
  induction xs with
  | nil => intro i hi; simp at hi
  | cons x xs ih =>
    intro i hi
    cases i with
    | zero => exact ⟨rfl, rfl⟩
    | succ i =>
      have := ih i (by simpa using hi)
      rw [show (i + 1) * 2 = i * 2 + 2 by omega, show i * 2 + 2 + 1 = i * 2 + 1 + 2 by omega]
      exact this
theorem flatA_one (xs : Gp) : ∀ u ∈ flatA xs, u.oneCell' = true := by
  intro u hu
  obtain ⟨x, -, hx⟩ := List.mem_flatMap.1 hu
  simp only [encA, List.mem_cons, List.not_mem_nil, or_false] at hx
  rcases hx with rfl | rfl <;> rfl
/-- A row of variables of the call's own. -/
def OwnA (w : World) (base : Nat) (v : Value) (xs : Gp) : Prop := w.ownsRow base 58 2 v xs.length (flatA xs)
theorem OwnA.keep {w : World} {base : Nat} {v : Value} {xs : Gp} (h : OwnA w base v xs) (N : Nat) (F : Nat → Prop) (hF : ∀ b, base ≤ b → F b) : ArgsK w N F v xs := by
  rcases h.2 with ⟨rfl, h0⟩ | ⟨g, cap, cur, rfl, hg, hh, hc, hm, hs, ht⟩
  · obtain rfl : xs = [] := List.eq_nil_of_length_eq_zero h0
    exact ArgsK.nil _ _ _
  · refine ⟨_, cap, rfl, hc, hm, .inr ⟨g, 0, _, rfl, hh, .inr ⟨_, _, _, rfl, by decide⟩, hF g hg, fun i hi => ?_⟩⟩
    have hl := flatA_len xs
    obtain ⟨e1, e2⟩ := flatA_at xs i hi
    rw [← ht, List.getElem?_take, if_pos (by omega)] at e1 e2
    rw [Nat.zero_add]
    constructor
    · rw [cell_of_block hh]; simpa using e1
    · rw [cell_of_block hh]; simpa using e2
theorem pair_flat {w : World} {b o : Nat} {xs : Gp} (h : ∀ i, i < xs.length → PairAt w b (o + i * 2) (gN xs i) (gV xs i)) : ∀ j u, (flatA xs)[j]? = some u → w.cell? ⟨b, o + j, none⟩ = some u := by
  intro j u hu
  have hj : j < xs.length * 2 := by have := (List.getElem?_eq_some_iff.1 hu).1; rw [flatA_len] at this; exact this
  obtain ⟨e1, e2⟩ := flatA_at xs (j / 2) (by omega)
  have hp := h (j / 2) (by omega)
  rcases Nat.mod_two_eq_zero_or_one j with hm | hm
  · have hj2 : j = j / 2 * 2 := by omega
    rw [hj2, e1] at hu
    rw [hj2, ← hu]
    exact hp.c0
  · have hj2 : j = j / 2 * 2 + 1 := by omega
    rw [hj2, e2] at hu
    rw [hj2, ← hu, ← Nat.add_assoc]
    exact hp.c1
theorem clone_x (xs : Gp) (v : Value) (w : World) (h : ArgsAt w v xs) (hl : xs.length ≤ 1000000) (hz : ∀ a c, v = .slice a 0 c → ∀ ad, a = some ad → ∃ b o, ad = ⟨b, o, none⟩) :
    Calls Tryz.prog 47 #[v] w fun e w' => ∃ v', e = .returned v' ∧ OwnA w' w.heap.size v' xs ∧ w.grownBy w' none := by
  obtain ⟨a, c, rfl, k⟩ := h.shape
  cases a with
  | none =>
    have h0 : xs.length = 0 := by
      rcases Nat.eq_zero_or_pos xs.length with h | h
      · exact h
      · obtain ⟨b, o, e, -⟩ := k h; cases e
    obtain rfl : xs = [] := List.eq_nil_of_length_eq_zero h0
    refine (Tryz.slices_Clone_nil_f47 0 c w).mono ?_
    rintro e w' ⟨rfl, rfl⟩
    exact ⟨_, rfl, World.ownsRow_nil _ _ _ _, gr_refl _ _⟩
  | some ad =>
    obtain ⟨i0, hi0, hz0, hz1, hz2⟩ := info_parts infoArg
    have hc : ∃ b o, ad = ⟨b, o, none⟩ ∧ ∀ j u, (flatA xs)[j]? = some u → w.cell? ⟨b, o + j, none⟩ = some u := by
      rcases Nat.eq_zero_or_pos xs.length with h | h
      · obtain ⟨b, o, e⟩ := hz (some ad) c (by rw [h]) ad rfl
        obtain rfl : xs = [] := List.eq_nil_of_length_eq_zero h
        exact ⟨b, o, e, fun j u hu => by simp [flatA] at hu⟩
      · obtain ⟨b, o, e, hp⟩ := k h
        exact ⟨b, o, Option.some.inj e, pair_flat hp⟩
    obtain ⟨b, o, rfl, hc⟩ := hc
    refine (Tryz.slices_Clone_f47 i0 _ 2 32 hi0 hz0 hz1 hz2 rfl (by omega) argSize b o xs.length c (flatA xs) w (flatA_len xs) (by unfold maxLen; omega) (by omega) hc (flatA_one xs)).mono ?_
    rintro e w' ⟨v', rfl, ho, -, hb⟩
    exact ⟨v', rfl, ho, gr_of_below hb⟩
end Go.Proofs.YtfceodbpkghkaaaGreatDoor
/- (*gena.sub).knows; slices.IndexFunc and DeleteFunc of variables with it. -/
namespace Go.Proofs.YtfceodbpkghkaaaGreatDoor
open Go.RowKit
set_option linter.unusedVariables false
set_option linter.unusedSimpArgs false

theorem ArgsK.len {w : World} {N : Nat} {F : Nat → Prop} {v : Value} {xs : Gp} (h : ArgsK w N F v xs) : xs.length ≤ maxLen := by
  obtain ⟨a, c, -, h1, h2, -⟩ := h
  exact Nat.le_trans h1 h2
set_option maxRecDepth 20000 in
set_option maxHeartbeats 2000000 in
theorem knows_x (N : Nat) (F : Nat → Prop) (d : Nat) (x : Sb) (y : Gs × Gs) (w : World) (h : PSub w N F d x) :
    Calls Tryz.prog 48 #[.pointer (some ⟨d, 0, none⟩), .agg (encA y).toArray] w fun e w' => e = .returned (.bool (decide (y ∈ x.last))) ∧ w.grownBy w' none := by
  obtain ⟨-, lv, hd, ha⟩ := h
  have hlen := ha.len
  have nb := heap_alloc_new w (.cells #[.string ⟨y.1.toArray⟩, .string ⟨y.2.toArray⟩] 58)
  have b0 := (cell_of_block nb 0).trans (show _ = some (Value.string ⟨y.1.toArray⟩) from rfl)
  have b1 := (cell_of_block nb 1).trans (show _ = some (Value.string ⟨y.2.toArray⟩) from rfl)
  have g1 := World.grownBy_alloc w (.cells #[.string ⟨y.1.toArray⟩, .string ⟨y.2.toArray⟩] 58) none
  obtain ⟨q, hq⟩ : ∃ q, q = decide (y ∈ x.last) := ⟨_, rfl⟩
  have HQ := hid hq.symm
  have HC := hid (fun (W : World) (g : (w.alloc (.cells #[.string ⟨y.1.toArray⟩, .string ⟨y.2.toArray⟩] 58)).grownBy W none) => contains_x x.last y lv W ((ha.grow (gr_trans g1 g)).at) (by unfold maxLen at hlen; omega))
  rw [← hq] at HC
  obtain ⟨la, lc, rfl, -⟩ := ha.at
  have p8 := g1.cell ((cell_of_block hd 8).trans (show _ = some (Value.slice la x.last.length lc) from rfl)) (by simp)
  generalize x.last.length = ln at *
  unfold encA at *
  clear hd ha hlen hq nb
  go_enter Tryz.func48, Tryz.ntmps48
  go_wp2_with fail
  obtain ⟨w0, hw0⟩ : ∃ w0, w0 = w.alloc (.cells #[.string ⟨y.1.toArray⟩, .string ⟨y.2.toArray⟩] 58) := ⟨_, rfl⟩
  rw [← hw0] at b0 b1 g1 p8 HC ⊢
  clear hw0
  refine wp_region_spec2 (by kernel_rfl) (by kernel_rfl) (n := 7) (by kernel_rfl) [some 5, some 6, some 7, some 8, some 9, some 10, some 4] (by kernel_rfl) _ (fun u => (by simp only [fill, List.zipIdx_cons, List.zipIdx_nil, List.foldl_cons, List.foldl_nil, Act.put, List.setIfInBounds_toArray, List.set_cons_zero, List.set_cons_succ, Nat.zero_add, Nat.reduceAdd]; exact rfl)) (by kernel_rfl)
    (all_succ (all_succ (all_succ (all_succ (all_succ (all_succ (all_succ (all_zero _) (fun u v => by kernel_rfl)) (fun u v => by kernel_rfl)) (fun u v => by kernel_rfl)) (fun u v => by kernel_rfl)) (fun u v => by kernel_rfl)) (fun u v => by kernel_rfl)) (fun u v => by kernel_rfl))
    (fun ri v w => match ri with | 0 => v = .pointer (some ⟨d, 0, none⟩) | 1 => v = .pointer (some ⟨d, 0, none⟩) | 2 => v = .pointer (some ⟨d, 8, none⟩) | 3 => v = .slice la ln lc | 4 => v = .agg #[.string ⟨y.1.toArray⟩, .string ⟨y.2.toArray⟩] | 5 => v = .bool q | 6 => v = .bool q | _ => True)
    (all_succ (all_succ (all_succ (all_succ (all_succ (all_succ (all_succ (all_zero _) ?m0) ?m1) ?m2) ?m3) ?m4) ?m5) ?m6)
    [[], [0], [1], [2], [], [3, 4], [5]] (by kernel_rfl)
    ⟨?o0, ?o1, ?o2, ?o3, ?o4, ?o5, ?o6, trivial⟩ ?done
  case m0 => intro v w w' h g; exact h
  case m1 => intro v w w' h g; exact h
  case m2 => intro v w w' h g; exact h
  case m3 => intro v w w' h g; exact h
  case m4 => intro v w w' h g; exact h
  case m5 => intro v w w' h g; exact h
  case m6 => intro v w w' h g; exact h
  case o0 =>
    intro u w g hd K hK
    clear hd
    simp only [Act.put, List.setIfInBounds_toArray, List.set_cons_zero, List.set_cons_succ] at hK
    go_simp
    exact hK _ _ rfl (gr_refl _ _)
  case o1 =>
    intro u w g hd K hK
    have h0 : (u 0) = .pointer (some ⟨d, 0, none⟩) := hd 0 (by simp)
    clear hd
    simp only [Act.put, List.setIfInBounds_toArray, List.set_cons_zero, List.set_cons_succ] at hK
    simp only [h0] at hK ⊢
    go_simp
    exact hK _ _ rfl (gr_refl _ _)
  case o2 =>
    intro u w g hd K hK
    have h1 : (u 1) = .pointer (some ⟨d, 0, none⟩) := hd 1 (by simp)
    clear hd
    simp only [Act.put, List.setIfInBounds_toArray, List.set_cons_zero, List.set_cons_succ] at hK
    simp only [h1] at hK ⊢
    go_simp
    exact hK _ _ rfl (gr_refl _ _)
  case o3 =>
    intro u w g hd K hK
    have h2 : (u 2) = .pointer (some ⟨d, 8, none⟩) := hd 2 (by simp)
    clear hd
    simp only [Act.put, List.setIfInBounds_toArray, List.set_cons_zero, List.set_cons_succ] at hK
    have c := g.cell p8 (by simp)
    simp only [h2] at hK ⊢
    go_simp
    exact hK _ _ rfl (gr_refl _ _)
  case o4 =>
    intro u w g hd K hK
    clear hd
    simp only [Act.put, List.setIfInBounds_toArray, List.set_cons_zero, List.set_cons_succ] at hK
    have c := g.cell b0 (by simp)
    have c' := g.cell b1 (by simp)
    go_simp
    exact hK _ _ rfl (gr_refl _ _)
  case o5 =>
    intro u w g hd K hK
    have h3 : (u 3) = .slice la ln lc := hd 3 (by simp)
    have h4 : (u 4) = .agg #[.string ⟨y.1.toArray⟩, .string ⟨y.2.toArray⟩] := hd 4 (by simp)
    clear hd
    simp only [Act.put, List.setIfInBounds_toArray, List.set_cons_zero, List.set_cons_succ] at hK
    simp only [h3, h4] at hK ⊢
    go_simp
    refine (HC.out w g).mono ?_
    rintro e w' ⟨rfl, g'⟩
    exact hK _ _ rfl g'
  case o6 =>
    intro u w g hd K hK
    have h5 : (u 5) = .bool q := hd 5 (by simp)
    clear hd
    simp only [Act.put, List.setIfInBounds_toArray, List.set_cons_zero, List.set_cons_succ] at hK
    simp only [h5] at hK ⊢
    go_simp
    exact hK _ _ rfl (gr_refl _ _)
  case done =>
    intro u w hS g
    have s0 : (u 0) = .pointer (some ⟨d, 0, none⟩) := hS 0 (by decide)
    have s1 : (u 1) = .pointer (some ⟨d, 0, none⟩) := hS 1 (by decide)
    have s2 : (u 2) = .pointer (some ⟨d, 8, none⟩) := hS 2 (by decide)
    have s3 : (u 3) = .slice la ln lc := hS 3 (by decide)
    have s4 : (u 4) = .agg #[.string ⟨y.1.toArray⟩, .string ⟨y.2.toArray⟩] := hS 4 (by decide)
    have s5 : (u 5) = .bool q := hS 5 (by decide)
    have s6 : (u 6) = .bool q := hS 6 (by decide)
    clear hS
    have T6 := hid s6
    have GY := hid g
    clear s0 s1 s2 s3 s4 s5 s6 g
    generalize u 0 = y0 at *
    generalize u 1 = y1 at *
    generalize u 2 = y2 at *
    generalize u 3 = y3 at *
    generalize u 4 = y4 at *
    generalize u 5 = y5 at *
    generalize u 6 = y6 at *
    obtain rfl := T6.out
    go_wp2_with fail
    go_ret
    exact ⟨by rw [HQ.out]; rfl, gr_trans g1 GY.out⟩
def PK (x : Sb) (y : Gs × Gs) : Bool := decide (y ∈ x.last)
def hitA (x : Sb) (L : Gp) : Nat := (L.takeWhile fun y => !PK x y).length
theorem hitA_is (p : Sb) : ∀ (L : Gp) (k : Nat) (hk : k ≤ L.length), (∀ j x, j < k → L[j]? = some x → PK p x = false) → (k = L.length ∨ ∃ x, L[k]? = some x ∧ PK p x = true) → hitA p L = k := by
  intro L
  induction L with
  | nil => intro k hk _ _; simp at hk; subst hk; rfl
  | cons y l ih =>
    intro k hk ha h
    unfold hitA
    cases k with
    | zero =>
      rcases h with h | ⟨x, hx, hp⟩
      · simp at h
      · obtain rfl : y = x := by simpa using hx
        rw [List.takeWhile_cons_of_neg (by simp [hp])]; rfl
    | succ k =>
      have hy := ha 0 y (by omega) rfl
      rw [List.takeWhile_cons_of_pos (by simp [hy]), List.length_cons]
      have := ih k (by simpa using hk) (fun j x hj hx => ha (j + 1) x (by omega) (by simpa using hx)) (by
        rcases h with h | ⟨x, hx, hp⟩
        · left; simpa using h
        · right; exact ⟨x, by simpa using hx, hp⟩)
      unfold hitA at this
      rw [this]
def hitAI (p : Sb) (L : Gp) : Int := if hitA p L < L.length then (hitA p L : Int) else -1
def IaR (p : Sb) (L : Gp) (w : World) (vk : Value) (wr : World) : Prop :=
  ∃ k : Nat, vk = .int .i64 k ∧ k ≤ L.length ∧ w.grownBy wr none ∧ ∀ j x, j < k → L[j]? = some x → PK p x = false
set_option maxRecDepth 20000 in
set_option maxHeartbeats 2000000 in
theorem indexa_x (N : Nat) (F : Nat → Prop) (d : Nat) (x : Sb) (L : Gp) (v : Value) (w : World) (h : PSub w N F d x) (hL : ArgsAt w v L) (hn : L.length ≤ 9223372036854775807) :
    Calls Tryz.prog 84 #[v, .func (Fn.func 48) #[.pointer (some ⟨d, 0, none⟩)] #[]] w fun e w' => e = .returned (.int .i64 (hitAI x L)) ∧ w.grownBy w' none := by
  obtain ⟨a, c, rfl, hk⟩ := hL.shape
  have HC := hid hk
  have HP := hid h
  clear hk h hL
  go_enter Tryz.func84, Tryz.ntmps84
  go_wp2_with fail
  go_loopw [8] (fun vk wr => IaR x L w vk wr) (fun vk _ => L.length - (intOf vk).toNat)
  case atStart => exact ⟨0, rfl, Nat.zero_le _, gr_refl _ _, fun j x h _ => absurd h (Nat.not_lt_zero _)⟩
  case round =>
    obtain ⟨k, rfl, hk, gw, hno⟩ := hrel
    have HNO := hid hno
    clear hno
    by_cases hkl : k < L.length
    · obtain ⟨y, hek⟩ : ∃ e, L[k]? = some e := ⟨_, List.getElem?_eq_getElem hkl⟩
      obtain ⟨b, o, rfl, hcell⟩ := HC.out (by omega)
      obtain ⟨q0, q1⟩ := hcell k hkl
      have hyD : L.getD k ([], []) = y := by rw [List.getD_eq_getElem?_getD, hek]; rfl
      unfold gN at q0
      unfold gV at q1
      rw [hyD] at q0 q1
      have q0 := gw.cell q0 (by simp)
      have q1 := gw.cell q1 (by simp)
      have HEK := hid hek
      have HF := hid (knows_x N F d x y wr (HP.out.row gw (by simp) (by simp)))
      unfold encA at HF
      clear hek hcell hyD
      go_wp2_with fail
      refine HF.out.mono ?_
      rintro e2 w2 ⟨rfl, g2⟩
      have GW := hid (gr_trans gw g2)
      by_cases hsm : y ∈ x.last
      · rw [decide_eq_true hsm]
        have HA := hid (show hitAI x L = (k : Int) by
          have := hitA_is x L k (by omega) HNO.out (.inr ⟨_, HEK.out, decide_eq_true hsm⟩)
          unfold hitAI
          rw [this, if_pos (by omega)])
        clear hsm
        go_wp2_with fail
        go_ret
        exact ⟨by rw [HA.out]; rfl, GW.out⟩
      · rw [decide_eq_false hsm]
        have HSM := hid (show PK x y = false from decide_eq_false hsm)
        clear hsm
        go_wp2_with fail
        go_roundw
        case rel =>
          refine ⟨k + 1, by go_num, by omega, GW.out, fun j x' hlt hj => ?_⟩
          rcases Nat.lt_succ_iff_lt_or_eq.1 hlt with h1 | rfl
          · exact HNO.out j x' h1 hj
          · rw [HEK.out] at hj
            obtain rfl := Option.some.inj hj
            exact HSM.out
        case measure => simp [intOf]; omega
    · have HA := hid (show hitAI x L = -1 by
        obtain rfl : k = L.length := by omega
        have := hitA_is x L L.length (by omega) HNO.out (.inl rfl)
        unfold hitAI
        rw [this, if_neg (by omega)])
      go_wp2_with fail
      go_ret
      exact ⟨by rw [HA.out]; rfl, gw⟩
end Go.Proofs.YtfceodbpkghkaaaGreatDoor
