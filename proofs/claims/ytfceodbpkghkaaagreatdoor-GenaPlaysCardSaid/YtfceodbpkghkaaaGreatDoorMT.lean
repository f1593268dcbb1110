/- Texts of one proof, put together: Gmt, Gmu, Gmv, Gmw. -/
import Derived.Test.YtfceodbpkghkaaaGreatDoorMP
import Derived.Test.YtfceodbpkghkaaaGreatDoorMR
/- hearthref22: remove. -/
namespace Go.Proofs.YtfceodbpkghkaaaGreatDoor
open Go.RowKit
set_option linter.unusedVariables false
set_option linter.unusedSimpArgs false

theorem gr_all {w0 w w' : World} (g0 : w0.grownBy w none) (g : KT (fun _ => true) w0.heap.size w w') : w0.grownBy w' none :=
  ((KT.of_none (T := fun _ => true) (N := w0.heap.size) g0).trans g).gr (Nat.le_refl _)
theorem SrcAt.grown {w w' : World} {a : Option Addr} {news : List Value} (h : SrcAt w a news) (g : w.grownBy w' none) : SrcAt w' a news := by
  rcases h with h | ⟨ad, e, h⟩
  · exact .inl h
  · exact .inr ⟨ad, e, fun j u hu => g.cell (h j u hu) (by simp)⟩
theorem add_at (g o j : Nat) : (⟨g, o, none⟩ : Addr).add j = ⟨g, o + j, none⟩ := by simp [Addr.add]; try exact fun h => by subst h; rfl
/-- A part of the row, as a source. -/
theorem src9 {w : World} {N n : Nat} {g cap : Nat} {E : List Sv} (h : w.ownsRow N 111 9 (.slice (some ⟨g, 0, none⟩) n cap) E.length (rw9 E)) (k : Nat) (l : List Sv) (hl : ∀ j u, (rw9 l)[j]? = some u → (rw9 E)[k * 9 + j]? = some u) : SrcAt w (some ⟨g, k * 9, none⟩) (rw9 l) := by
  refine .inr ⟨_, rfl, fun j u hu => ?_⟩
  have h1 := hl j u hu
  rw [add_at]
  rcases h.2 with ⟨e, -⟩ | ⟨g', cap', cur, e, hN, hg, k1, k2, k3, k4⟩
  · cases e
  obtain ⟨rfl, -⟩ : g = g' ∧ _ := by simpa using e
  rw [← k4] at h1
  have hlt := (List.getElem?_eq_some_iff.1 h1).1
  rw [List.length_take] at hlt
  rw [List.getElem?_take_of_lt (by omega), Array.getElem?_toList] at h1
  exact (cell_of_block hg _).trans h1
set_option maxRecDepth 20000 in
set_option maxHeartbeats 4000000 in
theorem remove_r (N : Nat) (F : Nat → Prop) (B : Nat) (E : List Sv) (most : Nat) (i : Nat) (hi : i < E.length) (w0 : World) (h : RAt w0 N F B E most) (hEl : E.length ≤ 1000000) :
    Calls Tryz.prog 89 #[.pointer (some ⟨B, 0, none⟩), .int .i64 (i : Int)] w0 fun e w' => e = .returned (.tuple #[]) ∧ RAt w' N F B (E.eraseIdx i) most ∧ KT TR N w0 w' := by
  obtain ⟨a, cap, hB, hr, hcap, hmx, hc⟩ := h.parts
  obtain ⟨g0, rfl, -, -, -⟩ := hc i _ (List.getElem?_eq_getElem hi)
  have c0 := (cell_of_block hB 0).trans (show _ = some (Value.slice (some ⟨g0, 0, none⟩) E.length cap) from rfl)
  have HB := hid hB
  have HR := hid hr
  have HH := hid h
  have ONE := hid (fun (l : List Sv) (hl : ∀ e ∈ l, e ∈ E) (u : Value) (hu : u ∈ rw9 l) => rw9_one l u hu (fun e he => by obtain ⟨_, _, h, -⟩ := HH.out.each e (hl e he); rw [h]; rfl))
  obtain ⟨n, hn⟩ : ∃ n, n = E.length := ⟨_, rfl⟩
  obtain ⟨m, hm⟩ : ∃ m, m = n - (i + 1) := ⟨_, rfl⟩
  rw [← hn] at c0 hi hEl hcap
  have S1 := hid (src9 HR.out 0 (E.take i) (fun j u hu => by
    rw [Nat.zero_mul, Nat.zero_add]
    rw [← rw9_take] at hu
    have := (List.getElem?_eq_some_iff.1 hu).1
    rw [List.length_take] at this
    rwa [List.getElem?_take_of_lt (by omega)] at hu))
  have S2 := hid (src9 HR.out (i + 1) (E.drop (i + 1)) (fun j u hu => by
    rw [← rw9_drop, List.getElem?_drop] at hu
    exact hu))
  obtain ⟨i0, hi0, hz0, hz1, hz2⟩ := info_parts infoRu
  have HN := hid hn
  have HM := hid hm
  have hi1 : (i : Int) + 1 ≤ (n : Int) := by omega
  have hi2 : (i : Int) ≤ (cap : Int) := by omega
  have hi3 : (n : Int) ≤ (cap : Int) := by omega
  have hi4 : (i : Int) + 1 ≤ 9223372036854775807 := by omega
  have hwr : IntKind.i64.wrap ((i : Int) + 1) = (i : Int) + 1 := IntWalk.i64_in _ (by omega)
  have him : i + m + 1 = n := by omega
  have hi5 : (0 : Int) ≤ (i : Int) + 1 := by omega
  clear hc hB hr h hn hm
  go_enter Tryz.func89, Tryz.ntmps89
  go_wp2_with fail
  refine wp_region_spec6 19 16 [1, 8] (fun w w' => KT (fun _ => true) w0.heap.size w w') (fun w w' g0 g => gr_all g0 g) (by kernel_rfl) (by kernel_rfl) (by kernel_rfl) (by kernel_rfl) (by kernel_rfl) (by kernel_rfl) [some 4, some 5, some 6, some 7, some 8, some 9, some 10, some 11, some 12, some 13, some 14, some 15, some 16, some 17, some 18, some 19, some 20, some 21, some 22] (by kernel_rfl) _ (fun u => (by simp only [fill, List.zipIdx_cons, List.zipIdx_nil, List.foldl_cons, List.foldl_nil, Act.put, List.setIfInBounds_toArray, List.set_cons_zero, List.set_cons_succ, Nat.zero_add, Nat.reduceAdd]; exact rfl)) (by kernel_rfl) (by kernel_rfl) (by kernel_rfl)
    (fun ri v w => match ri with | 0 => v = .pointer (some ⟨B, 0, none⟩) | 1 => ∃ b, v = .slice (some ⟨b, 0, none⟩) 0 0 ∧ w.ownsRow w0.heap.size 111 9 (.slice (some ⟨b, 0, none⟩) 0 0) 0 [] | 2 => v = .pointer (some ⟨B, 0, none⟩) | 3 => v = .pointer (some ⟨B, 0, none⟩) | 4 => v = .pointer (some ⟨B, 0, none⟩) | 5 => v = .slice (some ⟨g0, 0, none⟩) n cap | 6 => v = .int .i64 (i : Int) | 7 => v = .slice (some ⟨g0, 0, none⟩) i cap | 8 => w.ownsRow w0.heap.size 111 9 v i (rw9 (E.take i)) | 9 => v = .pointer (some ⟨B, 0, none⟩) | 10 => v = .pointer (some ⟨B, 0, none⟩) | 11 => v = .pointer (some ⟨B, 0, none⟩) | 12 => v = .slice (some ⟨g0, 0, none⟩) n cap | 13 => v = .int .i64 (i : Int) | 14 => v = .int .i64 ((i : Int) + 1) | 15 => ∃ ad c, v = .slice ad m c ∧ SrcAt w0 ad (rw9 (E.drop (i + 1))) | 16 => w.ownsRow w0.heap.size 111 9 v (i + m) (rw9 (E.take i) ++ rw9 (E.drop (i + 1))) | 17 => v = .pointer (some ⟨B, 0, none⟩) | 18 => v = .pointer (some ⟨B, 0, none⟩) | _ => True)
    (all_succ (all_succ (all_succ (all_succ (all_succ (all_succ (all_succ (all_succ (all_succ (all_succ (all_succ (all_succ (all_succ (all_succ (all_succ (all_succ (all_succ (all_succ (all_succ (all_zero _) ?m0) ?m1) ?m2) ?m3) ?m4) ?m5) ?m6) ?m7) ?m8) ?m9) ?m10) ?m11) ?m12) ?m13) ?m14) ?m15) ?m16) ?m17) ?m18)
    (all_succ (all_succ (all_succ (all_succ (all_succ (all_succ (all_succ (all_succ (all_succ (all_succ (all_succ (all_succ (all_succ (all_succ (all_succ (all_succ (all_succ (all_succ (all_succ (all_zero _) ?n0) (fun _ h => absurd h (by decide))) ?n2) ?n3) ?n4) ?n5) ?n6) ?n7) (fun _ h => absurd h (by decide))) ?n9) ?n10) ?n11) ?n12) ?n13) ?n14) ?n15) (fun h => absurd h (by decide))) ?n17) ?n18)
    [[], [], [], [2], [3], [4], [], [5, 6], [1, 7], [], [9], [10], [11], [], [13], [12, 14], [8, 15], [0], [17]] (by kernel_rfl) (by kernel_rfl)
    ⟨?o0, ?o1, ?o2, ?o3, ?o4, ?o5, ?o6, ?o7, ?o8, ?o9, ?o10, ?o11, ?o12, ?o13, ?o14, ?o15, ?o16, ?o17, ?o18, trivial⟩ ?done
  case m0 => intro v w w' h g; first | exact h | exact own_growG h g | exact ⟨h.choose, h.choose_spec.1, own_growG h.choose_spec.2 g⟩
  case m1 => intro v w w' h g; first | exact h | exact own_growG h g | exact ⟨h.choose, h.choose_spec.1, own_growG h.choose_spec.2 g⟩
  case m2 => intro v w w' h g; first | exact h | exact own_growG h g | exact ⟨h.choose, h.choose_spec.1, own_growG h.choose_spec.2 g⟩
  case m3 => intro v w w' h g; first | exact h | exact own_growG h g | exact ⟨h.choose, h.choose_spec.1, own_growG h.choose_spec.2 g⟩
  case m4 => intro v w w' h g; first | exact h | exact own_growG h g | exact ⟨h.choose, h.choose_spec.1, own_growG h.choose_spec.2 g⟩
  case m5 => intro v w w' h g; first | exact h | exact own_growG h g | exact ⟨h.choose, h.choose_spec.1, own_growG h.choose_spec.2 g⟩
  case m6 => intro v w w' h g; first | exact h | exact own_growG h g | exact ⟨h.choose, h.choose_spec.1, own_growG h.choose_spec.2 g⟩
  case m7 => intro v w w' h g; first | exact h | exact own_growG h g | exact ⟨h.choose, h.choose_spec.1, own_growG h.choose_spec.2 g⟩
  case m8 => intro v w w' h g; first | exact h | exact own_growG h g | exact ⟨h.choose, h.choose_spec.1, own_growG h.choose_spec.2 g⟩
  case m9 => intro v w w' h g; first | exact h | exact own_growG h g | exact ⟨h.choose, h.choose_spec.1, own_growG h.choose_spec.2 g⟩
  case m10 => intro v w w' h g; first | exact h | exact own_growG h g | exact ⟨h.choose, h.choose_spec.1, own_growG h.choose_spec.2 g⟩
  case m11 => intro v w w' h g; first | exact h | exact own_growG h g | exact ⟨h.choose, h.choose_spec.1, own_growG h.choose_spec.2 g⟩
  case m12 => intro v w w' h g; first | exact h | exact own_growG h g | exact ⟨h.choose, h.choose_spec.1, own_growG h.choose_spec.2 g⟩
  case m13 => intro v w w' h g; first | exact h | exact own_growG h g | exact ⟨h.choose, h.choose_spec.1, own_growG h.choose_spec.2 g⟩
  case m14 => intro v w w' h g; first | exact h | exact own_growG h g | exact ⟨h.choose, h.choose_spec.1, own_growG h.choose_spec.2 g⟩
  case m15 => intro v w w' h g; first | exact h | exact own_growG h g | exact ⟨h.choose, h.choose_spec.1, own_growG h.choose_spec.2 g⟩
  case m16 => intro v w w' h g; first | exact h | exact own_growG h g | exact ⟨h.choose, h.choose_spec.1, own_growG h.choose_spec.2 g⟩
  case m17 => intro v w w' h g; first | exact h | exact own_growG h g | exact ⟨h.choose, h.choose_spec.1, own_growG h.choose_spec.2 g⟩
  case m18 => intro v w w' h g; first | exact h | exact own_growG h g | exact ⟨h.choose, h.choose_spec.1, own_growG h.choose_spec.2 g⟩
  case n0 => intro _ _ v w w' g0 h g; exact h
  case n2 => intro _ _ v w w' g0 h g; exact h
  case n3 => intro _ _ v w w' g0 h g; exact h
  case n4 => intro _ _ v w w' g0 h g; exact h
  case n5 => intro _ _ v w w' g0 h g; exact h
  case n6 => intro _ _ v w w' g0 h g; exact h
  case n7 => intro _ _ v w w' g0 h g; exact h
  case n9 => intro _ _ v w w' g0 h g; exact h
  case n10 => intro _ _ v w w' g0 h g; exact h
  case n11 => intro _ _ v w w' g0 h g; exact h
  case n12 => intro _ _ v w w' g0 h g; exact h
  case n13 => intro _ _ v w w' g0 h g; exact h
  case n14 => intro _ _ v w w' g0 h g; exact h
  case n15 => intro _ _ v w w' g0 h g; exact h
  case n17 => intro _ _ v w w' g0 h g; exact h
  case n18 => intro _ _ v w w' g0 h g; exact h
  case o0 =>
    intro u w g hd K hK
    replace g : w0.grownBy w none := g
    clear hd
    simp only [Act.put, List.setIfInBounds_toArray, List.set_cons_zero, List.set_cons_succ] at hK
    go_simp
    exact hK _ _ rfl (gr_refl _ _)
  case o1 =>
    intro u w g hd K hK
    replace g : w0.grownBy w none := g
    clear hd
    simp only [Act.put, List.setIfInBounds_toArray, List.set_cons_zero, List.set_cons_succ] at hK
    have gs := g.size
    go_simp
    refine hK _ _ ⟨w.heap.size, rfl, ?_⟩ (gr_alloc (gr_refl _ _) _)
    exact ⟨rfl, .inr ⟨w.heap.size, 0, #[], rfl, gs, heap_alloc_new w _, Nat.le_refl _, by simp [maxLen], rfl, rfl⟩⟩
  case o2 =>
    intro u w g hd K hK
    replace g : w0.grownBy w none := g
    clear hd
    simp only [Act.put, List.setIfInBounds_toArray, List.set_cons_zero, List.set_cons_succ] at hK
    go_simp
    exact hK _ _ rfl (gr_refl _ _)
  case o3 =>
    intro u w g hd K hK
    replace g : w0.grownBy w none := g
    have h2 : (u 2) = .pointer (some ⟨B, 0, none⟩) := hd 2 (by simp)
    clear hd
    simp only [Act.put, List.setIfInBounds_toArray, List.set_cons_zero, List.set_cons_succ] at hK
    simp only [h2] at hK ⊢
    go_simp
    exact hK _ _ rfl (gr_refl _ _)
  case o4 =>
    intro u w g hd K hK
    replace g : w0.grownBy w none := g
    have h3 : (u 3) = .pointer (some ⟨B, 0, none⟩) := hd 3 (by simp)
    clear hd
    simp only [Act.put, List.setIfInBounds_toArray, List.set_cons_zero, List.set_cons_succ] at hK
    simp only [h3] at hK ⊢
    go_simp
    exact hK _ _ rfl (gr_refl _ _)
  case o5 =>
    intro u w g hd K hK
    replace g : w0.grownBy w none := g
    have h4 : (u 4) = .pointer (some ⟨B, 0, none⟩) := hd 4 (by simp)
    clear hd
    simp only [Act.put, List.setIfInBounds_toArray, List.set_cons_zero, List.set_cons_succ] at hK
    have c := g.cell c0 (by simp)
    simp only [h4] at hK ⊢
    go_simp
    exact hK _ _ rfl (gr_refl _ _)
  case o6 =>
    intro u w g hd K hK
    replace g : w0.grownBy w none := g
    clear hd
    simp only [Act.put, List.setIfInBounds_toArray, List.set_cons_zero, List.set_cons_succ] at hK
    go_simp
    exact hK _ _ rfl (gr_refl _ _)
  case o7 =>
    intro u w g hd K hK
    replace g : w0.grownBy w none := g
    have h5 : (u 5) = .slice (some ⟨g0, 0, none⟩) n cap := hd 5 (by simp)
    have h6 : (u 6) = .int .i64 (i : Int) := hd 6 (by simp)
    clear hd
    simp only [Act.put, List.setIfInBounds_toArray, List.set_cons_zero, List.set_cons_succ] at hK
    simp only [h5, h6] at hK ⊢
    go_simp
    exact hK _ _ rfl (gr_refl _ _)
  case o8 =>
    intro u w g hd K hK
    replace g : w0.grownBy w none := g
    have h1 : ∃ b, (u 1) = .slice (some ⟨b, 0, none⟩) 0 0 ∧ w.ownsRow w0.heap.size 111 9 (.slice (some ⟨b, 0, none⟩) 0 0) 0 [] := hd 1 (by simp)
    have h7 : (u 7) = .slice (some ⟨g0, 0, none⟩) i cap := hd 7 (by simp)
    clear hd
    simp only [Act.put, List.setIfInBounds_toArray, List.set_cons_zero, List.set_cons_succ] at hK
    obtain ⟨b, e1, o1⟩ := h1
    split
    rotate_left
    · rename_i hno; exact absurd rfl hno
    refine wp_app0 (.tmp 5) (.tmp 11) 106 rfl (base := w0.heap.size) (e := 111) (size := 9) (bytes := 96) Tryz.underlying106 hi0 hz0 hz1 hz2 rfl (by decide) (b := b) (by exact e1) o1 (ad := some ⟨g0, 0, none⟩) (m := i) (c := cap) (news := rw9 (E.take i)) (by exact h7) (by rw [rw9_len, List.length_take, ← HN.out]; omega) (SrcAt.grown (by simpa using S1.out) g) (by unfold maxLen; omega) (by omega) g.size ?_
    intro v' w' q2 q3 q4
    exact hK v' w' q2 q3
  case o9 =>
    intro u w g hd K hK
    replace g : w0.grownBy w none := g
    clear hd
    simp only [Act.put, List.setIfInBounds_toArray, List.set_cons_zero, List.set_cons_succ] at hK
    go_simp
    exact hK _ _ rfl (gr_refl _ _)
  case o10 =>
    intro u w g hd K hK
    replace g : w0.grownBy w none := g
    have h9 : (u 9) = .pointer (some ⟨B, 0, none⟩) := hd 9 (by simp)
    clear hd
    simp only [Act.put, List.setIfInBounds_toArray, List.set_cons_zero, List.set_cons_succ] at hK
    simp only [h9] at hK ⊢
    go_simp
    exact hK _ _ rfl (gr_refl _ _)
  case o11 =>
    intro u w g hd K hK
    replace g : w0.grownBy w none := g
    have h10 : (u 10) = .pointer (some ⟨B, 0, none⟩) := hd 10 (by simp)
    clear hd
    simp only [Act.put, List.setIfInBounds_toArray, List.set_cons_zero, List.set_cons_succ] at hK
    simp only [h10] at hK ⊢
    go_simp
    exact hK _ _ rfl (gr_refl _ _)
  case o12 =>
    intro u w g hd K hK
    replace g : w0.grownBy w none := g
    have h11 : (u 11) = .pointer (some ⟨B, 0, none⟩) := hd 11 (by simp)
    clear hd
    simp only [Act.put, List.setIfInBounds_toArray, List.set_cons_zero, List.set_cons_succ] at hK
    have c := g.cell c0 (by simp)
    simp only [h11] at hK ⊢
    go_simp
    exact hK _ _ rfl (gr_refl _ _)
  case o13 =>
    intro u w g hd K hK
    replace g : w0.grownBy w none := g
    clear hd
    simp only [Act.put, List.setIfInBounds_toArray, List.set_cons_zero, List.set_cons_succ] at hK
    go_simp
    exact hK _ _ rfl (gr_refl _ _)
  case o14 =>
    intro u w g hd K hK
    replace g : w0.grownBy w none := g
    have h13 : (u 13) = .int .i64 (i : Int) := hd 13 (by simp)
    clear hd
    simp only [Act.put, List.setIfInBounds_toArray, List.set_cons_zero, List.set_cons_succ] at hK
    simp only [h13] at hK ⊢
    go_simp
    exact hK _ _ rfl (gr_refl _ _)
  case o15 =>
    intro u w g hd K hK
    replace g : w0.grownBy w none := g
    have h12 : (u 12) = .slice (some ⟨g0, 0, none⟩) n cap := hd 12 (by simp)
    have h14 : (u 14) = .int .i64 ((i : Int) + 1) := hd 14 (by simp)
    clear hd
    simp only [Act.put, List.setIfInBounds_toArray, List.set_cons_zero, List.set_cons_succ] at hK
    simp only [h12, h14] at hK ⊢
    go_simp
    refine hK _ _ ⟨_, _, by rw [HM.out], ?_⟩ (gr_refl _ _)
    by_cases hcc : cap = i + 1
    · exact .inl (by rw [List.drop_of_length_le (by rw [← HN.out]; omega)]; rfl)
    · rw [if_neg hcc]; exact S2.out
  case o16 =>
    intro u w g hd K hK
    replace g : w0.grownBy w none := g
    have h8 : w.ownsRow w0.heap.size 111 9 (u 8) i (rw9 (E.take i)) := hd 8 (by simp)
    have h15 : ∃ ad c, (u 15) = .slice ad m c ∧ SrcAt w0 ad (rw9 (E.drop (i + 1))) := hd 15 (by simp)
    clear hd
    simp only [Act.put, List.setIfInBounds_toArray, List.set_cons_zero, List.set_cons_succ] at hK
    obtain ⟨ad, c, e15, s15⟩ := h15
    split
    rotate_left
    · rename_i hno; exact absurd rfl hno
    refine wp_appG (.tmp 12) (.tmp 19) 106 rfl (base := w0.heap.size) (e := 111) (size := 9) (bytes := 96) Tryz.underlying106 hi0 hz0 hz1 hz2 rfl (by decide) (v := u 8) (n := i) (cs := rw9 (E.take i)) (by rfl) h8 (ad := ad) (m := m) (c := c) (news := rw9 (E.drop (i + 1))) (by exact e15) (by rw [rw9_len, List.length_drop, ← HN.out, ← HM.out]) (s15.grown g) (ONE.out _ (fun e he => List.mem_of_mem_drop he)) (by unfold maxLen; omega) (by omega) g.size ?_
    intro v' w' q2 q3 q4
    refine hK v' w' q2 ?_
    show KT _ _ _ _
    rcases h8.2 with ⟨e, -⟩ | ⟨b9, c9, u9, e, hN9, hb9, -⟩
    · rw [e] at q3; exact KT.of_none q3
    · rw [e] at q3; exact KT.of_row q3 hb9 hN9 rfl
  case o17 =>
    intro u w g hd K hK
    replace g : w0.grownBy w none := g
    have h0 : (u 0) = .pointer (some ⟨B, 0, none⟩) := hd 0 (by simp)
    clear hd
    simp only [Act.put, List.setIfInBounds_toArray, List.set_cons_zero, List.set_cons_succ] at hK
    simp only [h0] at hK ⊢
    go_simp
    exact hK _ _ rfl (gr_refl _ _)
  case o18 =>
    intro u w g hd K hK
    replace g : w0.grownBy w none := g
    have h17 : (u 17) = .pointer (some ⟨B, 0, none⟩) := hd 17 (by simp)
    clear hd
    simp only [Act.put, List.setIfInBounds_toArray, List.set_cons_zero, List.set_cons_succ] at hK
    simp only [h17] at hK ⊢
    go_simp
    exact hK _ _ rfl (gr_refl _ _)
  intro u w hS g
  have s0 : (u 0) = .pointer (some ⟨B, 0, none⟩) := hS 0 (by decide) (by decide)
  have s2 : (u 2) = .pointer (some ⟨B, 0, none⟩) := hS 2 (by decide) (by decide)
  have s3 : (u 3) = .pointer (some ⟨B, 0, none⟩) := hS 3 (by decide) (by decide)
  have s4 : (u 4) = .pointer (some ⟨B, 0, none⟩) := hS 4 (by decide) (by decide)
  have s5 : (u 5) = .slice (some ⟨g0, 0, none⟩) n cap := hS 5 (by decide) (by decide)
  have s6 : (u 6) = .int .i64 (i : Int) := hS 6 (by decide) (by decide)
  have s7 : (u 7) = .slice (some ⟨g0, 0, none⟩) i cap := hS 7 (by decide) (by decide)
  have s9 : (u 9) = .pointer (some ⟨B, 0, none⟩) := hS 9 (by decide) (by decide)
  have s10 : (u 10) = .pointer (some ⟨B, 0, none⟩) := hS 10 (by decide) (by decide)
  have s11 : (u 11) = .pointer (some ⟨B, 0, none⟩) := hS 11 (by decide) (by decide)
  have s12 : (u 12) = .slice (some ⟨g0, 0, none⟩) n cap := hS 12 (by decide) (by decide)
  have s13 : (u 13) = .int .i64 (i : Int) := hS 13 (by decide) (by decide)
  have s14 : (u 14) = .int .i64 ((i : Int) + 1) := hS 14 (by decide) (by decide)
  have s15 : ∃ ad c, (u 15) = .slice ad m c ∧ SrcAt w0 ad (rw9 (E.drop (i + 1))) := hS 15 (by decide) (by decide)
  have s16 : w.ownsRow w0.heap.size 111 9 (u 16) (i + m) (rw9 (E.take i) ++ rw9 (E.drop (i + 1))) := hS 16 (by decide) (by decide)
  have s17 : (u 17) = .pointer (some ⟨B, 0, none⟩) := hS 17 (by decide) (by decide)
  have s18 : (u 18) = .pointer (some ⟨B, 0, none⟩) := hS 18 (by decide) (by decide)
  clear hS
  have R := hid s16
  have T18 := hid s18
  have GX := hid g
  clear s0 s2 s3 s4 s5 s6 s7 s9 s10 s11 s12 s13 s14 s15 s16 s17 s18 g
  generalize u 0 = y0 at *
  generalize u 1 = y1 at *
  generalize u 2 = y2 at *
  generalize u 3 = y3 at *
  generalize u 4 = y4 at *
  generalize u 5 = y5 at *
  generalize u 6 = y6 at *
  generalize u 7 = y7 at *
  generalize u 8 = y8 at *
  generalize u 9 = y9 at *
  generalize u 10 = y10 at *
  generalize u 11 = y11 at *
  generalize u 12 = y12 at *
  generalize u 13 = y13 at *
  generalize u 14 = y14 at *
  generalize u 15 = y15 at *
  generalize u 16 = y16 at *
  generalize u 17 = y17 at *
  generalize u 18 = y18 at *
  obtain rfl := T18.out
  change wpList _ _ _ [_] _ _
  have he : E.eraseIdx i = E.take i ++ E.drop (i + 1) := List.eraseIdx_eq_take_drop_succ ..
  have hel : (E.eraseIdx i).length = i + m := by rw [he, List.length_append, List.length_take, List.length_drop, ← HN.out]; omega
  have RO : w.ownsRow w0.heap.size 111 9 y16 (E.eraseIdx i).length (rw9 (E.eraseIdx i)) := by
    rw [hel, he, rw9_app]; exact R.out
  have hB2 := gr_keep GX.out HB.out (by simp)
  have f2 := free_of_block hB2 0
  have c2 := (cell_of_block hB2 0).trans (show _ = some (Value.slice (some ⟨g0, 0, none⟩) E.length cap) from rfl)
  have MK := hid (RAt.mk2 (F := F) HH.out.low hB2 RO (Nat.le_trans HH.out.low (Nat.le_of_lt (lt_of_block HB.out))) (fun e he => (HH.out.each e (List.mem_of_mem_eraseIdx he)).grow GX.out) HH.out.mo (Nat.le_trans (List.length_eraseIdx_le ..) HH.out.n))
  obtain ⟨ra, rc, rfl⟩ := own_shapeG RO
  clear RO hB2 R he hel
  go_wp2
  refine bodyPost_end (results_none rfl _ _ _) rfl ?_
  exact ⟨rfl, MK.out.1, (KT.of_none GX.out).trans MK.out.2⟩
end Go.Proofs.YtfceodbpkghkaaaGreatDoor
/- hearthref22: Done. -/
namespace Go.Proofs.YtfceodbpkghkaaaGreatDoor
open Go.RowKit
set_option linter.unusedVariables false
set_option linter.unusedSimpArgs false

def RNo (w : World) (N : Nat) (F : Nat → Prop) (B most : Nat) (L : List Sb) (e : Ending) (w' : World) : Prop :=
  e = .returned (.tuple #[]) ∧ RAll w' N F B L most ∧ KT TR N w w'
theorem map_set1 (E : List Sv) (i : Nat) (e : Sv) : (E.set i e).map (·.1) = (E.map (·.1)).set i e.1 := List.map_set ..
theorem map_er1 (E : List Sv) (i : Nat) : (E.eraseIdx i).map (·.1) = (E.map (·.1)).eraseIdx i := by
  rw [List.eraseIdx_eq_take_drop_succ, List.eraseIdx_eq_take_drop_succ, List.map_append, List.map_take, List.map_drop]
/-- A cell of the row is written: what a walk asks for behind it. -/
theorem RAt.upd2 {w : World} {N : Nat} {F : Nat → Prop} {B : Nat} {E : List Sv} {most i j b cap : Nat} {e e' : Sv} {v : Value} (h : RAt w N F B E most) (hB : w.heap[B]? = some (.cells #[.slice (some ⟨b, 0, none⟩) E.length cap, .int .i64 most] 108 (0, 0))) (hb : ∃ cs, w.heap[b]? = some (.cells cs 111 (0, 0))) (hi : E[i]? = some e) (hj : j < 9) (hs : (subC e'.1 e'.2).toList = (subC e.1 e.2).toList.set j v) (ha : ArgsK w N F e'.2 e'.1.last) :
    RAt (w.setCell ⟨b, i * 9 + j, none⟩ v) N F B (E.set i e') most ∧ KT TR N w (w.setCell ⟨b, i * 9 + j, none⟩ v) ∧ (w.setCell ⟨b, i * 9 + j, none⟩ v).heap[B]? = some (.cells #[.slice (some ⟨b, 0, none⟩) E.length cap, .int .i64 most] 108 (0, 0)) ∧ (∃ cs, (w.setCell ⟨b, i * 9 + j, none⟩ v).heap[b]? = some (.cells cs 111 (0, 0))) ∧ (E.set i e')[i]? = some e' ∧ ∀ k, k < 9 → (w.setCell ⟨b, i * 9 + j, none⟩ v).cell? ⟨b, i * 9 + k, none⟩ = (subC e'.1 e'.2)[k]? := by
  obtain ⟨h1, h2⟩ := h.upd hB hi hj hs ha
  obtain ⟨cs, hb⟩ := hb
  have hil := (List.getElem?_eq_some_iff.1 hi).1
  have hB' : (w.setCell ⟨b, i * 9 + j, none⟩ v).heap[B]? = some (.cells #[.slice (some ⟨b, 0, none⟩) E.length cap, .int .i64 most] 108 (0, 0)) := gr_keep (gr_set (gr_refl w (some b))) hB (blk_ne hB hb (by decide))
  have hset : (E.set i e')[i]? = some e' := List.getElem?_set_self hil
  refine ⟨h1, h2, hB', ⟨_, heap_set hb⟩, hset, fun k hk => ?_⟩
  obtain ⟨a, c, p1, -, -, -, p2⟩ := h1.parts
  obtain ⟨g, e1, -, -, p3⟩ := p2 i e' hset
  rw [hB'] at p1
  obtain rfl : a = some ⟨b, 0, none⟩ := by
    have := congrArg (fun o => match o with | some (Obj.cells cs _ _) => cs[0]? | _ => none) p1
    simp at this
    exact this.1.symm
  obtain rfl : b = g := by simpa using e1
  exact p3 k hk
set_option maxRecDepth 20000 in
set_option maxHeartbeats 4000000 in
theorem rdone_x (N : Nat) (F : Nat → Prop) (B : Nat) (E : List Sv) (most : Nat) (s : Gs) (ok : Bool) (now : Nat) (hnow : now < 18446744073709551616) (w : World) (h : RAt w N F B E most) (hEl : E.length ≤ 1000000) (hsq : ∀ e ∈ E, e.1.seq < 4294967296) :
    Calls Tryz.prog 56 #[.pointer (some ⟨B, 0, none⟩), .string ⟨s.toArray⟩, .bool ok, .int .u64 (now : Int)] w (RNo w N F B most (doneL (E.map (·.1)) s ok now)) := by
  have FND := hid (rfind_x N F B E most s w h)
  have HH := hid h
  obtain ⟨a, cap, hB, hr, hcap, -, hc⟩ := h.parts
  have HB := hid hB
  have c0 := (cell_of_block hB 0).trans (show _ = some (Value.slice a E.length cap) from rfl)
  have HLA := hid (fun (W : World) => rlater_x now 1 hnow (by omega) W)
  have HD := hid (show doneL (E.map (·.1)) s ok now = (match (E.map (·.1))[findL (E.map (·.1)) s]? with | none => E.map (·.1) | some x => if x.busy = false then E.map (·.1) else if ok = false then (E.map (·.1)).eraseIdx (findL (E.map (·.1)) s) else (E.map (·.1)).set (findL (E.map (·.1)) s) { x with busy := false, ready := laterL now 1, seq := if x.seq = 4294967295 then 1 else x.seq + 1 }) from rfl)
  obtain ⟨r, hr0⟩ : ∃ r, r = doneL (E.map (·.1)) s ok now := ⟨_, rfl⟩
  rw [← hr0] at HD ⊢
  have hl : (E.map (·.1)).length = E.length := List.length_map ..
  clear h hr0 hr
  cases hx : (E.map (·.1))[findL (E.map (·.1)) s]? with
  | none =>
    have R := hid (show r = E.map (·.1) by rw [HD.out, hx])
    rw [plI_none hx] at FND
    clear HD hx
    go_enter Tryz.func56, Tryz.ntmps56
    go_wp2_with fail
    refine FND.out.mono ?_
    rintro e w2 ⟨rfl, rfl⟩
    go_wp2
    refine bodyPost_ret (results_none rfl _ _ _) rfl ?_
    exact ⟨rfl, by rw [R.out]; exact HH.out.all, KT.refl _⟩
  | some x =>
    rw [plI_some hx] at FND
    obtain ⟨i, hi⟩ : ∃ i, i = findL (E.map (·.1)) s := ⟨_, rfl⟩
    rw [hx] at HD
    rw [← hi] at HD FND hx
    have HX := hid hx
    obtain ⟨e, hek, rfl⟩ : ∃ e, E[i]? = some e ∧ e.1 = x := by
      rw [List.getElem?_map] at hx
      cases he : E[i]? with
      | none => rw [he] at hx; cases hx
      | some e => rw [he] at hx; exact ⟨e, rfl, Option.some.inj hx⟩
    clear hx hi
    obtain ⟨g0, rfl, hgN, ⟨cs0, hcs0⟩, hcell⟩ := hc i e hek
    have hil := (List.getElem?_eq_some_iff.1 hek).1
    have hi1 : (i : Int) < (E.length : Int) := by omega
    have q6 := (hcell 6 (by omega)).trans (show _ = some (.bool e.1.busy) from rfl)
    have hc4 := (hcell 4 (by omega)).trans (show _ = some (.int .u32 e.1.seq) from rfl)
    have HCL := hid hcell
    have HEK := hid hek
    have HSQ := hid (hsq e (List.mem_of_getElem? hek))
    have HC0 := hid hcs0
    clear hc hcell hek hcs0 hsq
    cases hbu : e.1.busy
    · have R := hid (show r = E.map (·.1) by rw [HD.out]; simp only; rw [if_pos hbu])
      rw [hbu] at q6
      clear HD hbu
      go_enter Tryz.func56, Tryz.ntmps56
      go_wp2_with fail
      refine FND.out.mono ?_
      rintro e w2 ⟨rfl, rfl⟩
      go_wp2
      refine bodyPost_ret (results_none rfl _ _ _) rfl ?_
      exact ⟨rfl, by rw [R.out]; exact HH.out.all, KT.refl _⟩
    · rw [hbu] at q6
      cases ok with
      | false =>
        have R := hid (show r = (E.map (·.1)).eraseIdx i by rw [HD.out]; simp only; rw [if_neg (by rw [hbu]; simp)]; exact if_pos trivial)
        have HRM := hid (remove_r N F B E most i hil w HH.out hEl)
        clear HD hbu
        go_enter Tryz.func56, Tryz.ntmps56
        go_wp2_with fail
        refine FND.out.mono ?_
        rintro e w2 ⟨rfl, rfl⟩
        go_wp2_with fail
        refine HRM.out.mono ?_
        rintro e w3 ⟨rfl, h3, k3⟩
        have P3 := hid (And.intro h3 k3)
        clear h3 k3
        go_wp2
        refine bodyPost_ret (results_none rfl _ _ _) rfl ?_
        exact ⟨rfl, by rw [R.out, ← map_er1]; exact P3.out.1.all, P3.out.2⟩
      | true =>
        have HR := hid (show r = (E.map (·.1)).set i { e.1 with busy := false, ready := laterL now 1, seq := if e.1.seq = 4294967295 then 1 else e.1.seq + 1 } by rw [HD.out]; simp only; rw [if_neg (by rw [hbu]; simp), if_neg (by simp)])
        obtain ⟨ln, hln⟩ : ∃ ln, ln = laterL now 1 := ⟨_, rfl⟩
        rw [← hln] at HR HLA
        obtain ⟨sq, hsq⟩ : ∃ sq, sq = e.1.seq := ⟨_, rfl⟩
        have HSE := hid hsq
        have U1 := hid (HH.out.upd2 (e' := ({ e.1 with busy := false }, e.2)) (j := 6) (v := .bool false) HB.out ⟨cs0, HC0.out⟩ HEK.out (by omega) (by unfold subC; simp) (HH.out.each e (List.mem_of_getElem? HEK.out)))
        have f6 := free_of_block HC0.out (i * 9 + 6)
        rw [← hsq] at HR
        clear HD hbu hln hsq
        go_enter Tryz.func56, Tryz.ntmps56
        go_wp2_with fail
        refine FND.out.mono ?_
        rintro e w2 ⟨rfl, rfl⟩
        go_upto_region 5 with fail
        obtain ⟨w0, hw0⟩ : ∃ w0, w0 = w.setCell ⟨g0, i * 9 + 6, none⟩ (.bool false) := ⟨_, rfl⟩
        rw [← hw0] at U1 ⊢
        have b0 := (cell_of_block U1.out.2.2.1 0).trans (show _ = some (Value.slice (some ⟨g0, 0, none⟩) E.length cap) from rfl)
        have K1 := hid U1.out.2.1
        clear hw0 q6 hc4 c0 f6
        refine wp_region_spec3 9 10 none (by kernel_rfl) (by kernel_rfl) (by kernel_rfl) (by kernel_rfl) (by kernel_rfl) (by kernel_rfl) [some 37, some 38, some 39, some 40, some 41, some 42, some 43, some 44, some 45] (by kernel_rfl) _ (fun u => (by simp only [fill, List.zipIdx_cons, List.zipIdx_nil, List.foldl_cons, List.foldl_nil, Act.put, List.setIfInBounds_toArray, List.set_cons_zero, List.set_cons_succ, Nat.zero_add, Nat.reduceAdd]; exact rfl)) (by kernel_rfl)
          (all_succ (all_succ (all_succ (all_succ (all_succ (all_succ (all_succ (all_succ (all_succ (all_zero _) (fun u v => by kernel_rfl)) (fun u v => by kernel_rfl)) (fun u v => by kernel_rfl)) (fun u v => by kernel_rfl)) (fun u v => by kernel_rfl)) (fun u v => by kernel_rfl)) (fun u v => by kernel_rfl)) (fun u v => by kernel_rfl)) (fun u v => by kernel_rfl))
          (fun ri v w => match ri with | 0 => v = .pointer (some ⟨B, 0, none⟩) | 1 => v = .pointer (some ⟨B, 0, none⟩) | 2 => v = .pointer (some ⟨B, 0, none⟩) | 3 => v = .slice (some ⟨g0, 0, none⟩) E.length cap | 4 => v = .int .i64 (i : Int) | 5 => v = .int .u64 (now : Int) | 6 => v = .int .u64 (ln : Int) | 7 => v = .pointer (some ⟨g0, i * 9, none⟩) | 8 => v = .pointer (some ⟨g0, i * 9 + 7, none⟩) | _ => True)
          (all_succ (all_succ (all_succ (all_succ (all_succ (all_succ (all_succ (all_succ (all_succ (all_zero _) ?qm0) ?qm1) ?qm2) ?qm3) ?qm4) ?qm5) ?qm6) ?qm7) ?qm8)
          [[], [0], [1], [2], [], [], [5], [3, 4], [7]] (by kernel_rfl)
          ⟨?qo0, ?qo1, ?qo2, ?qo3, ?qo4, ?qo5, ?qo6, ?qo7, ?qo8, trivial⟩ ?qdone
        case qm0 => intro v w w' h g; exact h
        case qm1 => intro v w w' h g; exact h
        case qm2 => intro v w w' h g; exact h
        case qm3 => intro v w w' h g; exact h
        case qm4 => intro v w w' h g; exact h
        case qm5 => intro v w w' h g; exact h
        case qm6 => intro v w w' h g; exact h
        case qm7 => intro v w w' h g; exact h
        case qm8 => intro v w w' h g; exact h
        case qo0 =>
          intro u w g hd K hK
          replace g : w0.grownBy w (none) := g
          clear hd
          simp only [Act.put, List.setIfInBounds_toArray, List.set_cons_zero, List.set_cons_succ] at hK
          go_simp
          exact hK _ _ rfl (gr_refl _ _)
        case qo1 =>
          intro u w g hd K hK
          replace g : w0.grownBy w (none) := g
          have h0 : (u 0) = .pointer (some ⟨B, 0, none⟩) := hd 0 (by simp)
          clear hd
          simp only [Act.put, List.setIfInBounds_toArray, List.set_cons_zero, List.set_cons_succ] at hK
          simp only [h0] at hK ⊢
          go_simp
          exact hK _ _ rfl (gr_refl _ _)
        case qo2 =>
          intro u w g hd K hK
          replace g : w0.grownBy w (none) := g
          have h1 : (u 1) = .pointer (some ⟨B, 0, none⟩) := hd 1 (by simp)
          clear hd
          simp only [Act.put, List.setIfInBounds_toArray, List.set_cons_zero, List.set_cons_succ] at hK
          simp only [h1] at hK ⊢
          go_simp
          exact hK _ _ rfl (gr_refl _ _)
        case qo3 =>
          intro u w g hd K hK
          replace g : w0.grownBy w (none) := g
          have h2 : (u 2) = .pointer (some ⟨B, 0, none⟩) := hd 2 (by simp)
          clear hd
          simp only [Act.put, List.setIfInBounds_toArray, List.set_cons_zero, List.set_cons_succ] at hK
          have c := g.cell b0 (by simp)
          simp only [h2] at hK ⊢
          go_simp
          exact hK _ _ rfl (gr_refl _ _)
        case qo4 =>
          intro u w g hd K hK
          replace g : w0.grownBy w (none) := g
          clear hd
          simp only [Act.put, List.setIfInBounds_toArray, List.set_cons_zero, List.set_cons_succ] at hK
          go_simp
          exact hK _ _ rfl (gr_refl _ _)
        case qo5 =>
          intro u w g hd K hK
          replace g : w0.grownBy w (none) := g
          clear hd
          simp only [Act.put, List.setIfInBounds_toArray, List.set_cons_zero, List.set_cons_succ] at hK
          go_simp
          exact hK _ _ rfl (gr_refl _ _)
        case qo6 =>
          intro u w g hd K hK
          replace g : w0.grownBy w (none) := g
          have h5 : (u 5) = .int .u64 (now : Int) := hd 5 (by simp)
          clear hd
          simp only [Act.put, List.setIfInBounds_toArray, List.set_cons_zero, List.set_cons_succ] at hK
          simp only [h5] at hK ⊢
          go_simp
          refine (HLA.out w).mono ?_
          rintro e w' ⟨rfl, rfl⟩
          exact hK _ _ rfl (gr_refl _ _)
        case qo7 =>
          intro u w g hd K hK
          replace g : w0.grownBy w (none) := g
          have h3 : (u 3) = .slice (some ⟨g0, 0, none⟩) E.length cap := hd 3 (by simp)
          have h4 : (u 4) = .int .i64 (i : Int) := hd 4 (by simp)
          clear hd
          simp only [Act.put, List.setIfInBounds_toArray, List.set_cons_zero, List.set_cons_succ] at hK
          simp only [h3, h4] at hK ⊢
          go_simp
          exact hK _ _ rfl (gr_refl _ _)
        case qo8 =>
          intro u w g hd K hK
          replace g : w0.grownBy w (none) := g
          have h7 : (u 7) = .pointer (some ⟨g0, i * 9, none⟩) := hd 7 (by simp)
          clear hd
          simp only [Act.put, List.setIfInBounds_toArray, List.set_cons_zero, List.set_cons_succ] at hK
          simp only [h7] at hK ⊢
          go_simp
          exact hK _ _ rfl (gr_refl _ _)
        intro u w hS g
        have s0 : (u 0) = .pointer (some ⟨B, 0, none⟩) := hS 0 (by decide)
        have s1 : (u 1) = .pointer (some ⟨B, 0, none⟩) := hS 1 (by decide)
        have s2 : (u 2) = .pointer (some ⟨B, 0, none⟩) := hS 2 (by decide)
        have s3 : (u 3) = .slice (some ⟨g0, 0, none⟩) E.length cap := hS 3 (by decide)
        have s4 : (u 4) = .int .i64 (i : Int) := hS 4 (by decide)
        have s5 : (u 5) = .int .u64 (now : Int) := hS 5 (by decide)
        have s6 : (u 6) = .int .u64 (ln : Int) := hS 6 (by decide)
        have s7 : (u 7) = .pointer (some ⟨g0, i * 9, none⟩) := hS 7 (by decide)
        have s8 : (u 8) = .pointer (some ⟨g0, i * 9 + 7, none⟩) := hS 8 (by decide)
        clear hS
        replace g : w0.grownBy w none := g
        change wpList _ _ _ [_] _ _
        have GY := hid g
        have T6 := hid s6
        have T8 := hid s8
        clear s0 s1 s2 s3 s4 s5 s6 s7 s8 g
        generalize u 0 = y0 at *
        generalize u 1 = y1 at *
        generalize u 2 = y2 at *
        generalize u 3 = y3 at *
        generalize u 4 = y4 at *
        generalize u 5 = y5 at *
        generalize u 6 = y6 at *
        generalize u 7 = y7 at *
        generalize u 8 = y8 at *
        obtain rfl := T6.out
        obtain rfl := T8.out
        have P1 := U1.out.1.grow GY.out
        have hB1 := gr_keep GY.out U1.out.2.2.1 (by simp)
        have hb1 := U1.out.2.2.2.1.imp fun cs (h : w0.heap[g0]? = _) => gr_keep GY.out h (by simp)
        have r7 := GY.out.cell ((U1.out.2.2.2.2.2 7 (by omega)).trans (show _ = some (.int .u64 e.1.ready) from rfl)) (by simp)
        have f7 := free_of_block hb1.choose_spec (i * 9 + 7)
        have A1 := hid (P1.each _ (List.mem_of_getElem? U1.out.2.2.2.2.1))
        have U2 := hid (P1.upd2 (e' := ({ e.1 with busy := false, ready := ln }, e.2)) (j := 7) (v := .int .u64 (ln : Int)) (by rw [List.length_set]; exact hB1) hb1 U1.out.2.2.2.2.1 (by omega) (by unfold subC; simp) A1.out)
        have K2 := hid (K1.out.trans ((KT.of_none GY.out).trans U2.out.2.1))
        clear P1 hB1 hb1 U1 b0
        go_upto_region 6 with fail
        obtain ⟨w3, hw3⟩ : ∃ w3, w3 = w.setCell ⟨g0, i * 9 + 7, none⟩ (.int .u64 (ln : Int)) := ⟨_, rfl⟩
        rw [← hw3] at U2 K2 ⊢
        have b3 := (cell_of_block U2.out.2.2.1 0).trans (show _ = some (Value.slice (some ⟨g0, 0, none⟩) (E.set i _).length cap) from rfl)
        rw [List.length_set] at b3
        have r4 := (U2.out.2.2.2.2.2 4 (by omega)).trans (show _ = some (.int .u32 e.1.seq) from rfl)
        have f4 := free_of_block U2.out.2.2.2.1.choose_spec (i * 9 + 4)
        rw [← HSE.out] at r4
        have hsqb : sq < 4294967296 := by rw [HSE.out]; exact HSQ.out
        have A2 := hid (U2.out.1.each _ (List.mem_of_getElem? U2.out.2.2.2.2.1))
        clear hw3 r7 f7 A1 GY
        have hss : ∀ (a b c : Sv), ((E.set i a).set i b).set i c = E.set i c := fun a b c => by rw [List.set_set, List.set_set]
        by_cases hmax : sq = 4294967295
        · rw [if_pos hmax] at HR
          subst hmax
          have U3 := hid (U2.out.1.upd2 (e' := ({ e.1 with busy := false, ready := ln, seq := 0 }, e.2)) (j := 4) (v := .int .u32 0) (by have := U2.out.2.2.1; simp only [List.length_set] at this ⊢; exact this) U2.out.2.2.2.1 U2.out.2.2.2.2.1 (by omega) (by unfold subC; simp) A2.out)
          have A3 := hid (U3.out.1.each _ (List.mem_of_getElem? U3.out.2.2.2.2.1))
          have U4 := hid (U3.out.1.upd2 (e' := ({ e.1 with busy := false, ready := ln, seq := 1 }, e.2)) (j := 4) (v := .int .u32 1) (by have := U3.out.2.2.1; simp only [List.length_set] at this ⊢; exact this) U3.out.2.2.2.1 U3.out.2.2.2.2.1 (by omega) (by unfold subC; simp) A3.out)
          have K4 := hid ((K2.out.trans U3.out.2.1).trans U4.out.2.1)
          clear U2 U3 A3
          go_wp2
          refine bodyPost_end (results_none rfl _ _ _) rfl ?_
          refine ⟨rfl, ?_, K4.out⟩
          have := U4.out.1
          rw [List.set_set, hss] at this
          rw [HR.out]
          refine ⟨_, ?_, this⟩
          rw [map_set1]
        · rw [if_neg hmax] at HR
          have U3 := hid (U2.out.1.upd2 (e' := ({ e.1 with busy := false, ready := ln, seq := sq + 1 }, e.2)) (j := 4) (v := .int .u32 ((sq : Int) + 1)) (by have := U2.out.2.2.1; simp only [List.length_set] at this ⊢; exact this) U2.out.2.2.2.1 U2.out.2.2.2.2.1 (by omega) (by unfold subC; simp) A2.out)
          have hs2 : (sq : Int) + 1 ≤ 4294967295 := by omega
          have hs3 : ((sq : Int) + 1 == 0) = false := by simp; omega
          have hs4 : ¬ ((sq : Int) + 1 = 0) := by omega
          clear U2
          go_wp2
          refine bodyPost_end (results_none rfl _ _ _) rfl ?_
          refine ⟨rfl, ?_, K2.out.trans U3.out.2.1⟩
          have := U3.out.1
          rw [hss] at this
          rw [HR.out]
          refine ⟨_, ?_, this⟩
          rw [map_set1]
end Go.Proofs.YtfceodbpkghkaaaGreatDoor
/- hearthref22: Unsubscribe. -/
namespace Go.Proofs.YtfceodbpkghkaaaGreatDoor
open Go.RowKit
set_option linter.unusedVariables false
set_option linter.unusedSimpArgs false

def RSt (w : World) (N : Nat) (F : Nat → Prop) (B most : Nat) (r : List Sb × Nat) (e : Ending) (w' : World) : Prop :=
  e = .returned (.int .i64 (r.2 : Int)) ∧ RAll w' N F B r.1 most ∧ KT TR N w w'
set_option maxRecDepth 20000 in
set_option maxHeartbeats 4000000 in
theorem runsub_x (N : Nat) (F : Nat → Prop) (B : Nat) (E : List Sv) (most : Nat) (m t : ByteArray) (mi : Int) (fv bv : Value) (kp : Bool) (fs : List (Gs × Gs)) (who : Nat) (w : World) (h : RAt w N F B E most) (hf : FsAt w fv fs) (hfl : fs.length ≤ 100000) (hbv : ∃ a n c, bv = .slice a n c) (hEl : E.length ≤ 1000000) :
    Calls Tryz.prog 53 #[.pointer (some ⟨B, 0, none⟩), .agg #[.string m, .string t, .int .i64 mi, fv, bv, .bool kp], .int .u32 (who : Int)] w (RSt w N F B most (unsubL (E.map (·.1)) fs who)) := by
  obtain ⟨ba, bn, bc, rfl⟩ := hbv
  have HF := hid hf
  obtain ⟨fa, fc, rfl⟩ := hf.shape
  have nb := hid (heap_alloc_new w (.cells #[.string m, .string t, .int .i64 mi, .slice fa fs.length fc, .slice ba bn bc, .bool kp] 49))
  have g1 := hid (World.grownBy_alloc w (.cells #[.string m, .string t, .int .i64 mi, .slice fa fs.length fc, .slice ba bn bc, .bool kp] 49) none)
  have HP := hid (h.grow g1.out)
  have CNT := hid (fun (W : World) (g : w.grownBy W none) (name : Gs) => rcount_x m t mi _ (.slice ba bn bc) kp fs name W (HF.out.grow g) hfl ⟨_, _, _, rfl⟩)
  have GET := hid (fun (W : World) (g : w.grownBy W none) (name : Gs) => rget_sat W _ fs name (HF.out.grow g) hfl)
  have cc := hid (fun (k : Nat) => cell_of_block nb.out k)
  have hc0 := (cc.out 0).trans (show _ = some (Value.string m) from rfl)
  have hc1 := (cc.out 1).trans (show _ = some (Value.string t) from rfl)
  have hc2 := (cc.out 2).trans (show _ = some (Value.int .i64 mi) from rfl)
  have hc3 := (cc.out 3).trans (show _ = some (Value.slice fa fs.length fc) from rfl)
  have hc4 := (cc.out 4).trans (show _ = some (Value.slice ba bn bc) from rfl)
  have hc5 := (cc.out 5).trans (show _ = some (Value.bool kp) from rfl)
  have HL := hid (show unsubL (E.map (·.1)) fs who = match getL fs kSid with | [s] => if getL fs kNt ≠ [] ∨ getL fs kCall ≠ [] then (E.map (·.1), 400) else (match (E.map (·.1))[findL (E.map (·.1)) s]? with | none => (E.map (·.1), 412) | some x => if x.host = who then ((E.map (·.1)).eraseIdx (findL (E.map (·.1)) s), 200) else (E.map (·.1), 412)) | _ => (E.map (·.1), 400) from rfl)
  obtain ⟨r, hr⟩ : ∃ r, r = unsubL (E.map (·.1)) fs who := ⟨_, rfl⟩
  rw [← hr] at HL ⊢
  clear hf h hr nb cc
  go_enter Tryz.func53, Tryz.ntmps53
  go_wp2_with fail
  obtain ⟨w1, hw1⟩ : ∃ w1, w1 = w.alloc (.cells #[.string m, .string t, .int .i64 mi, .slice fa fs.length fc, .slice ba bn bc, .bool kp] 49) := ⟨_, rfl⟩
  obtain ⟨A, hA⟩ : ∃ A, A = w.heap.size := ⟨_, rfl⟩
  rw [← hw1] at g1 HP hc0 hc1 hc2 hc3 hc4 hc5 ⊢
  rw [← hA] at hc0 hc1 hc2 hc3 hc4 hc5 ⊢
  clear hw1 hA
  refine (CNT.out w1 g1.out kSid).mono ?_
  rintro e w2 ⟨rfl, g2⟩
  have G2 := hid (gr_trans g1.out g2)
  have P2 := hid (HP.out.grow g2)
  have d0 := g2.cell hc0 (by simp)
  have d1 := g2.cell hc1 (by simp)
  have d2 := g2.cell hc2 (by simp)
  have d3 := g2.cell hc3 (by simp)
  have d4 := g2.cell hc4 (by simp)
  have d5 := g2.cell hc5 (by simp)
  obtain ⟨xs, hxs⟩ : ∃ xs, xs = getL fs kSid := ⟨_, rfl⟩
  have HXS := hid hxs
  rw [← hxs] at HL ⊢
  clear hc0 hc1 hc2 hc3 hc4 hc5 g1 g2 HP hxs
  by_cases h1 : xs.length = 1
  rotate_left
  · have R := hid (show r = (E.map (·.1), 400) by
      rw [HL.out]
      rcases xs with _ | ⟨a, _ | ⟨b, xs⟩⟩
      · rfl
      · exact absurd rfl h1
      · rfl)
    have hb1 : ((xs.length : Int) != 1) = true := by simp; omega
    have hb2 : ((xs.length : Int) == 1) = false := by simp; omega
    clear h1 HL GET CNT
    go_wp2
    go_ret
    exact ⟨by rw [R.out]; rfl, by rw [R.out]; exact P2.out.all, KT.of_none G2.out⟩
  obtain ⟨s, rfl⟩ : ∃ s, xs = [s] := List.length_eq_one_iff.1 h1
  clear h1
  simp only [List.length_cons, List.length_nil] at *
  go_wp2_with fail
  refine (CNT.out w2 G2.out kNt).mono ?_
  rintro e w3 ⟨rfl, g3⟩
  have G3 := hid (gr_trans G2.out g3)
  have P3 := hid (P2.out.grow g3)
  have e0 := g3.cell d0 (by simp)
  have e1 := g3.cell d1 (by simp)
  have e2 := g3.cell d2 (by simp)
  have e3 := g3.cell d3 (by simp)
  have e4 := g3.cell d4 (by simp)
  have e5 := g3.cell d5 (by simp)
  obtain ⟨ns, hns⟩ : ∃ ns, ns = getL fs kNt := ⟨_, rfl⟩
  rw [← hns] at HL ⊢
  clear hns g3 d0 d1 d2 d3 d4 d5 G2 P2
  by_cases h2 : ns = []
  rotate_left
  · have R := hid (show r = (E.map (·.1), 400) from HL.out.trans (if_pos (.inl h2)))
    have hp : 0 < ns.length := List.length_pos_iff.2 h2
    have hd := decide_eq_true hp
    clear h2 HL GET CNT
    go_wp2
    go_ret
    exact ⟨by rw [R.out]; rfl, by rw [R.out]; exact P3.out.all, KT.of_none G3.out⟩
  subst h2
  go_wp2_with fail
  refine (CNT.out w3 G3.out kCall).mono ?_
  rintro e w4 ⟨rfl, g4⟩
  have G4 := hid (gr_trans G3.out g4)
  have P4 := hid (P3.out.grow g4)
  have c3 := g4.cell e3 (by simp)
  obtain ⟨cs, hcs⟩ : ∃ cs, cs = getL fs kCall := ⟨_, rfl⟩
  rw [← hcs] at HL ⊢
  clear hcs g4 e0 e1 e2 e3 e4 e5 G3 P3 CNT
  by_cases h3 : cs = []
  rotate_left
  · have R := hid (show r = (E.map (·.1), 400) from HL.out.trans (if_pos (.inr h3)))
    have hp : 0 < cs.length := List.length_pos_iff.2 h3
    have hd := decide_eq_true hp
    clear h3 HL GET
    go_wp2
    go_ret
    exact ⟨by rw [R.out]; rfl, by rw [R.out]; exact P4.out.all, KT.of_none G4.out⟩
  subst h3
  have HL2 := hid (HL.out.trans (show _ = (match (E.map (·.1))[findL (E.map (·.1)) s]? with | none => (E.map (·.1), 412) | some x => if x.host = who then ((E.map (·.1)).eraseIdx (findL (E.map (·.1)) s), 200) else (E.map (·.1), 412)) from if_neg (by simp)))
  clear HL
  go_wp2_with fail
  refine (GET.out w4 G4.out kSid).mono ?_
  rintro e w5 ⟨sv, rfl, hs, g5⟩
  have G5 := hid (gr_trans G4.out g5)
  have P5 := hid (P4.out.grow g5)
  rw [← HXS.out] at hs
  obtain ⟨a', c', rfl, -, h2⟩ := hs
  obtain ⟨g, rfl, hs0⟩ := h2 0 s rfl
  unfold str at hs0
  clear g5 P4 G4 GET c3 h2
  simp only [List.length_cons, List.length_nil] at *
  go_wp2_with fail
  refine (rfind_x N F B E most s w5 P5.out).mono ?_
  rintro e w6 ⟨rfl, rfl⟩
  have hl : (E.map (·.1)).length = E.length := List.length_map ..
  cases hx : (E.map (·.1))[findL (E.map (·.1)) s]? with
  | none =>
    have R := hid (show r = (E.map (·.1), 412) by rw [HL2.out, hx])
    rw [plI_none hx]
    clear HL2 hx
    go_wp2
    go_ret
    exact ⟨by rw [R.out]; rfl, by rw [R.out]; exact P5.out.all, KT.of_none G5.out⟩
  | some x =>
    rw [plI_some hx]
    obtain ⟨i, hi⟩ : ∃ i, i = findL (E.map (·.1)) s := ⟨_, rfl⟩
    rw [hx] at HL2
    rw [← hi] at HL2 hx ⊢
    obtain ⟨e, hek, rfl⟩ : ∃ e, E[i]? = some e ∧ e.1 = x := by
      rw [List.getElem?_map] at hx
      cases he : E[i]? with
      | none => rw [he] at hx; cases hx
      | some e => rw [he] at hx; exact ⟨e, rfl, Option.some.inj hx⟩
    have hil := (List.getElem?_eq_some_iff.1 hek).1
    have hi1 : (i : Int) < (E.length : Int) := by omega
    obtain ⟨a, cap, hB, -, hcap, -, hc⟩ := P5.out.parts
    obtain ⟨g0, rfl, -, -, hcell⟩ := hc i e hek
    have b0 := (cell_of_block hB 0).trans (show _ = some (Value.slice (some ⟨g0, 0, none⟩) E.length cap) from rfl)
    have q1 := (hcell 1 (by omega)).trans (show _ = some (.int .u32 e.1.host) from rfl)
    clear hc hcell hB hx hi hek
    by_cases hw : e.1.host = who
    rotate_left
    · have R := hid (show r = (E.map (·.1), 412) by rw [HL2.out]; simp only; rw [if_neg hw])
      have hn1 : ((e.1.host : Int) != (who : Int)) = true := by simp; omega
      have hn2 : ((e.1.host : Int) == (who : Int)) = false := by simp; omega
      clear HL2 hw
      go_wp2
      go_ret
      exact ⟨by rw [R.out]; rfl, by rw [R.out]; exact P5.out.all, KT.of_none G5.out⟩
    · have R := hid (show r = ((E.map (·.1)).eraseIdx i, 200) by rw [HL2.out]; simp only; rw [if_pos hw])
      have HRM := hid (remove_r N F B E most i hil w5 P5.out hEl)
      rw [hw] at q1
      clear HL2 hw
      go_wp2_with fail
      refine HRM.out.mono ?_
      rintro e w7 ⟨rfl, h7, k7⟩
      have P7 := hid (And.intro h7 ((KT.of_none G5.out).trans k7))
      clear h7 k7 HRM
      go_wp2
      go_ret
      exact ⟨by rw [R.out]; rfl, by rw [R.out, ← map_er1]; exact P7.out.1.all, P7.out.2⟩
end Go.Proofs.YtfceodbpkghkaaaGreatDoor
/- hearthref22: Same, among. -/
namespace Go.Proofs.YtfceodbpkghkaaaGreatDoor
open Go.RowKit
set_option linter.unusedVariables false
set_option linter.unusedSimpArgs false

theorem gN_at {xs : Gp} {i : Nat} {x : Gs × Gs} (h : xs[i]? = some x) : gN xs i = ⟨x.1.toArray⟩ ∧ gV xs i = ⟨x.2.toArray⟩ := by
  unfold gN gV
  rw [List.getD_eq_getElem?_getD, h]
  exact ⟨rfl, rfl⟩
def SmR (xs ys : Gp) (w : World) (vk : Value) (wr : World) : Prop :=
  ∃ k : Nat, vk = .int .i64 k ∧ k ≤ xs.length ∧ w.grownBy wr none ∧ ∀ j : Nat, j < k → xs[j]? = ys[j]?
set_option maxRecDepth 20000 in
set_option maxHeartbeats 4000000 in
theorem rsame_x (xs ys : Gp) (v1 v2 : Value) (w : World) (h1 : ArgsAt w v1 xs) (h2 : ArgsAt w v2 ys) (l1 : xs.length ≤ 1000000) (l2 : ys.length ≤ 1000000) :
    Calls Tryz.prog 90 #[v1, v2] w fun e w' => e = .returned (.bool (decide (xs = ys))) ∧ w.grownBy w' none := by
  obtain ⟨a1, c1, rfl, k1⟩ := h1.shape
  obtain ⟨a2, c2, rfl, k2⟩ := h2.shape
  clear h1 h2
  by_cases hl : xs.length = ys.length
  rotate_left
  · have R := hid (show decide (xs = ys) = false from decide_eq_false (fun e => hl (by rw [e])))
    have hb1 : ((xs.length : Int) != (ys.length : Int)) = true := by simp; omega
    have hb2 : ((xs.length : Int) == (ys.length : Int)) = false := by simp; omega
    clear k1 k2 hl
    go_enter Tryz.func90, Tryz.ntmps90
    go_wp2
    go_ret
    exact ⟨by rw [R.out]; rfl, gr_refl _ _⟩
  have KK1 := hid k1
  have KK2 := hid k2
  have HL := hid hl
  obtain ⟨n, hn⟩ : ∃ n, n = xs.length := ⟨_, rfl⟩
  rw [← hl, ← hn]
  have HN := hid hn
  have hb1 : ((n : Int) != (n : Int)) = false := by simp
  have hb2 : ((n : Int) == (n : Int)) = true := by simp
  rw [← hn] at l1
  clear k1 k2 hl hn l2
  go_enter Tryz.func90, Tryz.ntmps90
  go_wp2_with fail
  go_loopw [5] (fun vk wr => SmR xs ys w vk wr) (fun vk _ => n - (intOf vk).toNat)
  case atStart => exact ⟨0, rfl, Nat.zero_le _, gr_refl _ _, fun j h => absurd h (Nat.not_lt_zero _)⟩
  case round =>
    obtain ⟨k, rfl, hk, gw, hal⟩ := hrel
    rw [← HN.out] at hk
    have HAL := hid hal
    have GW := hid gw
    clear hal gw
    by_cases hkl : k < n
    · obtain ⟨x, hx⟩ : ∃ x, xs[k]? = some x := ⟨_, List.getElem?_eq_getElem (by rw [← HN.out]; exact hkl)⟩
      obtain ⟨y, hy⟩ : ∃ y, ys[k]? = some y := ⟨_, List.getElem?_eq_getElem (by rw [← HL.out, ← HN.out]; exact hkl)⟩
      obtain ⟨b1, o1, rfl, p1⟩ := KK1.out (by have := HN.out; omega)
      obtain ⟨b2, o2, rfl, p2⟩ := KK2.out (by have := HN.out; have := HL.out; omega)
      have q1 := (p1 k (by have := HN.out; omega)).grown GW.out
      have q2 := (p2 k (by have := HN.out; have := HL.out; omega)).grown GW.out
      rw [(gN_at hx).1, (gN_at hx).2] at q1
      rw [(gN_at hy).1, (gN_at hy).2] at q2
      obtain ⟨q10, q11⟩ := q1
      obtain ⟨q20, q21⟩ := q2
      have HXK := hid hx
      have HYK := hid hy
      have hki : (k : Int) < (n : Int) := by omega
      obtain ⟨xa, xb⟩ := x
      obtain ⟨ya, yb⟩ := y
      simp only at q10 q11 q20 q21
      clear p1 p2 hx hy
      by_cases e1 : xa = ya
      · subst e1
        by_cases e2 : xb = yb
        · subst e2
          go_wp2_with fail
          go_quiet (fail)
          go_wp2_with fail
          go_roundw
          case rel =>
            refine ⟨k + 1, by go_num, by rw [← HN.out]; omega, gr_trans GW.out (by (repeat (first | exact gr_refl _ _ | assumption | refine gr_drew ?_ | refine gr_drewN _ ?_ | refine gr_alloc ?_ _ | refine gr_set ?_ | refine gr_set_new ?_ (by first | omega | (simp; omega))))), fun j hj => ?_⟩
            rcases Nat.lt_succ_iff_lt_or_eq.1 hj with h | rfl
            · exact HAL.out j h
            · rw [HXK.out, HYK.out]
          case measure => simp [intOf]; omega
        · have R := hid (show decide (xs = ys) = false from decide_eq_false (fun e => e2 (by have h := HXK.out; rw [e, HYK.out] at h; have := Option.some.inj h; exact (Prod.mk.inj this).2.symm)))
          have hbe : (xb == yb) = false := beq_eq_false_iff_ne.2 e2
          go_wp2_with fail
          go_quiet (fail)
          go_wp2
          go_ret
          exact ⟨by rw [R.out]; rfl, gr_trans GW.out (by (repeat (first | exact gr_refl _ _ | assumption | refine gr_drew ?_ | refine gr_drewN _ ?_ | refine gr_alloc ?_ _ | refine gr_set ?_ | refine gr_set_new ?_ (by first | omega | (simp; omega)))))⟩
      · have R := hid (show decide (xs = ys) = false from decide_eq_false (fun e => e1 (by have h := HXK.out; rw [e, HYK.out] at h; have := Option.some.inj h; exact (Prod.mk.inj this).1.symm)))
        have hbe : (xa == ya) = false := beq_eq_false_iff_ne.2 e1
        go_wp2_with fail
        go_quiet (fail)
        go_wp2
        go_ret
        exact ⟨by rw [R.out]; rfl, gr_trans GW.out (by (repeat (first | exact gr_refl _ _ | assumption | refine gr_drew ?_ | refine gr_drewN _ ?_ | refine gr_alloc ?_ _ | refine gr_set ?_ | refine gr_set_new ?_ (by first | omega | (simp; omega)))))⟩
    · have R := hid (show decide (xs = ys) = true from decide_eq_true (by
        apply List.ext_getElem?
        intro j
        by_cases hj : j < k
        · exact HAL.out j hj
        · rw [List.getElem?_eq_none (by have := HN.out; omega), List.getElem?_eq_none (by have := HN.out; have := HL.out; omega)]))
      go_wp2
      go_ret
      exact ⟨by rw [R.out]; rfl, GW.out⟩
def AmR (xs : Gp) (x : Gs × Gs) (w : World) (vk : Value) (wr : World) : Prop :=
  ∃ k : Nat, vk = .int .i64 k ∧ k ≤ xs.length ∧ w.grownBy wr none ∧ ∀ j : Nat, j < k → xs[j]? ≠ some x
set_option maxRecDepth 20000 in
set_option maxHeartbeats 4000000 in
theorem ramong_x (xs : Gp) (xa xb : Gs) (v1 : Value) (w : World) (h1 : ArgsAt w v1 xs) (l1 : xs.length ≤ 1000000) :
    Calls Tryz.prog 91 #[v1, .agg #[.string ⟨xa.toArray⟩, .string ⟨xb.toArray⟩]] w fun e w' => e = .returned (.bool (decide ((xa, xb) ∈ xs))) ∧ w.grownBy w' none := by
  obtain ⟨a1, c1, rfl, k1⟩ := h1.shape
  have nb := heap_alloc_new w (.cells #[.string ⟨xa.toArray⟩, .string ⟨xb.toArray⟩] 58)
  have g1 := hid (World.grownBy_alloc w (.cells #[.string ⟨xa.toArray⟩, .string ⟨xb.toArray⟩] 58) none)
  have z0 := (cell_of_block nb 0).trans (show _ = some (Value.string ⟨xa.toArray⟩) from rfl)
  have z1 := (cell_of_block nb 1).trans (show _ = some (Value.string ⟨xb.toArray⟩) from rfl)
  have KK1 := hid k1
  clear h1 k1 nb
  go_enter Tryz.func91, Tryz.ntmps91
  go_wp2_with fail
  obtain ⟨w0, hw0⟩ : ∃ w0, w0 = w.alloc (.cells #[.string ⟨xa.toArray⟩, .string ⟨xb.toArray⟩] 58) := ⟨_, rfl⟩
  obtain ⟨A, hA⟩ : ∃ A, A = w.heap.size := ⟨_, rfl⟩
  rw [← hw0] at g1 z0 z1 ⊢
  rw [← hA] at z0 z1 ⊢
  clear hw0 hA
  go_loopw [5] (fun vk wr => AmR xs (xa, xb) w0 vk wr) (fun vk _ => xs.length - (intOf vk).toNat)
  case atStart => exact ⟨0, rfl, Nat.zero_le _, gr_refl _ _, fun j h => absurd h (Nat.not_lt_zero _)⟩
  case round =>
    obtain ⟨k, rfl, hk, gw, hal⟩ := hrel
    have HAL := hid hal
    have GW := hid (gr_trans g1.out gw)
    have GR := hid gw
    have y0 := gw.cell z0 (by simp)
    have y1 := gw.cell z1 (by simp)
    clear hal gw
    by_cases hkl : k < xs.length
    · obtain ⟨x, hx⟩ : ∃ x, xs[k]? = some x := ⟨_, List.getElem?_eq_getElem hkl⟩
      obtain ⟨b1, o1, rfl, p1⟩ := KK1.out (by omega)
      have q1 := (p1 k hkl).grown GW.out
      rw [(gN_at hx).1, (gN_at hx).2] at q1
      obtain ⟨q10, q11⟩ := q1
      have HXK := hid hx
      have hki : (k : Int) < (xs.length : Int) := by omega
      obtain ⟨ya, yb⟩ := x
      simp only at q10 q11
      clear p1 hx
      by_cases e1 : ya = xa
      · subst e1
        by_cases e2 : yb = xb
        · subst e2
          have R := hid (show decide ((ya, yb) ∈ xs) = true from decide_eq_true (List.mem_of_getElem? HXK.out))
          go_wp2_with fail
          go_quiet (fail)
          go_wp2
          go_ret
          exact ⟨by rw [R.out]; rfl, gr_trans GW.out (by (repeat (first | exact gr_refl _ _ | assumption | refine gr_drew ?_ | refine gr_drewN _ ?_ | refine gr_alloc ?_ _ | refine gr_set ?_ | refine gr_set_new ?_ (by first | omega | (simp; omega)))))⟩
        · have hbe : (yb == xb) = false := beq_eq_false_iff_ne.2 e2
          go_wp2_with fail
          go_quiet (fail)
          go_wp2_with fail
          go_roundw
          case rel =>
            refine ⟨k + 1, by go_num, by omega, gr_trans GR.out (by (repeat (first | exact gr_refl _ _ | assumption | refine gr_drew ?_ | refine gr_drewN _ ?_ | refine gr_alloc ?_ _ | refine gr_set ?_ | refine gr_set_new ?_ (by first | omega | (simp; omega))))), fun j hj => ?_⟩
            rcases Nat.lt_succ_iff_lt_or_eq.1 hj with h | rfl
            · exact HAL.out j h
            · rw [HXK.out]; intro h; exact e2 (Prod.mk.inj (Option.some.inj h)).2
          case measure => simp [intOf]; omega
      · have hbe : (ya == xa) = false := beq_eq_false_iff_ne.2 e1
        go_wp2_with fail
        go_quiet (fail)
        go_wp2_with fail
        go_roundw
        case rel =>
          refine ⟨k + 1, by go_num, by omega, gr_trans GR.out (by (repeat (first | exact gr_refl _ _ | assumption | refine gr_drew ?_ | refine gr_drewN _ ?_ | refine gr_alloc ?_ _ | refine gr_set ?_ | refine gr_set_new ?_ (by first | omega | (simp; omega))))), fun j hj => ?_⟩
          rcases Nat.lt_succ_iff_lt_or_eq.1 hj with h | rfl
          · exact HAL.out j h
          · rw [HXK.out]; intro h; exact e1 (Prod.mk.inj (Option.some.inj h)).1
        case measure => simp [intOf]; omega
    · have R := hid (show decide ((xa, xb) ∈ xs) = false from decide_eq_false (fun h => by
        obtain ⟨j, hj⟩ := List.getElem?_of_mem h
        have := (List.getElem?_eq_some_iff.1 hj).1
        exact HAL.out j (by omega) hj))
      go_wp2
      go_ret
      exact ⟨by rw [R.out]; rfl, GW.out⟩
end Go.Proofs.YtfceodbpkghkaaaGreatDoor
