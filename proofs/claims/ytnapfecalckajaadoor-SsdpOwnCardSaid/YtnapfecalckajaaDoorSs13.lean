/- hearthlaw23.speaks; the walk of SsdpFinds. -/
import Derived.Test.YtnapfecalckajaaDoorSs11
import Derived.Test.YtnapfecalckajaaDoorSs12
import Derived.Test.YtnapfecalckajaaDoorApM
set_option linter.unusedSimpArgs false
namespace Go.Proofs.YtnapfecalckajaaDoor
open Go.RowKit

def TxV (L : List UInt8) (v : Value) (w : World) : Prop := ∃ g c, v = .slice (some ⟨g, 0, none⟩) L.length c ∧ Row8 w 5 g c L
theorem TxV.kept {L : List UInt8} {v : Value} {w w' : World} (h : TxV L v w) (g : w.grownBy w' none) : TxV L v w' := by
  obtain ⟨b, c, rfl, h⟩ := h
  exact ⟨b, c, rfl, h.keep g (by simp)⟩
def LnV (n : Nat) (v : Value) : Prop := ∃ a c, v = .slice a n c
theorem search_cnt (cs : Array Value) (lan : Nat) (u n : List UInt8) (v : Value) (m : Int) (w : World) (hb : Bytes w v (askT n)) (hv : visL n) (hn : n.length ≤ 400) (hc : CfOk cs lan u) (hu : u.length ≤ 300) (hm : w.cell? ⟨0, 0, none⟩ = some (.int .i64 m)) (h10 : P10 w) :
    Calls Tryd.prog 7 #[.agg cs, v] w fun e w' => ∃ a c, e = .returned (.slice a (wantN (nmL u) n) c) ∧ w.grownBy w' none := by
  refine (search_any cs lan u (askT n) v m w hb (by rw [askB_len]; omega) hc hu hm h10).mono ?_
  rintro e w' ⟨v', vs, rfl, hown, -, g⟩
  obtain ⟨a, c, rfl, -⟩ := row_shape hown
  refine ⟨a, c, ?_, g⟩
  rw [ask_is hv hn]
  show Ending.returned (.slice a (ansA lan n (prsU u)).length c) = _
  rw [ansA_count]
theorem vis_root : visL rootT := by unfold visL rootT; decide
theorem vis_all : visL allT := by unfold visL allT; decide
set_option maxRecDepth 100000 in
set_option maxHeartbeats 4000000 in
theorem sspeaks_true (m : Int) (w : World) (hm : Hid (w.cell? ⟨0, 0, none⟩ = some (.int .i64 m))) (h10 : Hid (P10 w)) :
    Calls Tryd.prog 5 #[] w fun e w' => e = .returned (.bool true) ∧ w.grownBy w' none := by
  go_enter Tryd.func5, Tryd.ntmps5
  go_wp2_with fail
  refine (plain_any w).mono ?_
  rintro e w2 ⟨rfl, g2⟩
  go_wp2_with ((with_reducible refine wpList_store_row (o := ⟨none, _, _, _, _, _⟩) rfl 28 (.tmp 1) (.tmp 2) rfl w2.heap.size plainC ?h1 ?h2 28 zeroC (heap_alloc_new w2 _) (by kernel_rfl) (by kernel_rfl) (by kernel_rfl) ?hm); (case h1 => rfl); (case h2 => rfl))
  have hn := setRow_heap _ w2.heap.size zeroC plainC _ _ (heap_alloc_new w2 (.cells zeroC 28))
  have g3 : w.grownBy _ none := gr_of_below (below_setRow (gr_below (gr_alloc g2 (.cells zeroC 28))) g2.size plainC)
  rw [show (Obj.cells #[.int .u8 0, .int .u8 0, .int .u8 0, .int .u8 0, .int .u8 0, .int .u8 0, .int .u8 0, .int .u8 0, .int .u8 0, .int .u8 0, .int .u8 0, .int .u8 0, .int .u8 0, .int .u8 0, .int .u8 0, .int .u8 0, .int .u8 0, .int .u8 0, .int .u32 0, .int .u32 0, .int .i64 0, .int .i64 0, .int .i64 0, .int .i64 0, .int .i64 0, .slice none 0 0, .int .u32 0, .string ⟨#[]⟩] 28) = .cells zeroC 28 from rfl]
  obtain ⟨w0, hw0⟩ : ∃ x, (w2.alloc (.cells zeroC 28)).setRow w2.heap.size plainC = x := ⟨_, rfl⟩
  rw [hw0] at hn g3 ⊢
  obtain ⟨bp, hbp⟩ : ∃ x, x = w2.heap.size := ⟨_, rfl⟩
  rw [← hbp] at hn ⊢
  have HP0 := hid hn
  have G1 := hid g3
  have HM := hid (fun (W : World) (g : w0.grownBy W none) => (gr_trans g3 g).cell hm.out (by simp) : ∀ W, w0.grownBy W none → W.cell? ⟨0, 0, none⟩ = some (.int .i64 m))
  have H10 := hid (fun (W : World) (g : w0.grownBy W none) => h10.out.grown (gr_trans g3 g) : ∀ W, w0.grownBy W none → P10 W)
  have HASK1 := hid (fun W => ask_any ⟨rootT.toArray⟩ W (by decide))
  have HASK2 := hid (fun W => ask_any ⟨allT.toArray⟩ W (by decide))
  have HSE1 := hid (fun (W : World) (v : Value) (hb : Bytes W v (askT rootT)) (g : w0.grownBy W none) => search_cnt plainC 3232235777 plainU rootT v m W hb vis_root (by decide) plain_ok (by decide) (HM.out W g) (H10.out W g))
  have HSE2 := hid (fun (W : World) (v : Value) (hb : Bytes W v (askT allT)) (g : w0.grownBy W none) => search_cnt plainC 3232235777 plainU allT v m W hb vis_all (by decide) plain_ok (by decide) (HM.out W g) (H10.out W g))
  rw [want_root] at HSE1
  rw [want_all] at HSE2
  have HSZ28 := hid (show (Tryd.prog.info? 28).map (·.size) = some plainC.size by kernel_rfl)
  clear hw0 hn g3 hbp g2 hm h10 HM H10
  refine wp_region_spec5 (by kernel_rfl) (by kernel_rfl) (n := 13) (by kernel_rfl) [some 3, some 4, some 5, some 6, some 7, some 8, some 9, some 10, some 11, some 12, some 13, some 14, some 0] (by kernel_rfl) _ (fun u => (by simp only [fill, List.zipIdx_cons, List.zipIdx_nil, List.foldl_cons, List.foldl_nil, Act.put, List.setIfInBounds_toArray, List.set_cons_zero, List.set_cons_succ, Nat.zero_add, Nat.reduceAdd]; exact rfl)) (by kernel_rfl) (by kernel_rfl) (by kernel_rfl)
    (fun ri v w => match ri with | 0 => v = .agg plainC | 1 => TxV (askT rootT) v w | 2 => LnV 1 v | 3 => v = .int .i64 1 | 4 => v = .bool true | 5 => v = .bool true | 6 => v = .agg plainC | 7 => TxV (askT allT) v w | 8 => LnV 6 v | 9 => v = .int .i64 6 | 10 => v = .bool true | 11 => v = .bool true | 12 => v = .bool true | _ => True)
    (all_succ (all_succ (all_succ (all_succ (all_succ (all_succ (all_succ (all_succ (all_succ (all_succ (all_succ (all_succ (all_succ (all_zero _) ?m0) ?m1) ?m2) ?m3) ?m4) ?m5) ?m6) ?m7) ?m8) ?m9) ?m10) ?m11) ?m12)
    [[], [], [0, 1], [2], [3], [4], [5], [5], [6, 7, 5], [8, 5], [9, 5], [5, 10], [11]] (by kernel_rfl)
    ⟨?o0, ?o1, ?o2, ?o3, ?o4, ?o5, ?o6, ?o7, ?o8, ?o9, ?o10, ?o11, ?o12, trivial⟩ ?done
  case m0 => intro v w w' h g; first | exact h | exact TxV.kept h g
  case m1 => intro v w w' h g; first | exact h | exact TxV.kept h g
  case m2 => intro v w w' h g; first | exact h | exact TxV.kept h g
  case m3 => intro v w w' h g; first | exact h | exact TxV.kept h g
  case m4 => intro v w w' h g; first | exact h | exact TxV.kept h g
  case m5 => intro v w w' h g; first | exact h | exact TxV.kept h g
  case m6 => intro v w w' h g; first | exact h | exact TxV.kept h g
  case m7 => intro v w w' h g; first | exact h | exact TxV.kept h g
  case m8 => intro v w w' h g; first | exact h | exact TxV.kept h g
  case m9 => intro v w w' h g; first | exact h | exact TxV.kept h g
  case m10 => intro v w w' h g; first | exact h | exact TxV.kept h g
  case m11 => intro v w w' h g; first | exact h | exact TxV.kept h g
  case m12 => intro v w w' h g; first | exact h | exact TxV.kept h g
  case o0 =>
    intro u w g hd K hK
    clear hd
    simp only [Act.put, List.setIfInBounds_toArray, List.set_cons_zero, List.set_cons_succ] at hK
    split
    rotate_left
    · rename_i hno; exact absurd rfl hno
    refine wp_load_row 28 (.tmp 1) rfl bp (by rfl) 28 plainC (0, 0) _ (gr_keep g HP0.out (by simp)) Tryd.underlying28 rfl HSZ28.out ?_
    exact hK _ _ rfl (gr_refl _ _)
  case o1 =>
    intro u w g hd K hK
    clear hd
    simp only [Act.put, List.setIfInBounds_toArray, List.set_cons_zero, List.set_cons_succ] at hK
    go_simp
    refine (HASK1.out w).mono ?_
    rintro e w' ⟨g8, c8, rfl, r8, hg8, g'⟩
    exact hK _ w' ⟨g8, c8, rfl, r8⟩ g'
  case o2 =>
    intro u w g hd K hK
    have h0 : (u 0) = .agg plainC := hd 0 (by simp)
    have h1 : TxV (askT rootT) (u 1) w := hd 1 (by simp)
    clear hd
    simp only [Act.put, List.setIfInBounds_toArray, List.set_cons_zero, List.set_cons_succ] at hK
    obtain ⟨g8, c8, e1, r8⟩ := h1
    simp only [h0, e1] at hK ⊢
    go_simp
    refine (HSE1.out w _ r8.bytes g).mono ?_
    rintro e w' ⟨a, c, rfl, g'⟩
    exact hK _ w' ⟨a, c, rfl⟩ g'
  case o3 =>
    intro u w g hd K hK
    have h2 : LnV 1 (u 2) := hd 2 (by simp)
    clear hd
    simp only [Act.put, List.setIfInBounds_toArray, List.set_cons_zero, List.set_cons_succ] at hK
    obtain ⟨a, c, e2⟩ := h2
    simp only [e2] at hK ⊢
    go_simp
    exact hK _ _ rfl (gr_refl _ _)
  case o4 =>
    intro u w g hd K hK
    have h3 : (u 3) = .int .i64 1 := hd 3 (by simp)
    clear hd
    simp only [Act.put, List.setIfInBounds_toArray, List.set_cons_zero, List.set_cons_succ] at hK
    simp only [h3] at hK ⊢
    go_simp
    exact hK _ _ rfl (gr_refl _ _)
  case o5 =>
    intro u w g hd K hK
    have h4 : (u 4) = .bool true := hd 4 (by simp)
    clear hd
    simp only [Act.put, List.setIfInBounds_toArray, List.set_cons_zero, List.set_cons_succ] at hK
    simp only [h4] at hK ⊢
    go_simp
    exact hK _ _ rfl (gr_refl _ _)
  case o6 =>
    intro u w g hd K hK
    have h5 : (u 5) = .bool true := hd 5 (by simp)
    clear hd
    simp only [Act.put, List.setIfInBounds_toArray, List.set_cons_zero, List.set_cons_succ] at hK
    simp only [h5] at hK ⊢
    split
    rotate_left
    · rename_i hno; exact absurd rfl hno
    refine wp_load_row 28 (.tmp 1) rfl bp (by rfl) 28 plainC (0, 0) _ (gr_keep g HP0.out (by simp)) Tryd.underlying28 rfl HSZ28.out ?_
    exact hK _ _ rfl (gr_refl _ _)
  case o7 =>
    intro u w g hd K hK
    have h5 : (u 5) = .bool true := hd 5 (by simp)
    clear hd
    simp only [Act.put, List.setIfInBounds_toArray, List.set_cons_zero, List.set_cons_succ] at hK
    simp only [h5] at hK ⊢
    go_simp
    refine (HASK2.out w).mono ?_
    rintro e w' ⟨g8, c8, rfl, r8, hg8, g'⟩
    exact hK _ w' ⟨g8, c8, rfl, r8⟩ g'
  case o8 =>
    intro u w g hd K hK
    have h6 : (u 6) = .agg plainC := hd 6 (by simp)
    have h7 : TxV (askT allT) (u 7) w := hd 7 (by simp)
    have h5 : (u 5) = .bool true := hd 5 (by simp)
    clear hd
    simp only [Act.put, List.setIfInBounds_toArray, List.set_cons_zero, List.set_cons_succ] at hK
    obtain ⟨g8, c8, e7, r8⟩ := h7
    simp only [h6, e7, h5] at hK ⊢
    go_simp
    refine (HSE2.out w _ r8.bytes g).mono ?_
    rintro e w' ⟨a, c, rfl, g'⟩
    exact hK _ w' ⟨a, c, rfl⟩ g'
  case o9 =>
    intro u w g hd K hK
    have h8 : LnV 6 (u 8) := hd 8 (by simp)
    have h5 : (u 5) = .bool true := hd 5 (by simp)
    clear hd
    simp only [Act.put, List.setIfInBounds_toArray, List.set_cons_zero, List.set_cons_succ] at hK
    obtain ⟨a, c, e8⟩ := h8
    simp only [e8, h5] at hK ⊢
    go_simp
    exact hK _ _ rfl (gr_refl _ _)
  case o10 =>
    intro u w g hd K hK
    have h9 : (u 9) = .int .i64 6 := hd 9 (by simp)
    have h5 : (u 5) = .bool true := hd 5 (by simp)
    clear hd
    simp only [Act.put, List.setIfInBounds_toArray, List.set_cons_zero, List.set_cons_succ] at hK
    simp only [h9, h5] at hK ⊢
    go_simp
    exact hK _ _ rfl (gr_refl _ _)
  case o11 =>
    intro u w g hd K hK
    have h5 : (u 5) = .bool true := hd 5 (by simp)
    have h10 : (u 10) = .bool true := hd 10 (by simp)
    clear hd
    simp only [Act.put, List.setIfInBounds_toArray, List.set_cons_zero, List.set_cons_succ] at hK
    simp only [h5, h10] at hK ⊢
    go_simp
    exact hK _ _ rfl (gr_refl _ _)
  case o12 =>
    intro u w g hd K hK
    have h11 : (u 11) = .bool true := hd 11 (by simp)
    clear hd
    simp only [Act.put, List.setIfInBounds_toArray, List.set_cons_zero, List.set_cons_succ] at hK
    simp only [h11] at hK ⊢
    go_simp
    exact hK _ _ rfl (gr_refl _ _)
  case done =>
    intro u w hS g
    have s0 : (u 0) = .agg plainC := hS 0 (by decide)
    have s1 : TxV (askT rootT) (u 1) w := hS 1 (by decide)
    have s2 : LnV 1 (u 2) := hS 2 (by decide)
    have s3 : (u 3) = .int .i64 1 := hS 3 (by decide)
    have s4 : (u 4) = .bool true := hS 4 (by decide)
    have s5 : (u 5) = .bool true := hS 5 (by decide)
    have s6 : (u 6) = .agg plainC := hS 6 (by decide)
    have s7 : TxV (askT allT) (u 7) w := hS 7 (by decide)
    have s8 : LnV 6 (u 8) := hS 8 (by decide)
    have s9 : (u 9) = .int .i64 6 := hS 9 (by decide)
    have s10 : (u 10) = .bool true := hS 10 (by decide)
    have s11 : (u 11) = .bool true := hS 11 (by decide)
    have s12 : (u 12) = .bool true := hS 12 (by decide)
    clear hS
    have HS := hid s12
    have GW := hid (gr_trans G1.out g)
    clear s0 s1 s2 s3 s4 s5 s6 s7 s8 s9 s10 s11 s12 g
    generalize u 0 = x0 at *
    generalize u 1 = x1 at *
    generalize u 2 = x2 at *
    generalize u 3 = x3 at *
    generalize u 4 = x4 at *
    generalize u 5 = x5 at *
    generalize u 6 = x6 at *
    generalize u 7 = x7 at *
    generalize u 8 = x8 at *
    generalize u 9 = x9 at *
    generalize u 10 = x10 at *
    generalize u 11 = x11 at *
    generalize u 12 = x12 at *
    obtain rfl := HS.out
    go_wp2_with fail
    go_ret
    exact ⟨rfl, GW.out⟩
end Go.Proofs.YtnapfecalckajaaDoor
