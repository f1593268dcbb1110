/- Texts of one proof, put together: Ig9, Iga. -/
import Derived.Test.YtmofnoconhgjmaaGreatDoorMJ
import Derived.Test.YtmofnoconhgjmaaGreatDoorML
import Derived.Test.YtmofnoconhgjmaaGreatDoorIg1
/- hearthlaw21.speaks: the document's example. -/
namespace Go.Proofs.YtmofnoconhgjmaaGreatDoor
open Go.RowKit
set_option linter.unusedVariables false
set_option linter.unusedSimpArgs false

theorem own_type {w w' : World} {N size n : Nat} {v : Value} {xs : List Value} (h : w.ownsRow N tArg size v n xs) (k : ∀ (b : Nat) cs r, w.heap[b]? = some (.cells cs tArg r) → w'.heap[b]? = some (.cells cs tArg r)) : w'.ownsRow N tArg size v n xs := by
  refine ⟨h.1, ?_⟩
  rcases h.2 with h0 | ⟨g, cap, cur, rfl, hg, hh, r⟩
  · exact .inl h0
  · exact .inr ⟨g, cap, cur, rfl, hg, k _ _ _ hh, r⟩
theorem set_type {w : World} {q o : Nat} {x : Value} {cs : Array Value} (hq : w.heap[q]? = some (.cells cs tCall (0, 0))) {b : Nat} {cs' : Array Value} {r : Nat × Nat} (h : w.heap[b]? = some (.cells cs' tArg r)) : (w.setCell ⟨q, o, none⟩ x).heap[b]? = some (.cells cs' tArg r) := by
  refine (heap_set_other ?_).trans h
  rintro rfl
  rw [hq] at h
  have := Option.some.inj h
  simp only [Obj.cells.injEq] at this
  exact absurd this.2.1 (by decide)
def scP (a : Addr) : Array Value := #[.pointer (some a), .int .u8 2, .int .u8 0, .int .u8 0, .int .u8 0, .int .u8 0, .int .u8 1, .int .u8 2, .int .u8 0, .int .u8 0, .int .u8 0, .int .u8 1, .int .u8 1, .int .u8 2, .int .u8 0, .int .u8 0, .int .u8 0, .int .u8 1, .int .u8 2, .int .u32 3232235777, .int .u32 3405803781, .int .i64 24, .int .i64 8, .int .i64 4, .int .i64 3, .int .i64 2, .slice none 0 0, .int .u32 0, .string ⟨#[48, 48, 48, 48, 48, 48, 48, 48, 45, 49, 49, 49, 49, 45, 50, 50, 50, 50, 45, 51, 51, 51, 51, 45, 52, 52, 52, 52, 52, 52, 52, 52, 52, 52, 52, 52]⟩, .int .u32 0, .int .u64 0]
set_option maxRecDepth 100000 in
set_option maxHeartbeats 20000000 in
theorem igd_speaks (w : World) : Calls Tryz.prog 17 #[] w fun e w' => e = .returned (.bool true) ∧ w.grownBy w' none := by
  go_enter Tryz.func17, Tryz.ntmps17
  go_wp2_with fail
  refine (plain_any w).mono ?_
  rintro e w1 ⟨rfl, g1⟩
  have n2 := heap_alloc_new w1 (.cells zeroC 51)
  have g2 := World.grownBy_alloc w1 (.cells zeroC 51) none
  obtain ⟨w0, hw0⟩ : ∃ x, x = (w1.alloc (.cells zeroC 51)).setRow w1.heap.size plainC := ⟨_, rfl⟩
  obtain ⟨pb, hpb⟩ : ∃ x, x = w1.heap.size := ⟨_, rfl⟩
  have NP := hid (show w0.heap[pb]? = some (.cells plainC 51 (0, 0)) by rw [hw0, hpb]; exact setRow_heap _ _ zeroC plainC _ _ n2)
  have G0 := hid (show w.grownBy w0 none by rw [hw0]; exact gr_of_below (below_setRow (gr_below (gr_trans g1 g2)) g1.size _))
  have N2 := hid n2
  have HW0 := hid hw0
  have HPB := hid hpb
  clear n2 g2 g1 hw0 hpb
  go_upto_region 2 with ((with_reducible refine wpList_store_row (o := ⟨none, _, _, _, _, _⟩) rfl 51 (.tmp 1) (.tmp 4) rfl w1.heap.size plainC ?h1 ?h2 51 zeroC ?hg ?hi ?ho ?hone ?hm); (case h1 => rfl); (case h2 => rfl); (case hg => exact N2.out); (case hi => kernel_rfl); (case ho => kernel_rfl); (case hone => kernel_rfl))
  rw [show (Obj.cells #[.int .u8 0, .int .u8 0, .int .u8 0, .int .u8 0, .int .u8 0, .int .u8 0, .int .u8 0, .int .u8 0, .int .u8 0, .int .u8 0, .int .u8 0, .int .u8 0, .int .u8 0, .int .u8 0, .int .u8 0, .int .u8 0, .int .u8 0, .int .u8 0, .int .u32 0, .int .u32 0, .int .i64 0, .int .i64 0, .int .i64 0, .int .i64 0, .int .i64 0, .slice none 0 0, .int .u32 0, .string ⟨#[]⟩] 51) = .cells zeroC 51 from rfl, ← HW0.out, ← HPB.out]
  clear HW0 HPB N2
  refine wp_region_spec8 11 10 [9] (fun w w' => w0.grownBy w' none ∧ ∀ (b : Nat) cs r, w.heap[b]? = some (.cells cs tArg r) → w'.heap[b]? = some (.cells cs tArg r)) (fun u w => ∃ q va, u 9 = .pointer (some ⟨q, 0, none⟩) ∧ w.heap[q]? = some (.cells #[.string ⟨#[117, 114, 110, 58, 115, 99, 104, 101, 109, 97, 115, 45, 117, 112, 110, 112, 45, 111, 114, 103, 58, 115, 101, 114, 118, 105, 99, 101, 58, 87, 65, 78, 73, 80, 67, 111, 110, 110, 101, 99, 116, 105, 111, 110, 58, 50]⟩, .string ⟨#[71, 101, 116, 78, 65, 84, 82, 83, 73, 80, 83, 116, 97, 116, 117, 115, 82, 101, 115, 112, 111, 110, 115, 101]⟩, va] tCall (0, 0)) ∧ w.ownsRow w0.heap.size tArg 2 va natA.length (duo natA)) (fun w w' g0 g => g.1) (by kernel_rfl) (by kernel_rfl) (by kernel_rfl) (by kernel_rfl) (by kernel_rfl) (by kernel_rfl) [some 6, some 7, some 8, some 9, some 10, some 11, some 5, some 12, some 13, some 2, none] (by kernel_rfl) _ (fun u => (by simp only [fill, List.zipIdx_cons, List.zipIdx_nil, List.foldl_cons, List.foldl_nil, Act.put, List.setIfInBounds_toArray, List.set_cons_zero, List.set_cons_succ, Nat.zero_add, Nat.reduceAdd]; exact rfl)) (by kernel_rfl)
    (all_succ (all_succ (all_succ (all_succ (all_succ (all_succ (all_succ (all_succ (all_succ (all_succ (all_succ (all_zero _) (fun u v => by kernel_rfl)) (fun u v => by kernel_rfl)) (fun u v => by kernel_rfl)) (fun u v => by kernel_rfl)) (fun u v => by kernel_rfl)) (fun u v => by kernel_rfl)) (fun u v => by kernel_rfl)) (fun u v => by kernel_rfl)) (fun u v => by kernel_rfl)) (fun u v => by kernel_rfl)) (fun u v => by kernel_rfl))
    (fun ri v w => match ri with | 0 => v = .agg plainC | 1 => ∃ q, v = .pointer (some ⟨q, 0, none⟩) | 2 => v = .agg plainC | 3 => ∃ q, v = .agg (scP ⟨q, 0, none⟩) | 4 => v = .agg #[.string ⟨#[117, 114, 110, 58, 115, 99, 104, 101, 109, 97, 115, 45, 117, 112, 110, 112, 45, 111, 114, 103, 58, 115, 101, 114, 118, 105, 99, 101, 58, 87, 65, 78, 73, 80, 67, 111, 110, 110, 101, 99, 116, 105, 111, 110, 58, 50]⟩, .string ⟨#[71, 101, 116, 78, 65, 84, 82, 83, 73, 80, 83, 116, 97, 116, 117, 115]⟩, .slice none 0 0] | 5 => ∃ va, v = .tuple #[.agg #[.string ⟨#[117, 114, 110, 58, 115, 99, 104, 101, 109, 97, 115, 45, 117, 112, 110, 112, 45, 111, 114, 103, 58, 115, 101, 114, 118, 105, 99, 101, 58, 87, 65, 78, 73, 80, 67, 111, 110, 110, 101, 99, 116, 105, 111, 110, 58, 50]⟩, .string ⟨#[71, 101, 116, 78, 65, 84, 82, 83, 73, 80, 83, 116, 97, 116, 117, 115, 82, 101, 115, 112, 111, 110, 115, 101]⟩, va], .int .i64 0] ∧ w.ownsRow w0.heap.size tArg 2 va natA.length (duo natA) | 6 => ∃ va, v = .tuple #[.agg #[.string ⟨#[117, 114, 110, 58, 115, 99, 104, 101, 109, 97, 115, 45, 117, 112, 110, 112, 45, 111, 114, 103, 58, 115, 101, 114, 118, 105, 99, 101, 58, 87, 65, 78, 73, 80, 67, 111, 110, 110, 101, 99, 116, 105, 111, 110, 58, 50]⟩, .string ⟨#[71, 101, 116, 78, 65, 84, 82, 83, 73, 80, 83, 116, 97, 116, 117, 115, 82, 101, 115, 112, 111, 110, 115, 101]⟩, va], .int .i64 0] ∧ w.ownsRow w0.heap.size tArg 2 va natA.length (duo natA) | 7 => ∃ va, v = .agg #[.string ⟨#[117, 114, 110, 58, 115, 99, 104, 101, 109, 97, 115, 45, 117, 112, 110, 112, 45, 111, 114, 103, 58, 115, 101, 114, 118, 105, 99, 101, 58, 87, 65, 78, 73, 80, 67, 111, 110, 110, 101, 99, 116, 105, 111, 110, 58, 50]⟩, .string ⟨#[71, 101, 116, 78, 65, 84, 82, 83, 73, 80, 83, 116, 97, 116, 117, 115, 82, 101, 115, 112, 111, 110, 115, 101]⟩, va] ∧ w.ownsRow w0.heap.size tArg 2 va natA.length (duo natA) | 8 => v = .int .i64 0 | 9 => ∃ q, v = .pointer (some ⟨q, 0, none⟩) ∧ w0.heap.size ≤ q ∧ w.heap[q]? = some (.cells #[.string ⟨#[]⟩, .string ⟨#[]⟩, .slice none 0 0] tCall (0, 0)) | 10 => True | _ => True)
    (all_succ (all_succ (all_succ (all_succ (all_succ (all_succ (all_succ (all_succ (all_succ (all_succ (all_succ (all_zero _) ?sm0) ?sm1) ?sm2) ?sm3) ?sm4) ?sm5) ?sm6) ?sm7) ?sm8) ?sm9) ?sm10)
    (all_succ (all_succ (all_succ (all_succ (all_succ (all_succ (all_succ (all_succ (all_succ (all_succ (all_succ (all_zero _) ?sn0) ?sn1) ?sn2) ?sn3) ?sn4) ?sn5) ?sn6) ?sn7) ?sn8) (fun _ h => absurd h (by decide))) (fun h => absurd h (by decide)))
    [[], [0], [], [1, 2], [], [3, 4], [5], [6], [6], [], [9, 7]] (by kernel_rfl) (by kernel_rfl) (fun u w w' h g => by obtain ⟨q, va, e, h1, h2⟩ := h; exact ⟨q, va, e, gr_keep g h1 (by simp), own_growG h2 g⟩) (fun u i v w hi h => by obtain ⟨q, va, e, h1, h2⟩ := h; refine ⟨q, va, ?_, h1, h2⟩; rw [upd_other u v (by rintro rfl; exact absurd hi (by decide))]; exact e) (by kernel_rfl) (by kernel_rfl)
    ⟨?so0, ?so1, ?so2, ?so3, ?so4, ?so5, ?so6, ?so7, ?so8, ?so9, ?so10, trivial⟩ ?sdone
  case sm0 => intro v w w' h g; first | exact h | (obtain ⟨va, e, h1⟩ := h; exact ⟨va, e, own_growG h1 g⟩) | (obtain ⟨q, e, h1, h2⟩ := h; exact ⟨q, e, h1, gr_keep g h2 (by simp)⟩)
  case sm1 => intro v w w' h g; first | exact h | (obtain ⟨va, e, h1⟩ := h; exact ⟨va, e, own_growG h1 g⟩) | (obtain ⟨q, e, h1, h2⟩ := h; exact ⟨q, e, h1, gr_keep g h2 (by simp)⟩)
  case sm2 => intro v w w' h g; first | exact h | (obtain ⟨va, e, h1⟩ := h; exact ⟨va, e, own_growG h1 g⟩) | (obtain ⟨q, e, h1, h2⟩ := h; exact ⟨q, e, h1, gr_keep g h2 (by simp)⟩)
  case sm3 => intro v w w' h g; first | exact h | (obtain ⟨va, e, h1⟩ := h; exact ⟨va, e, own_growG h1 g⟩) | (obtain ⟨q, e, h1, h2⟩ := h; exact ⟨q, e, h1, gr_keep g h2 (by simp)⟩)
  case sm4 => intro v w w' h g; first | exact h | (obtain ⟨va, e, h1⟩ := h; exact ⟨va, e, own_growG h1 g⟩) | (obtain ⟨q, e, h1, h2⟩ := h; exact ⟨q, e, h1, gr_keep g h2 (by simp)⟩)
  case sm5 => intro v w w' h g; first | exact h | (obtain ⟨va, e, h1⟩ := h; exact ⟨va, e, own_growG h1 g⟩) | (obtain ⟨q, e, h1, h2⟩ := h; exact ⟨q, e, h1, gr_keep g h2 (by simp)⟩)
  case sm6 => intro v w w' h g; first | exact h | (obtain ⟨va, e, h1⟩ := h; exact ⟨va, e, own_growG h1 g⟩) | (obtain ⟨q, e, h1, h2⟩ := h; exact ⟨q, e, h1, gr_keep g h2 (by simp)⟩)
  case sm7 => intro v w w' h g; first | exact h | (obtain ⟨va, e, h1⟩ := h; exact ⟨va, e, own_growG h1 g⟩) | (obtain ⟨q, e, h1, h2⟩ := h; exact ⟨q, e, h1, gr_keep g h2 (by simp)⟩)
  case sm8 => intro v w w' h g; first | exact h | (obtain ⟨va, e, h1⟩ := h; exact ⟨va, e, own_growG h1 g⟩) | (obtain ⟨q, e, h1, h2⟩ := h; exact ⟨q, e, h1, gr_keep g h2 (by simp)⟩)
  case sm9 => intro v w w' h g; first | exact h | (obtain ⟨va, e, h1⟩ := h; exact ⟨va, e, own_growG h1 g⟩) | (obtain ⟨q, e, h1, h2⟩ := h; exact ⟨q, e, h1, gr_keep g h2 (by simp)⟩)
  case sm10 => intro v w w' h g; first | exact h | (obtain ⟨va, e, h1⟩ := h; exact ⟨va, e, own_growG h1 g⟩) | (obtain ⟨q, e, h1, h2⟩ := h; exact ⟨q, e, h1, gr_keep g h2 (by simp)⟩)
  case sn0 => intro _ _ v w w' g0 h g; first | exact h | (obtain ⟨va, e, h1⟩ := h; exact ⟨va, e, own_type h1 g.2⟩)
  case sn1 => intro _ _ v w w' g0 h g; first | exact h | (obtain ⟨va, e, h1⟩ := h; exact ⟨va, e, own_type h1 g.2⟩)
  case sn2 => intro _ _ v w w' g0 h g; first | exact h | (obtain ⟨va, e, h1⟩ := h; exact ⟨va, e, own_type h1 g.2⟩)
  case sn3 => intro _ _ v w w' g0 h g; first | exact h | (obtain ⟨va, e, h1⟩ := h; exact ⟨va, e, own_type h1 g.2⟩)
  case sn4 => intro _ _ v w w' g0 h g; first | exact h | (obtain ⟨va, e, h1⟩ := h; exact ⟨va, e, own_type h1 g.2⟩)
  case sn5 => intro _ _ v w w' g0 h g; first | exact h | (obtain ⟨va, e, h1⟩ := h; exact ⟨va, e, own_type h1 g.2⟩)
  case sn6 => intro _ _ v w w' g0 h g; first | exact h | (obtain ⟨va, e, h1⟩ := h; exact ⟨va, e, own_type h1 g.2⟩)
  case sn7 => intro _ _ v w w' g0 h g; first | exact h | (obtain ⟨va, e, h1⟩ := h; exact ⟨va, e, own_type h1 g.2⟩)
  case sn8 => intro _ _ v w w' g0 h g; first | exact h | (obtain ⟨va, e, h1⟩ := h; exact ⟨va, e, own_type h1 g.2⟩)
  case so0 =>
    intro u w g hd K hK
    replace g : w0.grownBy w none := g
    clear hd
    simp only [Act.put, List.setIfInBounds_toArray, List.set_cons_zero, List.set_cons_succ] at hK
    refine wp_load_row 51 (.tmp 1) rfl pb (by rfl) 51 plainC (0, 0) _ (gr_keep g NP.out (by simp)) Tryz.underlying51 rfl (by kernel_rfl) ?_
    exact hK _ _ rfl (gr_refl _ _)
  case so1 =>
    intro u w g hd K hK
    replace g : w0.grownBy w none := g
    have h0 : (u 0) = .agg plainC := hd 0 (by simp)
    clear hd
    simp only [Act.put, List.setIfInBounds_toArray, List.set_cons_zero, List.set_cons_succ] at hK
    simp only [h0] at hK ⊢
    go_simp
    refine (mnew_any w plainC plainF 4 (plain_at w) (by decide) rfl).mono ?_
    rintro e w' ⟨g', q, rfl, -⟩
    exact hK _ _ ⟨q, rfl⟩ g'
  case so2 =>
    intro u w g hd K hK
    replace g : w0.grownBy w none := g
    clear hd
    simp only [Act.put, List.setIfInBounds_toArray, List.set_cons_zero, List.set_cons_succ] at hK
    refine wp_load_row 51 (.tmp 1) rfl pb (by rfl) 51 plainC (0, 0) _ (gr_keep g NP.out (by simp)) Tryz.underlying51 rfl (by kernel_rfl) ?_
    exact hK _ _ rfl (gr_refl _ _)
  case so3 =>
    intro u w g hd K hK
    replace g : w0.grownBy w none := g
    have h1 : ∃ q, (u 1) = .pointer (some ⟨q, 0, none⟩) := hd 1 (by simp)
    have h2 : (u 2) = .agg plainC := hd 2 (by simp)
    clear hd
    simp only [Act.put, List.setIfInBounds_toArray, List.set_cons_zero, List.set_cons_succ] at hK
    obtain ⟨q, e1⟩ := h1
    simp only [e1, h2] at hK ⊢
    refine wp_buildC tScene _ rfl (scP ⟨q, 0, none⟩) [(0, .pointer (some ⟨q, 0, none⟩)), (1, .agg plainC)] (by kernel_rfl) (by kernel_rfl) ?_
    exact hK _ _ ⟨q, rfl⟩ (gr_refl _ _)
  case so4 =>
    intro u w g hd K hK
    replace g : w0.grownBy w none := g
    clear hd
    simp only [Act.put, List.setIfInBounds_toArray, List.set_cons_zero, List.set_cons_succ] at hK
    go_simp
    exact hK _ _ rfl (gr_refl _ _)
  case so5 =>
    intro u w g hd K hK
    replace g : w0.grownBy w none := g
    have h3 : ∃ q, (u 3) = .agg (scP ⟨q, 0, none⟩) := hd 3 (by simp)
    have h4 : (u 4) = .agg #[.string ⟨#[117, 114, 110, 58, 115, 99, 104, 101, 109, 97, 115, 45, 117, 112, 110, 112, 45, 111, 114, 103, 58, 115, 101, 114, 118, 105, 99, 101, 58, 87, 65, 78, 73, 80, 67, 111, 110, 110, 101, 99, 116, 105, 111, 110, 58, 50]⟩, .string ⟨#[71, 101, 116, 78, 65, 84, 82, 83, 73, 80, 83, 116, 97, 116, 117, 115]⟩, .slice none 0 0] := hd 4 (by simp)
    clear hd
    simp only [Act.put, List.setIfInBounds_toArray, List.set_cons_zero, List.set_cons_succ] at hK
    obtain ⟨q, e3⟩ := h3
    simp only [e3, h4] at hK ⊢
    go_simp
    refine (do_nat w (scP ⟨q, 0, none⟩) rfl (by kernel_rfl)).mono ?_
    rintro e w' ⟨g', va, rfl, ho⟩
    exact hK _ _ ⟨va, rfl, ownLow ho g.size⟩ g'
  case so6 =>
    intro u w g hd K hK
    replace g : w0.grownBy w none := g
    have h5 : ∃ va, (u 5) = .tuple #[.agg #[.string ⟨#[117, 114, 110, 58, 115, 99, 104, 101, 109, 97, 115, 45, 117, 112, 110, 112, 45, 111, 114, 103, 58, 115, 101, 114, 118, 105, 99, 101, 58, 87, 65, 78, 73, 80, 67, 111, 110, 110, 101, 99, 116, 105, 111, 110, 58, 50]⟩, .string ⟨#[71, 101, 116, 78, 65, 84, 82, 83, 73, 80, 83, 116, 97, 116, 117, 115, 82, 101, 115, 112, 111, 110, 115, 101]⟩, va], .int .i64 0] ∧ w.ownsRow w0.heap.size tArg 2 va natA.length (duo natA) := hd 5 (by simp)
    clear hd
    simp only [Act.put, List.setIfInBounds_toArray, List.set_cons_zero, List.set_cons_succ] at hK
    obtain ⟨va, e5, ho⟩ := h5
    simp only [e5] at hK ⊢
    go_simp
    exact hK _ _ ⟨va, rfl, ho⟩ (gr_refl _ _)
  case so7 =>
    intro u w g hd K hK
    replace g : w0.grownBy w none := g
    have h6 : ∃ va, (u 6) = .tuple #[.agg #[.string ⟨#[117, 114, 110, 58, 115, 99, 104, 101, 109, 97, 115, 45, 117, 112, 110, 112, 45, 111, 114, 103, 58, 115, 101, 114, 118, 105, 99, 101, 58, 87, 65, 78, 73, 80, 67, 111, 110, 110, 101, 99, 116, 105, 111, 110, 58, 50]⟩, .string ⟨#[71, 101, 116, 78, 65, 84, 82, 83, 73, 80, 83, 116, 97, 116, 117, 115, 82, 101, 115, 112, 111, 110, 115, 101]⟩, va], .int .i64 0] ∧ w.ownsRow w0.heap.size tArg 2 va natA.length (duo natA) := hd 6 (by simp)
    clear hd
    simp only [Act.put, List.setIfInBounds_toArray, List.set_cons_zero, List.set_cons_succ] at hK
    obtain ⟨va, e6, ho⟩ := h6
    simp only [e6] at hK ⊢
    go_simp
    exact hK _ _ ⟨va, rfl, ho⟩ (gr_refl _ _)
  case so8 =>
    intro u w g hd K hK
    replace g : w0.grownBy w none := g
    have h6 : ∃ va, (u 6) = .tuple #[.agg #[.string ⟨#[117, 114, 110, 58, 115, 99, 104, 101, 109, 97, 115, 45, 117, 112, 110, 112, 45, 111, 114, 103, 58, 115, 101, 114, 118, 105, 99, 101, 58, 87, 65, 78, 73, 80, 67, 111, 110, 110, 101, 99, 116, 105, 111, 110, 58, 50]⟩, .string ⟨#[71, 101, 116, 78, 65, 84, 82, 83, 73, 80, 83, 116, 97, 116, 117, 115, 82, 101, 115, 112, 111, 110, 115, 101]⟩, va], .int .i64 0] ∧ w.ownsRow w0.heap.size tArg 2 va natA.length (duo natA) := hd 6 (by simp)
    clear hd
    simp only [Act.put, List.setIfInBounds_toArray, List.set_cons_zero, List.set_cons_succ] at hK
    obtain ⟨va, e6, ho⟩ := h6
    simp only [e6] at hK ⊢
    go_simp
    exact hK _ _ rfl (gr_refl _ _)
  case so9 =>
    intro u w g hd K hK
    replace g : w0.grownBy w none := g
    clear hd
    simp only [Act.put, List.setIfInBounds_toArray, List.set_cons_zero, List.set_cons_succ] at hK
    go_simp
    exact hK _ _ ⟨_, rfl, g.size, heap_alloc_new w _⟩ (gr_alloc (gr_refl _ _) _)
  case so10 =>
    intro u w g hd K hK
    replace g : w0.grownBy w none := g
    have h9 : ∃ q, (u 9) = .pointer (some ⟨q, 0, none⟩) ∧ w0.heap.size ≤ q ∧ w.heap[q]? = some (.cells #[.string ⟨#[]⟩, .string ⟨#[]⟩, .slice none 0 0] tCall (0, 0)) := hd 9 (by simp)
    have h7 : ∃ va, (u 7) = .agg #[.string ⟨#[117, 114, 110, 58, 115, 99, 104, 101, 109, 97, 115, 45, 117, 112, 110, 112, 45, 111, 114, 103, 58, 115, 101, 114, 118, 105, 99, 101, 58, 87, 65, 78, 73, 80, 67, 111, 110, 110, 101, 99, 116, 105, 111, 110, 58, 50]⟩, .string ⟨#[71, 101, 116, 78, 65, 84, 82, 83, 73, 80, 83, 116, 97, 116, 117, 115, 82, 101, 115, 112, 111, 110, 115, 101]⟩, va] ∧ w.ownsRow w0.heap.size tArg 2 va natA.length (duo natA) := hd 7 (by simp)
    clear hd
    simp only [Act.put, List.setIfInBounds_toArray, List.set_cons_zero, List.set_cons_succ] at hK
    obtain ⟨va, e7, ho⟩ := h7
    obtain ⟨q, e9, hq, hh⟩ := h9
    have k0 : w.cell? ⟨q, 0, none⟩ = some (.string ⟨#[]⟩) := cell_of_block hh 0
    have k1 : w.cell? ⟨q, 1, none⟩ = some (.string ⟨#[]⟩) := cell_of_block hh 1
    have k2 : w.cell? ⟨q, 2, none⟩ = some (.slice none 0 0) := cell_of_block hh 2
    have z0 := free_of_block hh 0
    have z1 := free_of_block hh 1
    have z2 := free_of_block hh 2
    have HO := hid ho
    have HE9 := hid e9
    obtain ⟨xa, xc, hxs⟩ := own_shapeG ho
    subst hxs
    simp only [e7, e9] at hK ⊢
    clear ho e9
    go_simp
    exact hK undef _ ⟨q, _, rfl, heap_set (o := 2) (heap_set (o := 1) (heap_set (o := 0) hh)), own_type (own_type (own_type HO.out fun b cs r h => set_type hh h) fun b cs r h => set_type (heap_set (o := 0) hh) h) fun b cs r h => set_type (heap_set (o := 1) (heap_set (o := 0) hh)) h⟩ ⟨gr_set_new (gr_set_new (gr_set_new g hq) hq) hq, fun b cs r h => set_type (heap_set (o := 1) (heap_set (o := 0) hh)) (set_type (heap_set (o := 0) hh) (set_type hh h))⟩
  intro u w hS hTk g
  have s0 : (u 0) = .agg plainC := hS 0 (by decide) (by decide) (by decide)
  have s1 : ∃ q, (u 1) = .pointer (some ⟨q, 0, none⟩) := hS 1 (by decide) (by decide) (by decide)
  have s2 : (u 2) = .agg plainC := hS 2 (by decide) (by decide) (by decide)
  have s3 : ∃ q, (u 3) = .agg (scP ⟨q, 0, none⟩) := hS 3 (by decide) (by decide) (by decide)
  have s4 : (u 4) = .agg #[.string ⟨#[117, 114, 110, 58, 115, 99, 104, 101, 109, 97, 115, 45, 117, 112, 110, 112, 45, 111, 114, 103, 58, 115, 101, 114, 118, 105, 99, 101, 58, 87, 65, 78, 73, 80, 67, 111, 110, 110, 101, 99, 116, 105, 111, 110, 58, 50]⟩, .string ⟨#[71, 101, 116, 78, 65, 84, 82, 83, 73, 80, 83, 116, 97, 116, 117, 115]⟩, .slice none 0 0] := hS 4 (by decide) (by decide) (by decide)
  have s5 : ∃ va, (u 5) = .tuple #[.agg #[.string ⟨#[117, 114, 110, 58, 115, 99, 104, 101, 109, 97, 115, 45, 117, 112, 110, 112, 45, 111, 114, 103, 58, 115, 101, 114, 118, 105, 99, 101, 58, 87, 65, 78, 73, 80, 67, 111, 110, 110, 101, 99, 116, 105, 111, 110, 58, 50]⟩, .string ⟨#[71, 101, 116, 78, 65, 84, 82, 83, 73, 80, 83, 116, 97, 116, 117, 115, 82, 101, 115, 112, 111, 110, 115, 101]⟩, va], .int .i64 0] ∧ w.ownsRow w0.heap.size tArg 2 va natA.length (duo natA) := hS 5 (by decide) (by decide) (by decide)
  have s6 : ∃ va, (u 6) = .tuple #[.agg #[.string ⟨#[117, 114, 110, 58, 115, 99, 104, 101, 109, 97, 115, 45, 117, 112, 110, 112, 45, 111, 114, 103, 58, 115, 101, 114, 118, 105, 99, 101, 58, 87, 65, 78, 73, 80, 67, 111, 110, 110, 101, 99, 116, 105, 111, 110, 58, 50]⟩, .string ⟨#[71, 101, 116, 78, 65, 84, 82, 83, 73, 80, 83, 116, 97, 116, 117, 115, 82, 101, 115, 112, 111, 110, 115, 101]⟩, va], .int .i64 0] ∧ w.ownsRow w0.heap.size tArg 2 va natA.length (duo natA) := hS 6 (by decide) (by decide) (by decide)
  have s7 : ∃ va, (u 7) = .agg #[.string ⟨#[117, 114, 110, 58, 115, 99, 104, 101, 109, 97, 115, 45, 117, 112, 110, 112, 45, 111, 114, 103, 58, 115, 101, 114, 118, 105, 99, 101, 58, 87, 65, 78, 73, 80, 67, 111, 110, 110, 101, 99, 116, 105, 111, 110, 58, 50]⟩, .string ⟨#[71, 101, 116, 78, 65, 84, 82, 83, 73, 80, 83, 116, 97, 116, 117, 115, 82, 101, 115, 112, 111, 110, 115, 101]⟩, va] ∧ w.ownsRow w0.heap.size tArg 2 va natA.length (duo natA) := hS 7 (by decide) (by decide) (by decide)
  have s8 : (u 8) = .int .i64 0 := hS 8 (by decide) (by decide) (by decide)
  clear hS
  obtain ⟨q, va, e9, hh, ho⟩ := hTk
  have GY := hid g
  have HO := hid ho
  have HQ := hid hh
  have T8 := hid s8
  have T9 := hid e9
  clear s0 s1 s2 s3 s4 s5 s6 s7 s8 g ho hh e9
  generalize u 0 = y0 at *
  generalize u 1 = y1 at *
  generalize u 2 = y2 at *
  generalize u 3 = y3 at *
  generalize u 4 = y4 at *
  generalize u 5 = y5 at *
  generalize u 6 = y6 at *
  generalize u 7 = y7 at *
  generalize u 8 = y8 at *
  generalize u 9 = y9 at *
  generalize u 10 = y10 at *
  obtain rfl := T9.out
  obtain rfl := T8.out
  clear T8 T9
  obtain ⟨gb, gc, rfl, d2, d3⟩ : ∃ g c, va = .slice (some ⟨g, 0, none⟩) 2 c ∧ w.cell? ⟨g, 2, none⟩ = some (.string ⟨#[78, 101, 119, 78, 65, 84, 69, 110, 97, 98, 108, 101, 100]⟩) ∧ w.cell? ⟨g, 3, none⟩ = some (.string ⟨#[49]⟩) := by
    rcases HO.out.2 with ⟨-, h0⟩ | ⟨g, cap, cur, rfl, -⟩
    · exact absurd h0 (by decide)
    · have e2 := HO.out.cells (g := g) rfl 2 (.string ⟨#[78, 101, 119, 78, 65, 84, 69, 110, 97, 98, 108, 101, 100]⟩) rfl
      have e3 := HO.out.cells (g := g) rfl 3 (.string ⟨#[49]⟩) rfl
      rw [Go.WideShapes.add_plain] at e2 e3
      exact ⟨g, cap, rfl, e2, e3⟩
  have G1 := hid (gr_trans G0.out GY.out)
  have c1 : w.cell? ⟨q, 1, none⟩ = some (.string ⟨#[71, 101, 116, 78, 65, 84, 82, 83, 73, 80, 83, 116, 97, 116, 117, 115, 82, 101, 115, 112, 111, 110, 115, 101]⟩) := cell_of_block HQ.out 1
  have c2 : w.cell? ⟨q, 2, none⟩ = some (.slice (some ⟨gb, 0, none⟩) 2 gc) := cell_of_block HQ.out 2
  clear GY HO HQ NP G0
  go_wp2_with fail
  go_ret
  exact ⟨rfl, G1.out⟩
end Go.Proofs.YtmofnoconhgjmaaGreatDoor
/- hearthlaw21.IgdWords: the walk. -/
namespace Go.Proofs.YtmofnoconhgjmaaGreatDoor
open Go.RowKit
set_option linter.unusedVariables false
set_option linter.unusedSimpArgs false

theorem igd_words_walk (n : Int) (w : World) : Calls Tryz.prog 9 #[.int .i64 n] w fun e w' => e = .returned (.bool true) ∧ w.grownBy w' none := by
  go_enter Tryz.func9, Tryz.ntmps9
  go_wp2_with fail
  refine (igd_speaks w).mono ?_
  rintro e w1 ⟨rfl, g1⟩
  go_wp2_with fail
  have RW := hid (fun W => rwords_any n W)
  have WW := hid (words_any n w1)
  generalize wrdB n = x at *
  refine WW.out.mono ?_
  rintro e w2 ⟨rfl, g2⟩
  have G2 := hid (gr_trans g1 g2)
  clear g1 g2 WW
  go_wp2_with fail
  refine (RW.out w2).mono ?_
  rintro e w3 ⟨rfl, g3⟩
  have G3 := hid (gr_trans G2.out g3)
  clear g3 G2 RW
  go_wp2_with fail
  go_ret
  exact ⟨rfl, G3.out⟩
end Go.Proofs.YtmofnoconhgjmaaGreatDoor
