/- Texts of one proof, put together: Gp4, Gp5. -/
import Derived.Test.YtfceodbpkghkaaaGreatDoorMQ
import Derived.Test.YtfceodbpkghkaaaGreatDoorMT
import Derived.Test.YtfceodbpkghkaaaGreatDoorMR
import Derived.Test.YtfceodbpkghkaaaGreatDoorGp3
import Derived.Test.YtfceodbpkghkaaaGreatDoorGmx
import Derived.Test.YtfceodbpkghkaaaGreatDoorGmy
/- The law's same: are the subscriptions the document's? -/
namespace Go.Proofs.YtfceodbpkghkaaaGreatDoor
open Go.RowKit
set_option linter.unusedVariables false
set_option linter.unusedSimpArgs false

/-- The closure's state behind i calls. -/
structure SaJ (w : World) (bO bI bM C : Nat) (i : Nat) (W : World) : Prop where
  g : w.grownBy W none
  o : W.heap[bO]? = some (.cells #[.bool true] 4 (0, 0))
  i : W.heap[bI]? = some (.cells #[.int .i64 (i : Int)] 3 (0, 0))
  m : W.heap[bM]? = some (.cells #[.pointer (some ⟨C, 0, none⟩)] 62 (0, 0))
theorem SaJ.grow {w : World} {bO bI bM C i : Nat} {W W' : World} (h : SaJ w bO bI bM C i W) (g : W.grownBy W' none) : SaJ w bO bI bM C i W' :=
  ⟨gr_trans h.g g, gr_keep g h.o (by simp), gr_keep g h.i (by simp), gr_keep g h.m (by simp)⟩
set_option maxRecDepth 20000 in
set_option maxHeartbeats 4000000 in
theorem same1_x (N : Nat) (F : Nat → Prop) (C : Nat) (E : List Sv) (most : Nat) (w : World) (hr : RAt w N F C E most) (hn : E.length ≤ 1000000) (bO bI bM : Nat) (hO : w.heap.size ≤ bO) (hI : w.heap.size ≤ bI) (i : Nat) (e : Sv) (he : E[i]? = some e) (W : World) (hj : SaJ w bO bI bM C i W) :
    Calls Tryz.prog 63 #[.string ⟨e.1.sid.toArray⟩, .pointer (some ⟨bO, 0, none⟩), .pointer (some ⟨bI, 0, none⟩), .pointer (some ⟨bM, 0, none⟩)] W fun r w' => r = .returned (.bool true) ∧ KT TB 0 W w' ∧ SaJ w bO bI bM C (i + 1) w' := by
  have hil := (List.getElem?_eq_some_iff.1 he).1
  obtain ⟨a, cap, hB, -, hcap, -, hc⟩ := (hr.grow hj.g).parts
  obtain ⟨g0, rfl, -, -, hcell⟩ := hc i e he
  have cs := (cell_of_block hB 0).trans (show _ = some (Value.slice (some ⟨g0, 0, none⟩) E.length cap) from rfl)
  have cd := (hcell 0 (by omega)).trans (show _ = some (str e.1.sid) from rfl)
  rw [Nat.add_zero] at cd
  unfold str at cd
  have co := (cell_of_block hj.o 0).trans (show _ = some (Value.bool true) from rfl)
  have ci := (cell_of_block hj.i 0).trans (show _ = some (Value.int .i64 (i : Int)) from rfl)
  have cm := (cell_of_block hj.m 0).trans (show _ = some (Value.pointer (some ⟨C, 0, none⟩)) from rfl)
  have HJ := hid hj
  have HOI := hid (And.intro hO hI)
  obtain ⟨sd, hsd⟩ : ∃ sd, sd = e.1.sid := ⟨_, rfl⟩
  rw [← hsd] at cd ⊢
  obtain ⟨n, hn2⟩ : ∃ n, n = E.length := ⟨_, rfl⟩
  rw [← hn2] at hil hn cs
  have HIL := hid (show (i : Int) < (n : Int) by omega)
  clear hB hc hcell hj hsd hn2 he hr hO hI
  go_enter Tryz.func63, Tryz.ntmps63
  go_upto_region 1 with fail
  obtain ⟨w0, hw0⟩ : ∃ w0, w0 = W := ⟨_, rfl⟩
  rw [← hw0] at co ci cm cs cd HJ ⊢
  have HW0 := hid hw0
  clear hw0
  refine wp_region_spec3 22 23 none (by kernel_rfl) (by kernel_rfl) (by kernel_rfl) (by kernel_rfl) (by kernel_rfl) (by kernel_rfl) [some 6, some 7, some 8, some 9, some 10, some 11, some 12, some 13, some 14, some 15, some 16, some 17, some 18, some 19, some 20, some 21, some 22, some 23, some 24, some 25, some 26, some 27] (by kernel_rfl) _ (fun u => (by simp only [fill, List.zipIdx_cons, List.zipIdx_nil, List.foldl_cons, List.foldl_nil, Act.put, List.setIfInBounds_toArray, List.set_cons_zero, List.set_cons_succ, Nat.zero_add, Nat.reduceAdd]; exact rfl)) (by kernel_rfl)
    (all_succ (all_succ (all_succ (all_succ (all_succ (all_succ (all_succ (all_succ (all_succ (all_succ (all_succ (all_succ (all_succ (all_succ (all_succ (all_succ (all_succ (all_succ (all_succ (all_succ (all_succ (all_succ (all_zero _) (fun u v => by kernel_rfl)) (fun u v => by kernel_rfl)) (fun u v => by kernel_rfl)) (fun u v => by kernel_rfl)) (fun u v => by kernel_rfl)) (fun u v => by kernel_rfl)) (fun u v => by kernel_rfl)) (fun u v => by kernel_rfl)) (fun u v => by kernel_rfl)) (fun u v => by kernel_rfl)) (fun u v => by kernel_rfl)) (fun u v => by kernel_rfl)) (fun u v => by kernel_rfl)) (fun u v => by kernel_rfl)) (fun u v => by kernel_rfl)) (fun u v => by kernel_rfl)) (fun u v => by kernel_rfl)) (fun u v => by kernel_rfl)) (fun u v => by kernel_rfl)) (fun u v => by kernel_rfl)) (fun u v => by kernel_rfl)) (fun u v => by kernel_rfl))
    (fun ri v w => match ri with | 0 => v = .bool true | 1 => v = .bool true | 2 => v = .int .i64 (i : Int) | 3 => v = .pointer (some ⟨C, 0, none⟩) | 4 => v = .pointer (some ⟨C, 0, none⟩) | 5 => v = .pointer (some ⟨C, 0, none⟩) | 6 => v = .slice (some ⟨g0, 0, none⟩) n cap | 7 => v = .int .i64 (n : Int) | 8 => v = .bool true | 9 => v = .bool true | 10 => v = .bool true | 11 => v = .pointer (some ⟨C, 0, none⟩) | 12 => v = .pointer (some ⟨C, 0, none⟩) | 13 => v = .pointer (some ⟨C, 0, none⟩) | 14 => v = .slice (some ⟨g0, 0, none⟩) n cap | 15 => v = .int .i64 (i : Int) | 16 => v = .pointer (some ⟨g0, i * 9, none⟩) | 17 => v = .pointer (some ⟨g0, i * 9, none⟩) | 18 => v = .string ⟨sd.toArray⟩ | 19 => v = .string ⟨sd.toArray⟩ | 20 => v = .bool true | 21 => v = .bool true | _ => True)
    (all_succ (all_succ (all_succ (all_succ (all_succ (all_succ (all_succ (all_succ (all_succ (all_succ (all_succ (all_succ (all_succ (all_succ (all_succ (all_succ (all_succ (all_succ (all_succ (all_succ (all_succ (all_succ (all_zero _) ?qm0) ?qm1) ?qm2) ?qm3) ?qm4) ?qm5) ?qm6) ?qm7) ?qm8) ?qm9) ?qm10) ?qm11) ?qm12) ?qm13) ?qm14) ?qm15) ?qm16) ?qm17) ?qm18) ?qm19) ?qm20) ?qm21)
    [[], [0], [1], [1], [3, 1], [4, 1], [5, 1], [6, 1], [2, 7, 1], [1, 8], [9], [10], [11, 10], [12, 10], [13, 10], [10], [14, 15, 10], [16, 10], [17, 10], [10], [18, 19, 10], [10, 20]] (by kernel_rfl)
    ⟨?qo0, ?qo1, ?qo2, ?qo3, ?qo4, ?qo5, ?qo6, ?qo7, ?qo8, ?qo9, ?qo10, ?qo11, ?qo12, ?qo13, ?qo14, ?qo15, ?qo16, ?qo17, ?qo18, ?qo19, ?qo20, ?qo21, trivial⟩ ?qdone
  case qm0 => intro v w w' h g; exact h
  case qm1 => intro v w w' h g; exact h
  case qm2 => intro v w w' h g; exact h
  case qm3 => intro v w w' h g; exact h
  case qm4 => intro v w w' h g; exact h
  case qm5 => intro v w w' h g; exact h
  case qm6 => intro v w w' h g; exact h
  case qm7 => intro v w w' h g; exact h
  case qm8 => intro v w w' h g; exact h
  case qm9 => intro v w w' h g; exact h
  case qm10 => intro v w w' h g; exact h
  case qm11 => intro v w w' h g; exact h
  case qm12 => intro v w w' h g; exact h
  case qm13 => intro v w w' h g; exact h
  case qm14 => intro v w w' h g; exact h
  case qm15 => intro v w w' h g; exact h
  case qm16 => intro v w w' h g; exact h
  case qm17 => intro v w w' h g; exact h
  case qm18 => intro v w w' h g; exact h
  case qm19 => intro v w w' h g; exact h
  case qm20 => intro v w w' h g; exact h
  case qm21 => intro v w w' h g; exact h
  case qo0 =>
    intro u w g hd K hK
    replace g : w0.grownBy w (none) := g
    clear hd
    simp only [Act.put, List.setIfInBounds_toArray, List.set_cons_zero, List.set_cons_succ] at hK
    have c := g.cell co (by simp)
    go_simp
    exact hK _ _ rfl (gr_refl _ _)
  case qo1 =>
    intro u w g hd K hK
    replace g : w0.grownBy w (none) := g
    have h0 : (u 0) = .bool true := hd 0 (by simp)
    clear hd
    simp only [Act.put, List.setIfInBounds_toArray, List.set_cons_zero, List.set_cons_succ] at hK
    simp only [h0] at hK ⊢
    go_simp
    exact hK _ _ rfl (gr_refl _ _)
  case qo2 =>
    intro u w g hd K hK
    replace g : w0.grownBy w (none) := g
    have h1 : (u 1) = .bool true := hd 1 (by simp)
    clear hd
    simp only [Act.put, List.setIfInBounds_toArray, List.set_cons_zero, List.set_cons_succ] at hK
    have c := g.cell ci (by simp)
    simp only [h1] at hK ⊢
    go_simp
    exact hK _ _ rfl (gr_refl _ _)
  case qo3 =>
    intro u w g hd K hK
    replace g : w0.grownBy w (none) := g
    have h1 : (u 1) = .bool true := hd 1 (by simp)
    clear hd
    simp only [Act.put, List.setIfInBounds_toArray, List.set_cons_zero, List.set_cons_succ] at hK
    have c := g.cell cm (by simp)
    simp only [h1] at hK ⊢
    go_simp
    exact hK _ _ rfl (gr_refl _ _)
  case qo4 =>
    intro u w g hd K hK
    replace g : w0.grownBy w (none) := g
    have h3 : (u 3) = .pointer (some ⟨C, 0, none⟩) := hd 3 (by simp)
    have h1 : (u 1) = .bool true := hd 1 (by simp)
    clear hd
    simp only [Act.put, List.setIfInBounds_toArray, List.set_cons_zero, List.set_cons_succ] at hK
    simp only [h3, h1] at hK ⊢
    go_simp
    exact hK _ _ rfl (gr_refl _ _)
  case qo5 =>
    intro u w g hd K hK
    replace g : w0.grownBy w (none) := g
    have h4 : (u 4) = .pointer (some ⟨C, 0, none⟩) := hd 4 (by simp)
    have h1 : (u 1) = .bool true := hd 1 (by simp)
    clear hd
    simp only [Act.put, List.setIfInBounds_toArray, List.set_cons_zero, List.set_cons_succ] at hK
    simp only [h4, h1] at hK ⊢
    go_simp
    exact hK _ _ rfl (gr_refl _ _)
  case qo6 =>
    intro u w g hd K hK
    replace g : w0.grownBy w (none) := g
    have h5 : (u 5) = .pointer (some ⟨C, 0, none⟩) := hd 5 (by simp)
    have h1 : (u 1) = .bool true := hd 1 (by simp)
    clear hd
    simp only [Act.put, List.setIfInBounds_toArray, List.set_cons_zero, List.set_cons_succ] at hK
    have c := g.cell cs (by simp)
    simp only [h5, h1] at hK ⊢
    go_simp
    exact hK _ _ rfl (gr_refl _ _)
  case qo7 =>
    intro u w g hd K hK
    replace g : w0.grownBy w (none) := g
    have h6 : (u 6) = .slice (some ⟨g0, 0, none⟩) n cap := hd 6 (by simp)
    have h1 : (u 1) = .bool true := hd 1 (by simp)
    clear hd
    simp only [Act.put, List.setIfInBounds_toArray, List.set_cons_zero, List.set_cons_succ] at hK
    simp only [h6, h1] at hK ⊢
    go_simp
    exact hK _ _ rfl (gr_refl _ _)
  case qo8 =>
    intro u w g hd K hK
    replace g : w0.grownBy w (none) := g
    have h2 : (u 2) = .int .i64 (i : Int) := hd 2 (by simp)
    have h7 : (u 7) = .int .i64 (n : Int) := hd 7 (by simp)
    have h1 : (u 1) = .bool true := hd 1 (by simp)
    clear hd
    simp only [Act.put, List.setIfInBounds_toArray, List.set_cons_zero, List.set_cons_succ] at hK
    have hil := HIL.out
    simp only [h2, h7, h1] at hK ⊢
    go_simp
    exact hK _ _ rfl (gr_refl _ _)
  case qo9 =>
    intro u w g hd K hK
    replace g : w0.grownBy w (none) := g
    have h1 : (u 1) = .bool true := hd 1 (by simp)
    have h8 : (u 8) = .bool true := hd 8 (by simp)
    clear hd
    simp only [Act.put, List.setIfInBounds_toArray, List.set_cons_zero, List.set_cons_succ] at hK
    simp only [h1, h8] at hK ⊢
    go_simp
    exact hK _ _ rfl (gr_refl _ _)
  case qo10 =>
    intro u w g hd K hK
    replace g : w0.grownBy w (none) := g
    have h9 : (u 9) = .bool true := hd 9 (by simp)
    clear hd
    simp only [Act.put, List.setIfInBounds_toArray, List.set_cons_zero, List.set_cons_succ] at hK
    simp only [h9] at hK ⊢
    go_simp
    exact hK _ _ rfl (gr_refl _ _)
  case qo11 =>
    intro u w g hd K hK
    replace g : w0.grownBy w (none) := g
    have h10 : (u 10) = .bool true := hd 10 (by simp)
    clear hd
    simp only [Act.put, List.setIfInBounds_toArray, List.set_cons_zero, List.set_cons_succ] at hK
    have c := g.cell cm (by simp)
    simp only [h10] at hK ⊢
    go_simp
    exact hK _ _ rfl (gr_refl _ _)
  case qo12 =>
    intro u w g hd K hK
    replace g : w0.grownBy w (none) := g
    have h11 : (u 11) = .pointer (some ⟨C, 0, none⟩) := hd 11 (by simp)
    have h10 : (u 10) = .bool true := hd 10 (by simp)
    clear hd
    simp only [Act.put, List.setIfInBounds_toArray, List.set_cons_zero, List.set_cons_succ] at hK
    simp only [h11, h10] at hK ⊢
    go_simp
    exact hK _ _ rfl (gr_refl _ _)
  case qo13 =>
    intro u w g hd K hK
    replace g : w0.grownBy w (none) := g
    have h12 : (u 12) = .pointer (some ⟨C, 0, none⟩) := hd 12 (by simp)
    have h10 : (u 10) = .bool true := hd 10 (by simp)
    clear hd
    simp only [Act.put, List.setIfInBounds_toArray, List.set_cons_zero, List.set_cons_succ] at hK
    simp only [h12, h10] at hK ⊢
    go_simp
    exact hK _ _ rfl (gr_refl _ _)
  case qo14 =>
    intro u w g hd K hK
    replace g : w0.grownBy w (none) := g
    have h13 : (u 13) = .pointer (some ⟨C, 0, none⟩) := hd 13 (by simp)
    have h10 : (u 10) = .bool true := hd 10 (by simp)
    clear hd
    simp only [Act.put, List.setIfInBounds_toArray, List.set_cons_zero, List.set_cons_succ] at hK
    have c := g.cell cs (by simp)
    simp only [h13, h10] at hK ⊢
    go_simp
    exact hK _ _ rfl (gr_refl _ _)
  case qo15 =>
    intro u w g hd K hK
    replace g : w0.grownBy w (none) := g
    have h10 : (u 10) = .bool true := hd 10 (by simp)
    clear hd
    simp only [Act.put, List.setIfInBounds_toArray, List.set_cons_zero, List.set_cons_succ] at hK
    have c := g.cell ci (by simp)
    simp only [h10] at hK ⊢
    go_simp
    exact hK _ _ rfl (gr_refl _ _)
  case qo16 =>
    intro u w g hd K hK
    replace g : w0.grownBy w (none) := g
    have h14 : (u 14) = .slice (some ⟨g0, 0, none⟩) n cap := hd 14 (by simp)
    have h15 : (u 15) = .int .i64 (i : Int) := hd 15 (by simp)
    have h10 : (u 10) = .bool true := hd 10 (by simp)
    clear hd
    simp only [Act.put, List.setIfInBounds_toArray, List.set_cons_zero, List.set_cons_succ] at hK
    have hil := HIL.out
    simp only [h14, h15, h10] at hK ⊢
    go_simp
    exact hK _ _ rfl (gr_refl _ _)
  case qo17 =>
    intro u w g hd K hK
    replace g : w0.grownBy w (none) := g
    have h16 : (u 16) = .pointer (some ⟨g0, i * 9, none⟩) := hd 16 (by simp)
    have h10 : (u 10) = .bool true := hd 10 (by simp)
    clear hd
    simp only [Act.put, List.setIfInBounds_toArray, List.set_cons_zero, List.set_cons_succ] at hK
    simp only [h16, h10] at hK ⊢
    go_simp
    exact hK _ _ rfl (gr_refl _ _)
  case qo18 =>
    intro u w g hd K hK
    replace g : w0.grownBy w (none) := g
    have h17 : (u 17) = .pointer (some ⟨g0, i * 9, none⟩) := hd 17 (by simp)
    have h10 : (u 10) = .bool true := hd 10 (by simp)
    clear hd
    simp only [Act.put, List.setIfInBounds_toArray, List.set_cons_zero, List.set_cons_succ] at hK
    have c := g.cell cd (by simp)
    simp only [h17, h10] at hK ⊢
    go_simp
    exact hK _ _ rfl (gr_refl _ _)
  case qo19 =>
    intro u w g hd K hK
    replace g : w0.grownBy w (none) := g
    have h10 : (u 10) = .bool true := hd 10 (by simp)
    clear hd
    simp only [Act.put, List.setIfInBounds_toArray, List.set_cons_zero, List.set_cons_succ] at hK
    simp only [h10] at hK ⊢
    go_simp
    exact hK _ _ rfl (gr_refl _ _)
  case qo20 =>
    intro u w g hd K hK
    replace g : w0.grownBy w (none) := g
    have h18 : (u 18) = .string ⟨sd.toArray⟩ := hd 18 (by simp)
    have h19 : (u 19) = .string ⟨sd.toArray⟩ := hd 19 (by simp)
    have h10 : (u 10) = .bool true := hd 10 (by simp)
    clear hd
    simp only [Act.put, List.setIfInBounds_toArray, List.set_cons_zero, List.set_cons_succ] at hK
    simp only [h18, h19, h10] at hK ⊢
    go_simp
    exact hK _ _ rfl (gr_refl _ _)
  case qo21 =>
    intro u w g hd K hK
    replace g : w0.grownBy w (none) := g
    have h10 : (u 10) = .bool true := hd 10 (by simp)
    have h20 : (u 20) = .bool true := hd 20 (by simp)
    clear hd
    simp only [Act.put, List.setIfInBounds_toArray, List.set_cons_zero, List.set_cons_succ] at hK
    simp only [h10, h20] at hK ⊢
    go_simp
    exact hK _ _ rfl (gr_refl _ _)
  intro u w hS g
  have s0 : (u 0) = .bool true := hS 0 (by decide)
  have s1 : (u 1) = .bool true := hS 1 (by decide)
  have s2 : (u 2) = .int .i64 (i : Int) := hS 2 (by decide)
  have s3 : (u 3) = .pointer (some ⟨C, 0, none⟩) := hS 3 (by decide)
  have s4 : (u 4) = .pointer (some ⟨C, 0, none⟩) := hS 4 (by decide)
  have s5 : (u 5) = .pointer (some ⟨C, 0, none⟩) := hS 5 (by decide)
  have s6 : (u 6) = .slice (some ⟨g0, 0, none⟩) n cap := hS 6 (by decide)
  have s7 : (u 7) = .int .i64 (n : Int) := hS 7 (by decide)
  have s8 : (u 8) = .bool true := hS 8 (by decide)
  have s9 : (u 9) = .bool true := hS 9 (by decide)
  have s10 : (u 10) = .bool true := hS 10 (by decide)
  have s11 : (u 11) = .pointer (some ⟨C, 0, none⟩) := hS 11 (by decide)
  have s12 : (u 12) = .pointer (some ⟨C, 0, none⟩) := hS 12 (by decide)
  have s13 : (u 13) = .pointer (some ⟨C, 0, none⟩) := hS 13 (by decide)
  have s14 : (u 14) = .slice (some ⟨g0, 0, none⟩) n cap := hS 14 (by decide)
  have s15 : (u 15) = .int .i64 (i : Int) := hS 15 (by decide)
  have s16 : (u 16) = .pointer (some ⟨g0, i * 9, none⟩) := hS 16 (by decide)
  have s17 : (u 17) = .pointer (some ⟨g0, i * 9, none⟩) := hS 17 (by decide)
  have s18 : (u 18) = .string ⟨sd.toArray⟩ := hS 18 (by decide)
  have s19 : (u 19) = .string ⟨sd.toArray⟩ := hS 19 (by decide)
  have s20 : (u 20) = .bool true := hS 20 (by decide)
  have s21 : (u 21) = .bool true := hS 21 (by decide)
  clear hS
  replace g : w0.grownBy w none := g
  change wpList _ _ _ [_] _ _
  have GY := hid g
  have T21 := hid s21
  clear s0 s1 s2 s3 s4 s5 s6 s7 s8 s9 s10 s11 s12 s13 s14 s15 s16 s17 s18 s19 s20 s21 g
  generalize u 0 = y0 at *
  generalize u 1 = y1 at *
  generalize u 2 = y2 at *
  generalize u 3 = y3 at *
  generalize u 4 = y4 at *
  generalize u 5 = y5 at *
  generalize u 6 = y6 at *
  generalize u 7 = y7 at *
  generalize u 8 = y8 at *
  generalize u 9 = y9 at *
  generalize u 10 = y10 at *
  generalize u 11 = y11 at *
  generalize u 12 = y12 at *
  generalize u 13 = y13 at *
  generalize u 14 = y14 at *
  generalize u 15 = y15 at *
  generalize u 16 = y16 at *
  generalize u 17 = y17 at *
  generalize u 18 = y18 at *
  generalize u 19 = y19 at *
  generalize u 20 = y20 at *
  generalize u 21 = y21 at *
  obtain rfl := T21.out
  have JJ := HJ.out.grow GY.out
  have co2 := (cell_of_block JJ.o 0).trans (show _ = some (Value.bool true) from rfl)
  have fo2 := free_of_block JJ.o 0
  have HO1 : (w.setCell ⟨bO, 0, none⟩ (.bool true)).heap[bO]? = some (.cells #[.bool true] 4 (0, 0)) := heap_set JJ.o
  have gO : w.grownBy (w.setCell ⟨bO, 0, none⟩ (.bool true)) (some bO) := gr_set (gr_refl _ _)
  have HI1 := gr_keep gO JJ.i (blk_ne JJ.i JJ.o (by decide))
  have HM1 := gr_keep gO JJ.m (blk_ne JJ.m JJ.o (by decide))
  have kO : KT TB 0 w0 (w.setCell ⟨bO, 0, none⟩ (.bool true)) := (KT.of_none GY.out).trans (KT.of_row gO JJ.o (Nat.zero_le _) rfl)
  have GO := hid (gr_set_new (o := 0) (v := .bool true) JJ.g HOI.out.1)
  have KO := hid kO
  have HOO := hid HO1
  have HII := hid HI1
  have HMM := hid HM1
  clear co ci cm cs cd JJ kO gO HO1 HI1 HM1
  go_upto_region 2 with fail
  obtain ⟨w2, hw2⟩ : ∃ w2, w2 = w.setCell ⟨bO, 0, none⟩ (.bool true) := ⟨_, rfl⟩
  rw [← hw2] at GO KO HOO HII HMM ⊢
  clear hw2 co2 fo2
  have ci2 := (cell_of_block HII.out 0).trans (show _ = some (Value.int .i64 (i : Int)) from rfl)
  have fi2 := free_of_block HII.out 0
  have gI : w2.grownBy (w2.setCell ⟨bI, 0, none⟩ (.int .i64 ((i : Int) + 1))) (some bI) := gr_set (gr_refl _ _)
  have HOO2 := hid (gr_keep gI HOO.out (blk_ne HOO.out HII.out (by decide)))
  have co3 := (cell_of_block HOO2.out 0).trans (show _ = some (Value.bool true) from rfl)
  have JE := hid (show SaJ _ bO bI bM C (i + 1) (w2.setCell ⟨bI, 0, none⟩ (.int .i64 ((i : Int) + 1))) from ⟨gr_set_new GO.out HOI.out.2, HOO2.out, heap_set HII.out, gr_keep gI HMM.out (blk_ne HMM.out HII.out (by decide))⟩)
  have KE := hid (KO.out.trans (KT.of_row gI HII.out (Nat.zero_le _) rfl))
  clear gI HOO2
  go_wp2
  go_ret
  exact ⟨rfl, by rw [← HW0.out]; exact KE.out, JE.out⟩
set_option maxRecDepth 20000 in
set_option maxHeartbeats 4000000 in
theorem same_x (N : Nat) (F : Nat → Prop) (B C : Nat) (D : List (Nat × Sb)) (E : List Sv) (most : Nat) (w : World) (hp : PAt w N F B D most) (hr : RAt w N F C E most) (hn : E.length ≤ 1000000) (hL : D.map (·.2) = E.map (·.1)) :
    Calls Tryz.prog 23 #[.pointer (some ⟨B, 0, none⟩), .pointer (some ⟨C, 0, none⟩)] w fun e w' => e = .returned (.bool true) ∧ w.grownBy w' none := by
  have hmf : ∀ (fn : Fn) (first cap : Array Value) (w : World), (Instr.makeFunc fn first cap).run Tryz.prog w = .ok (.func fn first cap) w := fun _ _ _ _ => rfl
  have hDE : D.length = E.length := by have := congrArg List.length hL; simpa using this
  obtain ⟨n, hn2⟩ : ∃ n, n = E.length := ⟨_, rfl⟩
  have HP := hid hp
  have HR := hid hr
  have HLL := hid hL
  have HN := hid hn2
  have HDE := hid hDE
  obtain ⟨bM, hbM⟩ : ∃ bM, bM = w.heap.size := ⟨_, rfl⟩
  have J0 : SaJ w (bM + 1 + 1) (bM + 1) bM C 0 ((((w.alloc (.cells #[.pointer (some ⟨C, 0, none⟩)] 62)).alloc (.cells #[.int .i64 0] 3)).alloc (.cells #[.bool true] 4))) := by
    have h1 := heap_alloc_new w (.cells #[.pointer (some ⟨C, 0, none⟩)] 62)
    have h2 := heap_alloc_new (w.alloc (.cells #[.pointer (some ⟨C, 0, none⟩)] 62)) (.cells #[.int .i64 0] 3)
    have h3 := heap_alloc_new ((w.alloc (.cells #[.pointer (some ⟨C, 0, none⟩)] 62)).alloc (.cells #[.int .i64 0] 3)) (.cells #[.bool true] 4)
    rw [← hbM] at h1
    simp only [World.size_alloc, ← hbM] at h2 h3
    have g3 := World.grownBy_alloc ((w.alloc (.cells #[.pointer (some ⟨C, 0, none⟩)] 62)).alloc (.cells #[.int .i64 0] 3)) (.cells #[.bool true] 4) none
    have g2 := World.grownBy_alloc (w.alloc (.cells #[.pointer (some ⟨C, 0, none⟩)] 62)) (.cells #[.int .i64 0] 3) none
    have g1 := World.grownBy_alloc w (.cells #[.pointer (some ⟨C, 0, none⟩)] 62) none
    exact ⟨gr_trans (gr_trans g1 g2) g3, h3, gr_keep g3 h2 (by simp), gr_keep g3 (gr_keep g2 h1 (by simp)) (by simp)⟩
  have HJ0 := hid J0
  have HBM := hid hbM
  clear J0 hbM hp hr hL hn2 hDE
  go_enter Tryz.func23, Tryz.ntmps23
  go_wp2_with fail
  rw [← HBM.out]
  obtain ⟨w1, hw1⟩ : ∃ w1, w1 = (((w.alloc (.cells #[.pointer (some ⟨C, 0, none⟩)] 62)).alloc (.cells #[.int .i64 0] 3)).alloc (.cells #[.bool true] 4)) := ⟨_, rfl⟩
  rw [← hw1] at HJ0 ⊢
  clear hw1
  refine (all_x w1 B).mono ?_
  rintro e w2 ⟨rfl, hq, g2⟩
  have J2 := hid (HJ0.out.grow g2)
  obtain ⟨q, hqq⟩ : ∃ q, q = w1.heap.size := ⟨_, rfl⟩
  rw [← hqq] at hq ⊢
  have HQ := hid hq
  have HB2 := hid (show w.heap.size ≤ bM by rw [HBM.out]; exact Nat.le_refl _)
  have AL := hid (allc_x N F B D most q w2 (HP.out.grow J2.out.g) HQ.out (by have := HDE.out; omega) (fun i W => SaJ w (bM + 1 + 1) (bM + 1) bM C i W) (fun _ => False) 63 #[.pointer (some ⟨bM + 1 + 1, 0, none⟩), .pointer (some ⟨bM + 1, 0, none⟩), .pointer (some ⟨bM, 0, none⟩)] (fun args w => by go_simp) (fun W g => J2.out.grow g) (fun i x W hx hj => by
    rw [HLL.out, List.getElem?_map] at hx
    cases he : E[i]? with
    | none => rw [he] at hx; cases hx
    | some e =>
      rw [he] at hx
      obtain rfl := Option.some.inj hx
      refine (same1_x N F C E most w HR.out hn (bM + 1 + 1) (bM + 1) bM (by have := HB2.out; omega) (by have := HB2.out; omega) i e he W hj).mono ?_
      rintro r w' ⟨h1, h2, h3⟩
      exact ⟨true, h1, h2, fun _ => h3, fun h => by cases h⟩))
  clear hq g2 hqq HJ0
  go_wp2_with fail
  refine AL.out.mono ?_
  rintro e w3 ⟨rfl, hj⟩
  have J3 := hid (hj.resolve_right (fun h => h))
  rw [HDE.out, ← HN.out] at J3
  clear hj AL HQ J2
  have P3 := hid (HP.out.grow J3.out.g)
  obtain ⟨a, cap, hB, -, hcap, -, -⟩ := (HR.out.grow J3.out.g).parts
  have cs := (cell_of_block hB 0).trans (show _ = some (Value.slice a E.length cap) from rfl)
  have co := (cell_of_block J3.out.o 0).trans (show _ = some (Value.bool true) from rfl)
  have ci := (cell_of_block J3.out.i 0).trans (show _ = some (Value.int .i64 (n : Int)) from rfl)
  have cm := (cell_of_block J3.out.m 0).trans (show _ = some (Value.pointer (some ⟨C, 0, none⟩)) from rfl)
  rw [← HN.out] at cs
  have LEN := hid (fun (W : World) (g : w3.grownBy W none) => len_x N F B D most W (P3.out.grow g))
  rw [HDE.out, ← HN.out] at LEN
  have G3 := hid J3.out.g
  clear hB hcap P3 J3
  go_upto_region 3 with fail
  obtain ⟨w0, hw0⟩ : ∃ w0, w0 = w3 := ⟨_, rfl⟩
  rw [← hw0] at cs co ci cm LEN G3 ⊢
  clear hw0
  refine wp_region_spec5 (by kernel_rfl) (by kernel_rfl) (n := 17) (by kernel_rfl) [some 11, some 12, some 13, some 14, some 15, some 16, some 17, some 18, some 19, some 20, some 21, some 22, some 23, some 24, some 25, some 26, some 4] (by kernel_rfl) _ (fun u => (by simp only [fill, List.zipIdx_cons, List.zipIdx_nil, List.foldl_cons, List.foldl_nil, Act.put, List.setIfInBounds_toArray, List.set_cons_zero, List.set_cons_succ, Nat.zero_add, Nat.reduceAdd]; exact rfl)) (by kernel_rfl) (by kernel_rfl) (by kernel_rfl)
    (fun ri v w => match ri with | 0 => v = .bool true | 1 => v = .bool true | 2 => v = .int .i64 (n : Int) | 3 => v = .pointer (some ⟨C, 0, none⟩) | 4 => v = .pointer (some ⟨C, 0, none⟩) | 5 => v = .pointer (some ⟨C, 0, none⟩) | 6 => v = .slice a n cap | 7 => v = .int .i64 (n : Int) | 8 => v = .bool true | 9 => v = .bool true | 10 => v = .bool true | 11 => v = .pointer (some ⟨B, 0, none⟩) | 12 => v = .int .i64 (n : Int) | 13 => v = .int .i64 (n : Int) | 14 => v = .bool true | 15 => v = .bool true | 16 => v = .bool true | _ => True)
    (all_succ (all_succ (all_succ (all_succ (all_succ (all_succ (all_succ (all_succ (all_succ (all_succ (all_succ (all_succ (all_succ (all_succ (all_succ (all_succ (all_succ (all_zero _) ?rm0) ?rm1) ?rm2) ?rm3) ?rm4) ?rm5) ?rm6) ?rm7) ?rm8) ?rm9) ?rm10) ?rm11) ?rm12) ?rm13) ?rm14) ?rm15) ?rm16)
    [[], [0], [1], [1], [3, 1], [4, 1], [5, 1], [6, 1], [2, 7, 1], [1, 8], [9], [10], [11, 10], [10], [12, 13, 10], [10, 14], [15]] (by kernel_rfl)
    ⟨?ro0, ?ro1, ?ro2, ?ro3, ?ro4, ?ro5, ?ro6, ?ro7, ?ro8, ?ro9, ?ro10, ?ro11, ?ro12, ?ro13, ?ro14, ?ro15, ?ro16, trivial⟩ ?rdone
  case rm0 => intro v w w' h g; exact h
  case rm1 => intro v w w' h g; exact h
  case rm2 => intro v w w' h g; exact h
  case rm3 => intro v w w' h g; exact h
  case rm4 => intro v w w' h g; exact h
  case rm5 => intro v w w' h g; exact h
  case rm6 => intro v w w' h g; exact h
  case rm7 => intro v w w' h g; exact h
  case rm8 => intro v w w' h g; exact h
  case rm9 => intro v w w' h g; exact h
  case rm10 => intro v w w' h g; exact h
  case rm11 => intro v w w' h g; exact h
  case rm12 => intro v w w' h g; exact h
  case rm13 => intro v w w' h g; exact h
  case rm14 => intro v w w' h g; exact h
  case rm15 => intro v w w' h g; exact h
  case rm16 => intro v w w' h g; exact h
  case ro0 =>
    intro u w g hd K hK
    clear hd
    simp only [Act.put, List.setIfInBounds_toArray, List.set_cons_zero, List.set_cons_succ] at hK
    have c := g.cell co (by simp)
    go_simp
    exact hK _ _ rfl (gr_refl _ _)
  case ro1 =>
    intro u w g hd K hK
    have h0 : (u 0) = .bool true := hd 0 (by simp)
    clear hd
    simp only [Act.put, List.setIfInBounds_toArray, List.set_cons_zero, List.set_cons_succ] at hK
    simp only [h0] at hK ⊢
    go_simp
    exact hK _ _ rfl (gr_refl _ _)
  case ro2 =>
    intro u w g hd K hK
    have h1 : (u 1) = .bool true := hd 1 (by simp)
    clear hd
    simp only [Act.put, List.setIfInBounds_toArray, List.set_cons_zero, List.set_cons_succ] at hK
    have c := g.cell ci (by simp)
    simp only [h1] at hK ⊢
    go_simp
    exact hK _ _ rfl (gr_refl _ _)
  case ro3 =>
    intro u w g hd K hK
    have h1 : (u 1) = .bool true := hd 1 (by simp)
    clear hd
    simp only [Act.put, List.setIfInBounds_toArray, List.set_cons_zero, List.set_cons_succ] at hK
    have c := g.cell cm (by simp)
    simp only [h1] at hK ⊢
    go_simp
    exact hK _ _ rfl (gr_refl _ _)
  case ro4 =>
    intro u w g hd K hK
    have h3 : (u 3) = .pointer (some ⟨C, 0, none⟩) := hd 3 (by simp)
    have h1 : (u 1) = .bool true := hd 1 (by simp)
    clear hd
    simp only [Act.put, List.setIfInBounds_toArray, List.set_cons_zero, List.set_cons_succ] at hK
    simp only [h3, h1] at hK ⊢
    go_simp
    exact hK _ _ rfl (gr_refl _ _)
  case ro5 =>
    intro u w g hd K hK
    have h4 : (u 4) = .pointer (some ⟨C, 0, none⟩) := hd 4 (by simp)
    have h1 : (u 1) = .bool true := hd 1 (by simp)
    clear hd
    simp only [Act.put, List.setIfInBounds_toArray, List.set_cons_zero, List.set_cons_succ] at hK
    simp only [h4, h1] at hK ⊢
    go_simp
    exact hK _ _ rfl (gr_refl _ _)
  case ro6 =>
    intro u w g hd K hK
    have h5 : (u 5) = .pointer (some ⟨C, 0, none⟩) := hd 5 (by simp)
    have h1 : (u 1) = .bool true := hd 1 (by simp)
    clear hd
    simp only [Act.put, List.setIfInBounds_toArray, List.set_cons_zero, List.set_cons_succ] at hK
    have c := g.cell cs (by simp)
    simp only [h5, h1] at hK ⊢
    go_simp
    exact hK _ _ rfl (gr_refl _ _)
  case ro7 =>
    intro u w g hd K hK
    have h6 : (u 6) = .slice a n cap := hd 6 (by simp)
    have h1 : (u 1) = .bool true := hd 1 (by simp)
    clear hd
    simp only [Act.put, List.setIfInBounds_toArray, List.set_cons_zero, List.set_cons_succ] at hK
    simp only [h6, h1] at hK ⊢
    go_simp
    exact hK _ _ rfl (gr_refl _ _)
  case ro8 =>
    intro u w g hd K hK
    have h2 : (u 2) = .int .i64 (n : Int) := hd 2 (by simp)
    have h7 : (u 7) = .int .i64 (n : Int) := hd 7 (by simp)
    have h1 : (u 1) = .bool true := hd 1 (by simp)
    clear hd
    simp only [Act.put, List.setIfInBounds_toArray, List.set_cons_zero, List.set_cons_succ] at hK
    simp only [h2, h7, h1] at hK ⊢
    go_simp
    exact hK _ _ rfl (gr_refl _ _)
  case ro9 =>
    intro u w g hd K hK
    have h1 : (u 1) = .bool true := hd 1 (by simp)
    have h8 : (u 8) = .bool true := hd 8 (by simp)
    clear hd
    simp only [Act.put, List.setIfInBounds_toArray, List.set_cons_zero, List.set_cons_succ] at hK
    simp only [h1, h8] at hK ⊢
    go_simp
    exact hK _ _ rfl (gr_refl _ _)
  case ro10 =>
    intro u w g hd K hK
    have h9 : (u 9) = .bool true := hd 9 (by simp)
    clear hd
    simp only [Act.put, List.setIfInBounds_toArray, List.set_cons_zero, List.set_cons_succ] at hK
    simp only [h9] at hK ⊢
    go_simp
    exact hK _ _ rfl (gr_refl _ _)
  case ro11 =>
    intro u w g hd K hK
    have h10 : (u 10) = .bool true := hd 10 (by simp)
    clear hd
    simp only [Act.put, List.setIfInBounds_toArray, List.set_cons_zero, List.set_cons_succ] at hK
    simp only [h10] at hK ⊢
    go_simp
    exact hK _ _ rfl (gr_refl _ _)
  case ro12 =>
    intro u w g hd K hK
    have h11 : (u 11) = .pointer (some ⟨B, 0, none⟩) := hd 11 (by simp)
    have h10 : (u 10) = .bool true := hd 10 (by simp)
    clear hd
    simp only [Act.put, List.setIfInBounds_toArray, List.set_cons_zero, List.set_cons_succ] at hK
    simp only [h11, h10] at hK ⊢
    go_simp
    refine (LEN.out w g).mono ?_
    rintro e w' ⟨rfl, rfl⟩
    exact hK _ _ rfl (gr_refl _ _)
  case ro13 =>
    intro u w g hd K hK
    have h10 : (u 10) = .bool true := hd 10 (by simp)
    clear hd
    simp only [Act.put, List.setIfInBounds_toArray, List.set_cons_zero, List.set_cons_succ] at hK
    have c := g.cell ci (by simp)
    simp only [h10] at hK ⊢
    go_simp
    exact hK _ _ rfl (gr_refl _ _)
  case ro14 =>
    intro u w g hd K hK
    have h12 : (u 12) = .int .i64 (n : Int) := hd 12 (by simp)
    have h13 : (u 13) = .int .i64 (n : Int) := hd 13 (by simp)
    have h10 : (u 10) = .bool true := hd 10 (by simp)
    clear hd
    simp only [Act.put, List.setIfInBounds_toArray, List.set_cons_zero, List.set_cons_succ] at hK
    simp only [h12, h13, h10] at hK ⊢
    go_simp
    exact hK _ _ rfl (gr_refl _ _)
  case ro15 =>
    intro u w g hd K hK
    have h10 : (u 10) = .bool true := hd 10 (by simp)
    have h14 : (u 14) = .bool true := hd 14 (by simp)
    clear hd
    simp only [Act.put, List.setIfInBounds_toArray, List.set_cons_zero, List.set_cons_succ] at hK
    simp only [h10, h14] at hK ⊢
    go_simp
    exact hK _ _ rfl (gr_refl _ _)
  case ro16 =>
    intro u w g hd K hK
    have h15 : (u 15) = .bool true := hd 15 (by simp)
    clear hd
    simp only [Act.put, List.setIfInBounds_toArray, List.set_cons_zero, List.set_cons_succ] at hK
    simp only [h15] at hK ⊢
    go_simp
    exact hK _ _ rfl (gr_refl _ _)
  intro u w hS g
  have s0 : (u 0) = .bool true := hS 0 (by decide)
  have s1 : (u 1) = .bool true := hS 1 (by decide)
  have s2 : (u 2) = .int .i64 (n : Int) := hS 2 (by decide)
  have s3 : (u 3) = .pointer (some ⟨C, 0, none⟩) := hS 3 (by decide)
  have s4 : (u 4) = .pointer (some ⟨C, 0, none⟩) := hS 4 (by decide)
  have s5 : (u 5) = .pointer (some ⟨C, 0, none⟩) := hS 5 (by decide)
  have s6 : (u 6) = .slice a n cap := hS 6 (by decide)
  have s7 : (u 7) = .int .i64 (n : Int) := hS 7 (by decide)
  have s8 : (u 8) = .bool true := hS 8 (by decide)
  have s9 : (u 9) = .bool true := hS 9 (by decide)
  have s10 : (u 10) = .bool true := hS 10 (by decide)
  have s11 : (u 11) = .pointer (some ⟨B, 0, none⟩) := hS 11 (by decide)
  have s12 : (u 12) = .int .i64 (n : Int) := hS 12 (by decide)
  have s13 : (u 13) = .int .i64 (n : Int) := hS 13 (by decide)
  have s14 : (u 14) = .bool true := hS 14 (by decide)
  have s15 : (u 15) = .bool true := hS 15 (by decide)
  have s16 : (u 16) = .bool true := hS 16 (by decide)
  clear hS
  have T16 := hid s16
  have GY := hid g
  clear s0 s1 s2 s3 s4 s5 s6 s7 s8 s9 s10 s11 s12 s13 s14 s15 s16 g
  generalize u 0 = y0 at *
  generalize u 1 = y1 at *
  generalize u 2 = y2 at *
  generalize u 3 = y3 at *
  generalize u 4 = y4 at *
  generalize u 5 = y5 at *
  generalize u 6 = y6 at *
  generalize u 7 = y7 at *
  generalize u 8 = y8 at *
  generalize u 9 = y9 at *
  generalize u 10 = y10 at *
  generalize u 11 = y11 at *
  generalize u 12 = y12 at *
  generalize u 13 = y13 at *
  generalize u 14 = y14 at *
  generalize u 15 = y15 at *
  generalize u 16 = y16 at *
  obtain rfl := T16.out
  have GE := hid (gr_trans G3.out GY.out)
  go_wp2
  go_ret
  exact ⟨rfl, GE.out⟩
end Go.Proofs.YtfceodbpkghkaaaGreatDoor
/- Plain facts of a script's calls; frames of both sides. -/
namespace Go.Proofs.YtfceodbpkghkaaaGreatDoor
open Go.RowKit
set_option linter.unusedVariables false
set_option linter.unusedSimpArgs false

theorem PAll.kt {T : TypeId → Bool} (hT : ∀ t, T t = true → TR t = true) {w w' : World} {N : Nat} {F : Nat → Prop} {B most : Nat} {L : List Sb} (h : PAll w N F B L most) (g : KT T N w w') : PAll w' N F B L most := by
  obtain ⟨E, e, h⟩ := h; exact ⟨E, e, h.kt hT g⟩
theorem PAll.grow {w w' : World} {N : Nat} {F : Nat → Prop} {B most : Nat} {L : List Sb} (h : PAll w N F B L most) (g : w.grownBy w' none) : PAll w' N F B L most := by
  obtain ⟨E, e, h⟩ := h; exact ⟨E, e, h.grow g⟩
theorem RAll.kt {T : TypeId → Bool} (hT : ∀ t, T t = true → TP t = true) {w w' : World} {N : Nat} {F : Nat → Prop} {B most : Nat} {L : List Sb} (h : RAll w N F B L most) (g : KT T N w w') : RAll w' N F B L most := by
  obtain ⟨E, e, h⟩ := h; exact ⟨E, e, h.kt hT g⟩
theorem RAll.grow {w w' : World} {N : Nat} {F : Nat → Prop} {B most : Nat} {L : List Sb} (h : RAll w N F B L most) (g : w.grownBy w' none) : RAll w' N F B L most := by
  obtain ⟨E, e, h⟩ := h; exact ⟨E, e, h.grow g⟩
theorem FsAt.kt {T : TypeId → Bool} (hT : T 47 = false) {w w' : World} {N : Nat} {v : Value} {fs : Gp} (h : FsAt w v fs) (g : KT T N w w') : FsAt w' v fs := by
  rcases h with h | ⟨g0, cap, cs, rfl, hh, r⟩
  · exact .inl h
  · exact .inr ⟨g0, cap, cs, rfl, g.of_type hh hT, r⟩
/-- What is kept of all subscriptions. -/
def OkL (L : List Sb) : Prop := ∀ x ∈ L, x.sid.length ≤ 2000 ∧ x.seq < 4294967296 ∧ x.last.length ≤ 1000000
theorem OkL.sub {L L' : List Sb} (h : OkL L) (hs : ∀ x ∈ L', x ∈ L) : OkL L' := fun x hx => h x (hs x hx)
theorem OkL.set {L : List Sb} (h : OkL L) (i : Nat) {x : Sb} (hx : x.sid.length ≤ 2000 ∧ x.seq < 4294967296 ∧ x.last.length ≤ 1000000) : OkL (L.set i x) := fun y hy => by
  rcases List.mem_or_eq_of_mem_set hy with h1 | rfl
  · exact h y h1
  · exact hx
theorem ok_expire {L : List Sb} (h : OkL L) (now : Nat) : OkL (expireL L now) ∧ (expireL L now).length ≤ L.length + 1 :=
  ⟨h.sub fun x hx => (List.mem_filter.1 hx).1, Nat.le_succ_of_le (List.length_filter_le _ _)⟩
theorem ok_drop {L : List Sb} (h : OkL L) (m : Nat) (p : Nat → Bool) : OkL (dropL L m p) ∧ (dropL L m p).length ≤ L.length + 1 :=
  ⟨h.sub fun x hx => (List.mem_filter.1 (List.mem_of_mem_take hx)).1, by unfold dropL; rw [List.length_take]; have := List.length_filter_le (fun x : Sb => p x.host) L; omega⟩
theorem ok_unsub {L : List Sb} (h : OkL L) (fs : Gp) (who : Nat) : OkL (unsubL L fs who).1 ∧ (unsubL L fs who).1.length ≤ L.length + 1 := by
  unfold unsubL
  split
  · split
    · exact ⟨h, Nat.le_succ _⟩
    · split
      · exact ⟨h, Nat.le_succ _⟩
      · split
        · exact ⟨h.sub fun x hx => List.mem_of_mem_eraseIdx hx, Nat.le_succ_of_le (List.length_eraseIdx_le ..)⟩
        · exact ⟨h, Nat.le_succ _⟩
  · exact ⟨h, Nat.le_succ _⟩
theorem ok_told {L : List Sb} (h : OkL L) (now : Nat) (vars : Gp) (hv : vars.length ≤ 1000000) : OkL (toldL L now vars) ∧ (toldL L now vars).length ≤ L.length + 1 := by
  unfold toldL
  refine ⟨?_, by rw [List.length_modify]; exact Nat.le_succ _⟩
  cases hx : L[nextL L now vars]? with
  | none => rw [List.modify_eq_self (by simpa using hx)]; exact h
  | some x => rw [modify_set hx]; exact h.set _ ⟨(h x (List.mem_of_getElem? hx)).1, (h x (List.mem_of_getElem? hx)).2.1, hv⟩
theorem ok_done {L : List Sb} (h : OkL L) (s : Gs) (ok : Bool) (now : Nat) : OkL (doneL L s ok now) ∧ (doneL L s ok now).length ≤ L.length + 1 := by
  unfold doneL
  cases hx : L[findL L s]? with
  | none => exact ⟨h, Nat.le_succ _⟩
  | some x =>
    have hm := h x (List.mem_of_getElem? hx)
    simp only
    split
    · exact ⟨h, Nat.le_succ _⟩
    · split
      · exact ⟨h.sub fun x hx => List.mem_of_mem_eraseIdx hx, Nat.le_succ_of_le (List.length_eraseIdx_le ..)⟩
      · refine ⟨h.set _ ⟨hm.1, ?_, hm.2.2⟩, by rw [List.length_set]; exact Nat.le_succ _⟩
        show (if x.seq = 4294967295 then 1 else x.seq + 1) < 4294967296
        have := hm.2.1
        split <;> omega
theorem hexL_length : ∀ l : Gs, (hexL l).length = l.length * 2
  | [] => rfl
  | b :: l => by rw [hexL, List.length_cons, List.length_cons, hexL_length l, List.length_cons]; omega
theorem sidL_length (a b : Nat) : (sidL a b).length ≤ 2000 := by
  have h : (sixL a b).length ≤ 32 := by
    unfold sixL
    rw [hexL_length, List.length_append]
    have h1 : (beL 8 a).length = 8 := by simp [beL_len]
    have h2 : (beL 8 b).length = 8 := by simp [beL_len]
    omega
  unfold sidL uuP
  simp only [List.length_append, List.length_cons, List.length_take, List.length_drop, List.length_nil]
  omega
theorem ok_subs {L : List Sb} (h : OkL L) (most : Nat) (fs : Gp) (who now a b : Nat) : OkL (subsL most L fs who now a b).1 ∧ (subsL most L fs who now a b).1.length ≤ L.length + 1 := by
  have h0 : OkL L ∧ L.length ≤ L.length + 1 := ⟨h, Nat.le_succ _⟩
  unfold subsL
  split
  · split
    · exact h0
    · cases hx : L[findL L _]? with
      | none => exact h0
      | some x =>
        simp only
        split
        · have hm := h x (List.mem_of_getElem? hx)
          exact ⟨h.set _ ⟨hm.1, hm.2.1, hm.2.2⟩, by rw [List.length_set]; exact Nat.le_succ _⟩
        · exact h0
  · split
    · split
      · split
        · exact h0
        · split
          · exact h0
          · split
            · exact h0
            · refine ⟨fun x hx => ?_, by rw [List.length_append]; exact Nat.le_refl _⟩
              rcases List.mem_append.1 hx with h1 | h1
              · exact h x h1
              · obtain rfl := List.mem_singleton.1 h1
                exact ⟨sidL_length _ _, by simp, by simp⟩
      · exact h0
    · exact h0
theorem reqL_val {o : Og} {L : List Sb} (hs : SmO o) (h : OkL L) : ∀ f ∈ reqL o L, f.2.length ≤ 2000 := by
  intro f hf
  unfold reqL at hf
  obtain ⟨g, hg, rfl⟩ := List.mem_map.1 hf
  have h1 := hs.fs g hg
  unfold reqF
  split
  · show (sidAt L _).length ≤ 2000
    unfold sidAt
    split
    · rename_i x hx
      exact (h x (List.mem_of_getElem? hx)).1
    · simp
  · omega
theorem reqL_len (o : Og) (L : List Sb) : (reqL o L).length = o.fs.length := by unfold reqL; rw [List.length_map]
/-- A note's parts; none: nobody is told. -/
def ntS (r : Option Sb) : Gs := match r with | some x => x.sid | none => []
def ntT (r : Option Sb) : Gs := match r with | some x => x.target | none => []
def ntQ (r : Option Sb) : Nat := match r with | some x => x.seq | none => 0
def ntH (r : Option Sb) : Nat := match r with | some x => x.host | none => 0
def ntP (r : Option Sb) : Nat := match r with | some x => x.port | none => 0
def ntB (r : Option Sb) (vars : Gp) : Gs := match r with | some x => bodL (newsL x vars) | none => []
def NtForm (r : Option Sb) (vars : Gp) (e : Ending) (w' : World) : Prop :=
  ∃ bv, e = .returned (.tuple #[.agg #[.string ⟨(ntS r).toArray⟩, .int .u32 (ntQ r : Int), .int .u32 (ntH r : Int), .int .u16 (ntP r : Int), .string ⟨(ntT r).toArray⟩, bv], .bool r.isSome]) ∧ Bytes w' bv (ntB r vars)
theorem NxPost.form {w : World} {N : Nat} {F : Nat → Prop} {B most : Nat} {L : List Sb} {now : Nat} {vars : Gp} {e : Ending} {w' : World} (h : NxPost w N F B most L now vars e w') : KT TP N w w' ∧ PAll w' N F B (toldL L now vars) most ∧ NtForm (L[nextL L now vars]?) vars e w' := by
  obtain ⟨h1, h2, h3⟩ := h
  refine ⟨h1, h2, ?_⟩
  cases hx : L[nextL L now vars]? with
  | none => rw [hx] at h3; exact ⟨_, h3, Bytes.nil w'⟩
  | some x =>
    rw [hx] at h3
    obtain ⟨bv, e1, hb⟩ := h3
    exact ⟨bv, e1, hb⟩
theorem RNx.form {w : World} {N : Nat} {F : Nat → Prop} {B most : Nat} {L : List Sb} {now : Nat} {vars : Gp} {e : Ending} {w' : World} (h : RNx w N F B most L now vars e w') : KT TR N w w' ∧ U8K w w' ∧ RAll w' N F B (toldL L now vars) most ∧ NtForm (L[nextL L now vars]?) vars e w' := by
  obtain ⟨h1, h0, h2, h3⟩ := h
  refine ⟨h1, h0, h2, ?_⟩
  cases hx : L[nextL L now vars]? with
  | none => rw [hx] at h3; exact ⟨_, h3, Bytes.nil w'⟩
  | some x =>
    rw [hx] at h3
    obtain ⟨bv, e1, hb⟩ := h3
    exact ⟨bv, e1, hb⟩
/-- The variables that the subscriber was told of are turned behind it. -/
structure MuR (V n : Nat) (w wr : World) : Prop where
  g : w.grownBy wr (some V)
  z : n = 0 → wr = w
  blk0 : 0 < n → ∃ cs, w.heap[V]? = some (.cells cs 58 (0, 0))
  blk : 0 < n → ∃ cs, wr.heap[V]? = some (.cells cs 58 (0, 0))
  st : ∀ j, j < n * 2 → ∃ s, wr.cell? ⟨V, j, none⟩ = some (.string s)
  u8 : U8K w wr
theorem MuR.step {V n : Nat} {w wr : World} (h : MuR V n w wr) (j : Nat) (hj : j < n * 2) (s : ByteArray) : MuR V n w (wr.setCell ⟨V, j, none⟩ (.string s)) := by
  obtain ⟨cs, hcs⟩ := h.blk (by omega)
  obtain ⟨s0, hs0⟩ := h.st j hj
  refine ⟨gr_set h.g, fun h0 => by omega, h.blk0, fun _ => ⟨_, heap_set hcs⟩, fun k hk => ?_, h.u8.trans (u8_set hs0 (by intro m h; cases h))⟩
  by_cases hkj : k = j
  · subst hkj; exact ⟨s, World.cell?_setCell_same _ _ _ hs0⟩
  · obtain ⟨s1, hs1⟩ := h.st k hk
    exact ⟨s1, (World.cell?_setCell_other _ _ _ _ (by intro e; simp only [Addr.mk.injEq] at e; omega)).trans hs1⟩
theorem MuR.keep {V n : Nat} {w wr : World} (h : MuR V n w wr) {b : Nat} {cs : Array Value} {t : TypeId} (hb : w.heap[b]? = some (.cells cs t (0, 0))) (ht : t ≠ 58) : wr.heap[b]? = some (.cells cs t (0, 0)) := by
  rcases Nat.eq_zero_or_pos n with h0 | hp
  · rw [h.z h0]; exact hb
  · obtain ⟨c0, h0⟩ := h.blk0 hp
    exact gr_keep h.g hb (blk_ne hb h0 ht)
theorem MuR.kt {T : TypeId → Bool} {V n N : Nat} {a w wr : World} (h : MuR V n w wr) (k : KT T N a w) (hV : 0 < n → a.heap.size ≤ V) : KT T N a wr := by
  rcases Nat.eq_zero_or_pos n with h0 | hp
  · rw [h.z h0]; exact k
  · exact k.then_new h.g (hV hp)
theorem MuR.pall {V n : Nat} {w wr : World} (h : MuR V n w wr) {N : Nat} {F : Nat → Prop} {B most : Nat} {L : List Sb} (hF : 0 < n → ¬ F V) (hp : PAll w N F B L most) : PAll wr N (fun _ => True) B L most := by
  obtain ⟨E, e, hp⟩ := hp
  refine ⟨E, e, ?_⟩
  rcases Nat.eq_zero_or_pos n with h0 | hpn
  · rw [h.z h0]; exact hp.f (fun _ _ _ => trivial)
  · obtain ⟨c0, h0⟩ := h.blk0 hpn
    exact (hp.row h.g h0 (by decide) (hF hpn)).f (fun _ _ _ => trivial)
theorem MuR.rall {V n : Nat} {w wr : World} (h : MuR V n w wr) {N : Nat} {F : Nat → Prop} {B most : Nat} {L : List Sb} (hF : 0 < n → ¬ F V) (hp : RAll w N F B L most) : RAll wr N (fun _ => True) B L most := by
  obtain ⟨E, e, hp⟩ := hp
  refine ⟨E, e, ?_⟩
  rcases Nat.eq_zero_or_pos n with h0 | hpn
  · rw [h.z h0]; exact hp.f (fun _ _ _ => trivial)
  · obtain ⟨c0, h0⟩ := h.blk0 hpn
    exact (hp.row h.g h0 (by decide) (hF hpn)).f (fun _ _ _ => trivial)
theorem OwnA.blockV {w : World} {base : Nat} {a : Option Addr} {c : Nat} {xs : Gp} (h : OwnA w base (.slice a xs.length c) xs) : ∃ V, (0 < xs.length → a = some ⟨V, 0, none⟩ ∧ ∃ cs, w.heap[V]? = some (.cells cs 58 (0, 0)) ∧ ∀ j, j < xs.length * 2 → ∃ s, cs[j]? = some (Value.string s)) ∧ (0 < xs.length → base ≤ V) ∧ (0 < xs.length → V < w.heap.size) := by
  rcases h.2 with ⟨e, h0⟩ | ⟨g, cap, cur, e, hg, hh, hc, hm, hs, ht⟩
  · exact ⟨0, fun h => by omega, fun h => by omega, fun h => by omega⟩
  · obtain ⟨rfl, rfl⟩ : a = some ⟨g, 0, none⟩ ∧ c = cap := by simpa using e
    refine ⟨g, fun _ => ⟨rfl, cur, hh, fun j hj => ?_⟩, fun _ => hg, fun _ => lt_of_block hh⟩
    have hl := flatA_len xs
    have hji : j / 2 < xs.length := by omega
    obtain ⟨e1, e2⟩ := flatA_at xs (j / 2) hji
    have key : (flatA xs)[j]? = cur[j]? := by
      rw [← ht, List.getElem?_take_of_lt (by omega), Array.getElem?_toList]
    rcases (by omega : j = j / 2 * 2 ∨ j = j / 2 * 2 + 1) with h | h
    · rw [← h] at e1; exact ⟨_, key.symm.trans e1⟩
    · rw [← h] at e2; exact ⟨_, key.symm.trans e2⟩
theorem OwnA.plain {w : World} {base : Nat} {v : Value} {xs : Gp} (h : OwnA w base v xs) : ∀ a c, v = .slice a 0 c → ∀ ad, a = some ad → ∃ b o, ad = ⟨b, o, none⟩ := by
  intro a c e ad had
  rcases h.2 with ⟨e1, h0⟩ | ⟨g, cap, cur, e1, -⟩
  · rw [e1] at e; simp at e; rw [← e.1] at had; cases had
  · rw [e1] at e
    simp at e
    rw [← e.1] at had
    exact ⟨g, 0, (Option.some.inj had).symm⟩
theorem subsL_len (most : Nat) (L : List Sb) (fs : Gp) (who now a b : Nat) : (subsL most L fs who now a b).2.2.length ≤ 2 := by
  unfold subsL
  split
  · split
    · simp
    · split
      · simp
      · split <;> simp [grantL]
  · split
    · split
      · split
        · simp
        · split
          · simp
          · split <;> simp [grantL]
      · simp
    · simp
/-- Variables that came in. -/
theorem argsk_low {W w : World} {N : Nat} (hWN : W.heap.size = N) (g : W.grownBy w none) {a : Option Addr} {c : Nat} {xs : Gp} (h1 : xs.length ≤ c) (h2 : c ≤ maxLen) (h : PairsAt W a xs.length (gN xs) (gV xs)) : ArgsK w N (fun _ => True) (.slice a xs.length c) xs := by
  rcases Nat.eq_zero_or_pos xs.length with h0 | hp
  · exact ⟨a, c, rfl, h1, h2, .inl h0⟩
  · rcases h with h0 | ⟨b, o, rfl, hc⟩
    · omega
    · have hlt := World.block_lt_of_cell? W _ (hc 0 hp).c0
      simp only at hlt
      exact ⟨_, c, rfl, h1, h2, .inr ⟨b, o, _, rfl, gr_keep g (Array.getElem?_eq_getElem hlt) (by simp), .inl (by omega), trivial, fun i hi => (hc i hi).grown g⟩⟩
theorem u32k_low {W w : World} {N : Nat} (hWN : W.heap.size = N) (g : W.grownBy w none) {a : Option Addr} {c : Nat} {hs : List Nat} (h : ∀ (i x : Nat), hs[i]? = some x → ∃ b p, a = some ⟨b, p, none⟩ ∧ W.cell? ⟨b, p + i, none⟩ = some (.int .u32 (x : Int))) : U32K w N (.slice a hs.length c) hs :=
  ⟨a, c, rfl, fun i x hx => by
    obtain ⟨b, p, rfl, hc⟩ := h i x hx
    have hlt := World.block_lt_of_cell? W _ hc
    simp only at hlt
    exact ⟨b, p, rfl, by omega, g.cell hc (by simp)⟩⟩
end Go.Proofs.YtfceodbpkghkaaaGreatDoor
