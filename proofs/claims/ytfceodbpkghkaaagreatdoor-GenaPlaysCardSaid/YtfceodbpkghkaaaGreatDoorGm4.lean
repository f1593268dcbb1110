/- gena.(*Subs).own and granted. -/
import Derived.Test.YtfceodbpkghkaaaGreatDoorMG
import Derived.BigQuiet
import Derived.Lib.ItoaLen
import Derived.Test.YtfceodbpkghkaaaGreatDoorMR
import Derived.Test.YtfceodbpkghkaaaGreatDoorUint
namespace Go.Proofs.YtfceodbpkghkaaaGreatDoor
open Go.RowKit
set_option linter.unusedVariables false
set_option linter.unusedSimpArgs false

def ownB (L : List Sb) (s : Gs) (who : Nat) : Bool := match L[findL L s]? with | some x => decide (x.host = who) | none => false
set_option maxRecDepth 20000 in
set_option maxHeartbeats 2000000 in
theorem own_x (N : Nat) (F : Nat → Prop) (B : Nat) (E : List (Nat × Sb)) (most : Nat) (s : Gs) (who : Nat) (w : World) (h : PAt w N F B E most) :
    Calls Tryz.prog 38 #[.pointer (some ⟨B, 0, none⟩), .string ⟨s.toArray⟩, .int .u32 (who : Int)] w fun e w' => e = .returned (.tuple #[.int .i64 (plI (E.map (·.2)) s), .bool (ownB (E.map (·.2)) s who)]) ∧ w.grownBy w' none := by
  have HF := hid (find_x N F B E most s w h)
  have HP := hid h
  have hl : (E.map (·.2)).length = E.length := List.length_map ..
  have hE : E.length ≤ 9223372036854775807 := Nat.le_trans h.n h.mo
  clear h
  go_enter Tryz.func38, Tryz.ntmps38
  go_wp2_with fail
  refine HF.out.mono ?_
  rintro e w1 ⟨rfl, g1⟩
  have G1 := hid g1
  have P1 := hid (HP.out.grow g1)
  clear HF g1 HP
  by_cases hlt : findL (E.map (·.2)) s < E.length
  · obtain ⟨i, hi⟩ : ∃ i, i = findL (E.map (·.2)) s := ⟨_, rfl⟩
    obtain ⟨e, he⟩ : ∃ e, E[i]? = some e := ⟨_, List.getElem?_eq_getElem (by omega)⟩
    have R1 := hid (show plI (E.map (·.2)) s = (i : Int) by unfold plI; rw [if_pos (by omega), hi])
    have R2 := hid (show ownB (E.map (·.2)) s who = decide (e.2.host = who) by
      unfold ownB
      rw [← hi, List.getElem?_map, he]; rfl)
    obtain ⟨lv, h1, h2⟩ := P1.out.head
    obtain ⟨a, cap, rfl, hcap, hc⟩ := PAt.ptr (B := 0) (most := 0) (F := F) h2
    obtain ⟨g, rfl, c2⟩ := hc i e he
    have c1 := (cell_of_block h1 0).trans (show _ = some (Value.slice (some ⟨g, 0, none⟩) E.length cap) from rfl)
    have c3 := (P1.out.each e (List.mem_of_getElem? he)).cells.2.1
    obtain ⟨d, x⟩ := e
    simp only at c2 c3 R2
    rw [R1.out]
    obtain ⟨hh, hhh⟩ : ∃ hh, hh = x.host := ⟨_, rfl⟩
    rw [← hhh] at c3 R2
    have hi0 : (0 : Int) ≤ (i : Int) := by omega
    have hi1 : (i : Int) < (E.length : Int) := by omega
    have hd := decide_eq_true hi0
    clear h1 h2 hc he hi hlt hhh P1
    by_cases hw : hh = who
    · have hb : ((hh : Int) == (who : Int)) = true := by rw [hw]; simp
      have R3 := hid (R2.out.trans (decide_eq_true hw))
      clear hw R2
      go_wp2_with fail
      go_quiet (fail)
      go_wp2
      ((try simp only [Exit.inBlock, Exit.then]); refine bodyPost_ret (results_tmp2 rfl _ _ _) rfl ?_)
      exact ⟨by rw [R1.out, R3.out]; rfl, gr_drewN _ G1.out⟩
    · have hb : ((hh : Int) == (who : Int)) = false := by rw [beq_eq_false_iff_ne]; omega
      have R3 := hid (R2.out.trans (decide_eq_false hw))
      clear hw R2
      go_wp2_with fail
      go_quiet (fail)
      go_wp2
      ((try simp only [Exit.inBlock, Exit.then]); refine bodyPost_ret (results_tmp2 rfl _ _ _) rfl ?_)
      exact ⟨by rw [R1.out, R3.out]; rfl, gr_drewN _ G1.out⟩
  · have R1 := hid (show plI (E.map (·.2)) s = -1 by unfold plI; rw [if_neg (by omega)])
    have R2 := hid (show ownB (E.map (·.2)) s who = false by
      unfold ownB
      rw [List.getElem?_eq_none (by omega)])
    rw [R1.out]
    have hd : decide ((0 : Int) ≤ -1) = false := rfl
    clear hlt P1
    go_wp2_with fail
    go_quiet (fail)
    go_wp2
    ((try simp only [Exit.inBlock, Exit.then]); refine bodyPost_ret (results_tmp2 rfl _ _ _) rfl ?_)
    exact ⟨by rw [R1.out, R2.out]; rfl, gr_drewN _ G1.out⟩
theorem dec_len (n : Nat) (h : n < 18446744073709551616) : (Lib.decDigits n).length ≤ 20 := by
  rw [Lib.decDigits_length]
  exact Lib.nDigits_le20 n h
theorem fs_two {w : World} {g : Nat} {a b c d : Gs} (h : w.heap[g]? = some (.cells #[str a, str b, str c, str d] 47 (0, 0))) : FsAt w (.slice (some ⟨g, 0, none⟩) 2 2) [(a, b), (c, d)] :=
  .inr ⟨g, 2, _, rfl, h, Nat.le_refl _, by simp [maxLen], rfl, by simp⟩
set_option maxRecDepth 20000 in
set_option maxHeartbeats 2000000 in
theorem granted_x (N : Nat) (F : Nat → Prop) (d : Nat) (x : Sb) (n : Nat) (hn : n < 18446744073709551616) (w0 : World) (h10 : Hid (P10 w0)) (h : PSub w0 N F d x) :
    Calls Tryz.prog 40 #[.pointer (some ⟨d, 0, none⟩), .int .u64 (n : Int)] w0 fun e w' => ∃ v, e = .returned (.tuple #[.int .i64 200, v]) ∧ FsAt w' v (grantL x.sid n) ∧ w0.grownBy w' none := by
  have p0 := h.cells.1
  have HT := hid (fun (W : World) (g : w0.grownBy W none) => text_any n hn W (h10.out.grown g))
  have HL := hid (dec_len n hn)
  clear h
  obtain ⟨X, hX⟩ : ∃ X : ByteArray, X = ⟨x.sid.toArray⟩ := ⟨_, rfl⟩
  obtain ⟨D, hD⟩ : ∃ X : ByteArray, X = ⟨(Lib.decDigits n).toArray⟩ := ⟨_, rfl⟩
  obtain ⟨T, hT⟩ : ∃ X : ByteArray, X = ⟨(secP2 ++ Lib.decDigits n).toArray⟩ := ⟨_, rfl⟩
  have HX := hid hX
  have HDT := hid (show (⟨#[83, 101, 99, 111, 110, 100, 45]⟩ : ByteArray) ++ D = T by rw [hD, hT]; exact g_app secP2 _)
  have HTD := hid hT
  have HDD := hid hD
  have HFS := hid (fun (W : World) (g : Nat) (h : W.heap[g]? = some (.cells #[.string ⟨#[83, 73, 68]⟩, .string X, .string ⟨#[84, 73, 77, 69, 79, 85, 84]⟩, .string T] 47 (0, 0))) => (show FsAt W (.slice (some ⟨g, 0, none⟩) 2 2) (grantL x.sid n) from fs_two (by rw [hX, hT] at h; exact h)))
  have hDs : D.size ≤ 20 := by rw [hD, Lib.size_eq]; simpa using HL.out
  rw [← hX] at p0
  clear hX hD hT
  go_enter Tryz.func40, Tryz.ntmps40
  go_wp2_with fail
  refine wp_region_spec2 (by kernel_rfl) (by kernel_rfl) (n := 12) (by kernel_rfl) [some 6, some 7, some 8, some 9, some 10, some 11, some 12, some 13, some 14, some 15, some 4, some 5] (by kernel_rfl) _ (fun u => (by simp only [fill, List.zipIdx_cons, List.zipIdx_nil, List.foldl_cons, List.foldl_nil, Act.put, List.setIfInBounds_toArray, List.set_cons_zero, List.set_cons_succ, Nat.zero_add, Nat.reduceAdd]; exact rfl)) (by kernel_rfl)
    (all_succ (all_succ (all_succ (all_succ (all_succ (all_succ (all_succ (all_succ (all_succ (all_succ (all_succ (all_succ (all_zero _) (fun u v => by kernel_rfl)) (fun u v => by kernel_rfl)) (fun u v => by kernel_rfl)) (fun u v => by kernel_rfl)) (fun u v => by kernel_rfl)) (fun u v => by kernel_rfl)) (fun u v => by kernel_rfl)) (fun u v => by kernel_rfl)) (fun u v => by kernel_rfl)) (fun u v => by kernel_rfl)) (fun u v => by kernel_rfl)) (fun u v => by kernel_rfl))
    (fun ri v w => match ri with | 0 => v = .pointer (some ⟨d, 0, none⟩) | 1 => v = .pointer (some ⟨d, 0, none⟩) | 2 => v = .pointer (some ⟨d, 0, none⟩) | 3 => v = .string X | 4 => v = .agg #[.string ⟨#[83, 73, 68]⟩, .string X] | 5 => v = .int .u64 (n : Int) | 6 => v = .string D | 7 => v = .string T | 8 => v = .agg #[.string ⟨#[84, 73, 77, 69, 79, 85, 84]⟩, .string T] | 9 => FsAt w v (grantL x.sid n) | 10 => v = .int .i64 200 | 11 => FsAt w v (grantL x.sid n) | _ => True)
    (all_succ (all_succ (all_succ (all_succ (all_succ (all_succ (all_succ (all_succ (all_succ (all_succ (all_succ (all_succ (all_zero _) ?m0) ?m1) ?m2) ?m3) ?m4) ?m5) ?m6) ?m7) ?m8) ?m9) ?m10) ?m11)
    [[], [0], [1], [2], [3], [], [5], [6], [7], [4, 8], [], [9]] (by kernel_rfl)
    ⟨?o0, ?o1, ?o2, ?o3, ?o4, ?o5, ?o6, ?o7, ?o8, ?o9, ?o10, ?o11, trivial⟩ ?done
  case m0 => intro v w w' h g; first | exact h | exact FsAt.grow h g
  case m1 => intro v w w' h g; first | exact h | exact FsAt.grow h g
  case m2 => intro v w w' h g; first | exact h | exact FsAt.grow h g
  case m3 => intro v w w' h g; first | exact h | exact FsAt.grow h g
  case m4 => intro v w w' h g; first | exact h | exact FsAt.grow h g
  case m5 => intro v w w' h g; first | exact h | exact FsAt.grow h g
  case m6 => intro v w w' h g; first | exact h | exact FsAt.grow h g
  case m7 => intro v w w' h g; first | exact h | exact FsAt.grow h g
  case m8 => intro v w w' h g; first | exact h | exact FsAt.grow h g
  case m9 => intro v w w' h g; first | exact h | exact FsAt.grow h g
  case m10 => intro v w w' h g; first | exact h | exact FsAt.grow h g
  case m11 => intro v w w' h g; first | exact h | exact FsAt.grow h g
  case o0 =>
    intro u w g hd K hK
    clear hd
    simp only [Act.put, List.setIfInBounds_toArray, List.set_cons_zero, List.set_cons_succ] at hK
    go_simp
    exact hK _ _ rfl (gr_refl _ _)
  case o1 =>
    intro u w g hd K hK
    have h0 : (u 0) = .pointer (some ⟨d, 0, none⟩) := hd 0 (by simp)
    clear hd
    simp only [Act.put, List.setIfInBounds_toArray, List.set_cons_zero, List.set_cons_succ] at hK
    simp only [h0] at hK ⊢
    go_simp
    exact hK _ _ rfl (gr_refl _ _)
  case o2 =>
    intro u w g hd K hK
    have h1 : (u 1) = .pointer (some ⟨d, 0, none⟩) := hd 1 (by simp)
    clear hd
    simp only [Act.put, List.setIfInBounds_toArray, List.set_cons_zero, List.set_cons_succ] at hK
    simp only [h1] at hK ⊢
    go_simp
    exact hK _ _ rfl (gr_refl _ _)
  case o3 =>
    intro u w g hd K hK
    have h2 : (u 2) = .pointer (some ⟨d, 0, none⟩) := hd 2 (by simp)
    clear hd
    simp only [Act.put, List.setIfInBounds_toArray, List.set_cons_zero, List.set_cons_succ] at hK
    have c := g.cell p0 (by simp)
    simp only [h2] at hK ⊢
    go_simp
    exact hK _ _ rfl (gr_refl _ _)
  case o4 =>
    intro u w g hd K hK
    have h3 : (u 3) = .string X := hd 3 (by simp)
    clear hd
    simp only [Act.put, List.setIfInBounds_toArray, List.set_cons_zero, List.set_cons_succ] at hK
    simp only [h3] at hK ⊢
    go_simp
    exact hK _ _ rfl (gr_refl _ _)
  case o5 =>
    intro u w g hd K hK
    clear hd
    simp only [Act.put, List.setIfInBounds_toArray, List.set_cons_zero, List.set_cons_succ] at hK
    go_simp
    exact hK _ _ rfl (gr_refl _ _)
  case o6 =>
    intro u w g hd K hK
    have h5 : (u 5) = .int .u64 (n : Int) := hd 5 (by simp)
    clear hd
    simp only [Act.put, List.setIfInBounds_toArray, List.set_cons_zero, List.set_cons_succ] at hK
    simp only [h5] at hK ⊢
    go_simp
    refine (HT.out w g).mono ?_
    rintro e w' ⟨rfl, g'⟩
    exact hK _ _ (by rw [HDD.out]; rfl) g'
  case o7 =>
    intro u w g hd K hK
    have h6 : (u 6) = .string D := hd 6 (by simp)
    clear hd
    simp only [Act.put, List.setIfInBounds_toArray, List.set_cons_zero, List.set_cons_succ] at hK
    simp only [h6] at hK ⊢
    go_simp
    rw [if_neg (by omega), Oper.upon_value, HDT.out]
    exact hK _ _ rfl (gr_refl _ _)
  case o8 =>
    intro u w g hd K hK
    have h7 : (u 7) = .string T := hd 7 (by simp)
    clear hd
    simp only [Act.put, List.setIfInBounds_toArray, List.set_cons_zero, List.set_cons_succ] at hK
    simp only [h7] at hK ⊢
    go_simp
    exact hK _ _ rfl (gr_refl _ _)
  case o9 =>
    intro u w g hd K hK
    have h4 : (u 4) = .agg #[.string ⟨#[83, 73, 68]⟩, .string X] := hd 4 (by simp)
    have h8 : (u 8) = .agg #[.string ⟨#[84, 73, 77, 69, 79, 85, 84]⟩, .string T] := hd 8 (by simp)
    clear hd
    simp only [Act.put, List.setIfInBounds_toArray, List.set_cons_zero, List.set_cons_succ] at hK
    simp only [h4, h8] at hK ⊢
    go_simp
    refine hK _ _ (HFS.out _ _ (heap_alloc_new w _)) (gr_alloc (gr_refl _ _) _)
  case o10 =>
    intro u w g hd K hK
    clear hd
    simp only [Act.put, List.setIfInBounds_toArray, List.set_cons_zero, List.set_cons_succ] at hK
    go_simp
    exact hK _ _ rfl (gr_refl _ _)
  case o11 =>
    intro u w g hd K hK
    have h9 : FsAt w (u 9) (grantL x.sid n) := hd 9 (by simp)
    clear hd
    simp only [Act.put, List.setIfInBounds_toArray, List.set_cons_zero, List.set_cons_succ] at hK
    go_simp
    exact hK _ _ h9 (gr_refl _ _)
  case done =>
    intro u w hS g
    have s0 : (u 0) = .pointer (some ⟨d, 0, none⟩) := hS 0 (by decide)
    have s1 : (u 1) = .pointer (some ⟨d, 0, none⟩) := hS 1 (by decide)
    have s2 : (u 2) = .pointer (some ⟨d, 0, none⟩) := hS 2 (by decide)
    have s3 : (u 3) = .string X := hS 3 (by decide)
    have s4 : (u 4) = .agg #[.string ⟨#[83, 73, 68]⟩, .string X] := hS 4 (by decide)
    have s5 : (u 5) = .int .u64 (n : Int) := hS 5 (by decide)
    have s6 : (u 6) = .string D := hS 6 (by decide)
    have s7 : (u 7) = .string T := hS 7 (by decide)
    have s8 : (u 8) = .agg #[.string ⟨#[84, 73, 77, 69, 79, 85, 84]⟩, .string T] := hS 8 (by decide)
    have s9 : FsAt w (u 9) (grantL x.sid n) := hS 9 (by decide)
    have s10 : (u 10) = .int .i64 200 := hS 10 (by decide)
    have s11 : FsAt w (u 11) (grantL x.sid n) := hS 11 (by decide)
    clear hS
    have HF := hid s11
    have H10 := hid s10
    have G := hid g
    clear s0 s1 s2 s3 s4 s5 s6 s7 s8 s9 s10 s11 g HT HL HX HDT HTD HDD HFS p0 hDs
    generalize u 0 = x0 at *
    generalize u 1 = x1 at *
    generalize u 2 = x2 at *
    generalize u 3 = x3 at *
    generalize u 4 = x4 at *
    generalize u 5 = x5 at *
    generalize u 6 = x6 at *
    generalize u 7 = x7 at *
    generalize u 8 = x8 at *
    generalize u 9 = x9 at *
    generalize u 10 = x10 at *
    generalize u 11 = x11 at *
    go_wp2_with fail
    ((try simp only [Exit.inBlock, Exit.then]); refine bodyPost_ret (results_tmp2 rfl _ _ _) rfl ?_)
    obtain rfl := H10.out
    exact ⟨_, rfl, HF.out, G.out⟩
end Go.Proofs.YtfceodbpkghkaaaGreatDoor
