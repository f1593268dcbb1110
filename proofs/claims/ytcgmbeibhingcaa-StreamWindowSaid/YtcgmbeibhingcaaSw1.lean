/- (*stream.Conn).Send of bytes. -/
import Derived.Test.YtcgmbeibhingcaaStr4
import Derived.Test.YtcgmbeibhingcaaSr1
import Derived.Test.YtcgmbeibhingcaaApN
import Derived.Test.YtcgmbeibhingcaaReg3
namespace Go.Proofs.Ytcgmbeibhingcaa
open Go.RowKit

def SendPost (w : World) (b : Nat) (c : Cn) (l : List UInt8) (n : Nat) (e : Ending) (w' : World) : Prop := ∃ v, e = .returned (.int .i64 n) ∧ Own8 w' w.heap.size v (l.take n) ∧ ConnAt w' b { c with out := v, tail := 1 + (n : Int) } ∧ w.grownBy w' (some b)
theorem Own8.kept2 {w w' : World} {base b : Nat} {v : Value} {l : List UInt8} (h : Own8 w base v l) (g : w.grownBy w' (some b)) (hb : b < base) : Own8 w' base v l := by
  refine ⟨h.1, ?_⟩
  rcases h.2 with h0 | ⟨k, cap, cur, rfl, hk, hh, r⟩
  · exact .inl h0
  · exact .inr ⟨k, cap, cur, rfl, hk, gr_keep g hh (by simp; omega), r⟩
set_option maxRecDepth 20000 in
set_option maxHeartbeats 2000000 in
theorem send_data (b : Nat) (c : Cn) (l : List UInt8) (da : Option Addr) (dc n : Nat) (w : World) (h : ConnAt w b c) (hp : c.phase = 1) (hcl : c.closing = false) (ho : c.out = .slice none 0 0) (ht : c.tail = 1) (hb : Bytes w (.slice da l.length dc) l) (hl : l.length ≤ 9000) (hn : n = min l.length 8192) :
    Calls Try.prog 12 #[.pointer (some ⟨b, 0, none⟩), .slice da l.length dc] w (SendPost w b c l n) := by
  have h8 := h.all.c8
  have h9 := h.all.c9
  have h10 := h.all.c10
  rw [ho] at h8
  rw [ht] at h9
  rw [hcl] at h10
  have f8 := h.free 8
  have f9 := h.free 9
  have hlt := h.lt
  have hov : overB c = false := by unfold overB; rw [hp]; rfl
  have HOV := over_any b c w h
  rw [hov] at HOV
  have HV := hid HOV
  have HC := hid h
  have hcb := hb.at
  have hdc : dc ≤ 9223372036854775807 := hcb.2.2.1
  have hnl : n ≤ l.length := by omega
  have HP := hid (show Bytes w (.slice da n dc) (l.take n) by
    obtain ⟨a', c', e, h1, h2, h3⟩ := hb
    simp only [Value.slice.injEq] at e
    obtain ⟨rfl, -, rfl⟩ := e
    have hlen : (l.take n).length = n := by simp; omega
    refine ⟨da, dc, by rw [hlen], by omega, h2, fun hne => ?_⟩
    obtain ⟨bb, oo, rfl, hc⟩ := h3 (by intro e; subst e; simp at hne)
    refine ⟨bb, oo, rfl, fun i hi => ?_⟩
    rw [hlen] at hi
    rw [hc i (by omega)]
    simp [List.getD_eq_getElem?_getD, hi])
  have hni : min (l.length : Int) 8192 = (n : Int) := by omega
  have hnd : (n : Int) ≤ (dc : Int) := by have := hcb.2.1; omega
  have hld : (l.length : Int) ≤ (dc : Int) := by have := hcb.2.1; omega
  have HN := hid hn
  have k8 := h8
  clear HOV hov h hb hcb hn
  go_enter Try.func12, Try.ntmps12
  go_wp2_with fail
  refine HV.out.mono ?_
  rintro e w' ⟨rfl, rfl⟩
  obtain ⟨w1, hw1⟩ : ∃ x, x = w := ⟨_, rfl⟩
  rw [← hw1] at HC HP k8 h8 h9 h10 f8 f9 hlt ⊢
  have HW1 := hid hw1
  clear HV hw1
  by_cases hbig : 8192 < l.length
  · have hn8 : (8192 : Int) = (n : Int) := by have := HN.out; omega
    have HN8 := hid hn8
    have hb1 : (8192 : Int) < (l.length : Int) := by omega
    clear hbig hn8
    go_wp2_with fail
    rw [HN8.out]
    refine wp_region_spec3 10 99 none (by kernel_rfl) (by kernel_rfl) (by kernel_rfl) (by kernel_rfl) (by kernel_rfl) (by kernel_rfl) [some 23, some 24, some 25, some 26, some 27, some 28, some 29, some 30, some 31, some 32] (by kernel_rfl) _ (fun u => (by simp only [fill, List.zipIdx_cons, List.zipIdx_nil, List.foldl_cons, List.foldl_nil, Act.put, List.setIfInBounds_toArray, List.set_cons_zero, List.set_cons_succ, Nat.zero_add, Nat.reduceAdd]; exact rfl)) (by kernel_rfl)
      (all_succ (all_succ (all_succ (all_succ (all_succ (all_succ (all_succ (all_succ (all_succ (all_succ (all_zero _) (fun u v => by kernel_rfl)) (fun u v => by kernel_rfl)) (fun u v => by kernel_rfl)) (fun u v => by kernel_rfl)) (fun u v => by kernel_rfl)) (fun u v => by kernel_rfl)) (fun u v => by kernel_rfl)) (fun u v => by kernel_rfl)) (fun u v => by kernel_rfl)) (fun u v => by kernel_rfl))
      (fun ri v w => match ri with | 0 => v = .pointer (some ⟨b, 0, none⟩) | 1 => v = .pointer (some ⟨b, 0, none⟩) | 2 => v = .pointer (some ⟨b, 0, none⟩) | 3 => v = .pointer (some ⟨b, 8, none⟩) | 4 => v = .slice none 0 0 | 5 => v = .slice none 0 0 | 6 => v = .slice da l.length dc | 7 => v = .int .i64 (n : Int) | 8 => v = .slice da n dc | 9 => Own8 w w1.heap.size v (l.take n) | _ => True)
      (all_succ (all_succ (all_succ (all_succ (all_succ (all_succ (all_succ (all_succ (all_succ (all_succ (all_zero _) ?m0) ?m1) ?m2) ?m3) ?m4) ?m5) ?m6) ?m7) ?m8) ?m9)
      [[], [], [1], [2], [3], [4], [], [], [6, 7], [5, 8]] (by kernel_rfl)
      ⟨?o0, ?o1, ?o2, ?o3, ?o4, ?o5, ?o6, ?o7, ?o8, ?o9, trivial⟩ ?done
    case m0 => intro v w w' h g; first | exact h | exact Own8.keep h g
    case m1 => intro v w w' h g; first | exact h | exact Own8.keep h g
    case m2 => intro v w w' h g; first | exact h | exact Own8.keep h g
    case m3 => intro v w w' h g; first | exact h | exact Own8.keep h g
    case m4 => intro v w w' h g; first | exact h | exact Own8.keep h g
    case m5 => intro v w w' h g; first | exact h | exact Own8.keep h g
    case m6 => intro v w w' h g; first | exact h | exact Own8.keep h g
    case m7 => intro v w w' h g; first | exact h | exact Own8.keep h g
    case m8 => intro v w w' h g; first | exact h | exact Own8.keep h g
    case m9 => intro v w w' h g; first | exact h | exact Own8.keep h g
    case o0 =>
      intro u w g hd K hK
      replace g : w1.grownBy w (none) := g
      clear hd
      simp only [Act.put, List.setIfInBounds_toArray, List.set_cons_zero, List.set_cons_succ] at hK
      go_simp
      exact hK _ _ rfl (gr_refl _ _)
    case o1 =>
      intro u w g hd K hK
      replace g : w1.grownBy w (none) := g
      clear hd
      simp only [Act.put, List.setIfInBounds_toArray, List.set_cons_zero, List.set_cons_succ] at hK
      go_simp
      exact hK _ _ rfl (gr_refl _ _)
    case o2 =>
      intro u w g hd K hK
      replace g : w1.grownBy w (none) := g
      have h1 : (u 1) = .pointer (some ⟨b, 0, none⟩) := hd 1 (by simp)
      clear hd
      simp only [Act.put, List.setIfInBounds_toArray, List.set_cons_zero, List.set_cons_succ] at hK
      simp only [h1] at hK ⊢
      go_simp
      exact hK _ _ rfl (gr_refl _ _)
    case o3 =>
      intro u w g hd K hK
      replace g : w1.grownBy w (none) := g
      have h2 : (u 2) = .pointer (some ⟨b, 0, none⟩) := hd 2 (by simp)
      clear hd
      simp only [Act.put, List.setIfInBounds_toArray, List.set_cons_zero, List.set_cons_succ] at hK
      simp only [h2] at hK ⊢
      go_simp
      exact hK _ _ rfl (gr_refl _ _)
    case o4 =>
      intro u w g hd K hK
      replace g : w1.grownBy w (none) := g
      have h3 : (u 3) = .pointer (some ⟨b, 8, none⟩) := hd 3 (by simp)
      clear hd
      simp only [Act.put, List.setIfInBounds_toArray, List.set_cons_zero, List.set_cons_succ] at hK
      have c := g.cell k8 (by simp)
      simp only [h3] at hK ⊢
      go_simp
      exact hK _ _ rfl (gr_refl _ _)
    case o5 =>
      intro u w g hd K hK
      replace g : w1.grownBy w (none) := g
      have h4 : (u 4) = .slice none 0 0 := hd 4 (by simp)
      clear hd
      simp only [Act.put, List.setIfInBounds_toArray, List.set_cons_zero, List.set_cons_succ] at hK
      simp only [h4] at hK ⊢
      go_simp
      refine (clone_nil w).mono ?_
      rintro e w' ⟨rfl, rfl⟩
      exact hK _ _ rfl (gr_refl _ _)
    case o6 =>
      intro u w g hd K hK
      replace g : w1.grownBy w (none) := g
      clear hd
      simp only [Act.put, List.setIfInBounds_toArray, List.set_cons_zero, List.set_cons_succ] at hK
      go_simp
      exact hK _ _ rfl (gr_refl _ _)
    case o7 =>
      intro u w g hd K hK
      replace g : w1.grownBy w (none) := g
      clear hd
      simp only [Act.put, List.setIfInBounds_toArray, List.set_cons_zero, List.set_cons_succ] at hK
      go_simp
      exact hK _ _ rfl (gr_refl _ _)
    case o8 =>
      intro u w g hd K hK
      replace g : w1.grownBy w (none) := g
      have h6 : (u 6) = .slice da l.length dc := hd 6 (by simp)
      have h7 : (u 7) = .int .i64 (n : Int) := hd 7 (by simp)
      clear hd
      simp only [Act.put, List.setIfInBounds_toArray, List.set_cons_zero, List.set_cons_succ] at hK
      simp only [h6, h7] at hK ⊢
      go_simp
      exact hK _ _ rfl (gr_refl _ _)
    case o9 =>
      intro u w g hd K hK
      replace g : w1.grownBy w (none) := g
      have h5 : (u 5) = .slice none 0 0 := hd 5 (by simp)
      have h8 : (u 8) = .slice da n dc := hd 8 (by simp)
      clear hd
      simp only [Act.put, List.setIfInBounds_toArray, List.set_cons_zero, List.set_cons_succ] at hK
      have hown0 : Own8 w w1.heap.size (.slice none 0 0) [] := ⟨rfl, .inl ⟨rfl, rfl⟩⟩
      simp only [h5, h8] at hK ⊢
      split
      rotate_left
      · rename_i hno; exact absurd rfl hno
      refine wp_app8 (.tmp 28) (.tmp 31) rfl (v := .slice none 0 0) (vx := .slice da n dc) (by rfl) (by rfl) hown0 (HP.out.grown g) (by simp; omega) g.size ?_
      intro v' w' q2 q3
      rw [List.nil_append] at q2
      exact hK v' w' q2 q3
    case done =>
      intro u w hS g
      have s0 : (u 0) = .pointer (some ⟨b, 0, none⟩) := hS 0 (by decide)
      have s1 : (u 1) = .pointer (some ⟨b, 0, none⟩) := hS 1 (by decide)
      have s2 : (u 2) = .pointer (some ⟨b, 0, none⟩) := hS 2 (by decide)
      have s3 : (u 3) = .pointer (some ⟨b, 8, none⟩) := hS 3 (by decide)
      have s4 : (u 4) = .slice none 0 0 := hS 4 (by decide)
      have s5 : (u 5) = .slice none 0 0 := hS 5 (by decide)
      have s6 : (u 6) = .slice da l.length dc := hS 6 (by decide)
      have s7 : (u 7) = .int .i64 (n : Int) := hS 7 (by decide)
      have s8 : (u 8) = .slice da n dc := hS 8 (by decide)
      have s9 : Own8 w w1.heap.size (u 9) (l.take n) := hS 9 (by decide)
      clear hS
      replace g : w1.grownBy w none := g
      change wpList _ _ _ [_, _, _] _ _
      rw [s0]
      have HC2 := HC.out.keep g (by simp)
      have hown := s9
      have hv9 := s9
      obtain ⟨w2, hw2⟩ : ∃ x, x = w := ⟨_, rfl⟩
      rw [← hw2] at HC2 hown g ⊢
      clear hw2 hv9
      have HO := hid hown
      have GT := hid g
      have H2 := hid HC2
      have k9 := HC2.all.c9
      have k8 := HC2.all.c8
      rw [ht] at k9
      rw [ho] at k8
      have f8 := HC2.free 8
      have f9 := HC2.free 9
      have hlt := HC2.lt
      have hlen : (l.take n).length = n := by simp; omega
      obtain ⟨a2, c2, hv2, z1, z2, -⟩ := hown.bytes
      rw [hlen] at hv2 z1
      rw [hv2] at HO ⊢
      have z2' : c2 ≤ 9223372036854775807 := z2
      clear s0 s1 s2 s3 s4 s5 s6 s7 s8 s9 g HC2 hown hv2
      have hts : IntKind.u32.wrap (1 + (n : Int)) = 1 + (n : Int) := IntWalk.u32_in _ (by omega)
      have hts2 : IntKind.u32.wrap (n : Int) = (n : Int) := IntWalk.u32_in _ (by omega)
      have HLT := hid HC.out.lt
      go_wp2
      go_ret
      rw [← HW1.out]
      have gs : w2.grownBy ((w2.setCell ⟨b, 8, none⟩ (.slice a2 n c2)).setCell ⟨b, 9, none⟩ (.int .u32 (1 + (n : Int)))) (some b) := gr_set (gr_set (gr_refl w2 (some b)))
      exact ⟨.slice a2 n c2, rfl, Own8.kept2 HO.out gs HLT.out, heap_set (heap_set H2.out), gr_trans (gr_none GT.out) gs⟩
  · have hn8 : ((l.length : Nat) : Int) = (n : Int) := by have := HN.out; omega
    have HN8 := hid hn8
    have hb1 : ¬ (8192 : Int) < (l.length : Int) := by omega
    clear hbig hn8
    go_wp2_with fail
    rw [HN8.out]
    refine wp_region_spec3 10 99 none (by kernel_rfl) (by kernel_rfl) (by kernel_rfl) (by kernel_rfl) (by kernel_rfl) (by kernel_rfl) [some 23, some 24, some 25, some 26, some 27, some 28, some 29, some 30, some 31, some 32] (by kernel_rfl) _ (fun u => (by simp only [fill, List.zipIdx_cons, List.zipIdx_nil, List.foldl_cons, List.foldl_nil, Act.put, List.setIfInBounds_toArray, List.set_cons_zero, List.set_cons_succ, Nat.zero_add, Nat.reduceAdd]; exact rfl)) (by kernel_rfl)
      (all_succ (all_succ (all_succ (all_succ (all_succ (all_succ (all_succ (all_succ (all_succ (all_succ (all_zero _) (fun u v => by kernel_rfl)) (fun u v => by kernel_rfl)) (fun u v => by kernel_rfl)) (fun u v => by kernel_rfl)) (fun u v => by kernel_rfl)) (fun u v => by kernel_rfl)) (fun u v => by kernel_rfl)) (fun u v => by kernel_rfl)) (fun u v => by kernel_rfl)) (fun u v => by kernel_rfl))
      (fun ri v w => match ri with | 0 => v = .pointer (some ⟨b, 0, none⟩) | 1 => v = .pointer (some ⟨b, 0, none⟩) | 2 => v = .pointer (some ⟨b, 0, none⟩) | 3 => v = .pointer (some ⟨b, 8, none⟩) | 4 => v = .slice none 0 0 | 5 => v = .slice none 0 0 | 6 => v = .slice da l.length dc | 7 => v = .int .i64 (n : Int) | 8 => v = .slice da n dc | 9 => Own8 w w1.heap.size v (l.take n) | _ => True)
      (all_succ (all_succ (all_succ (all_succ (all_succ (all_succ (all_succ (all_succ (all_succ (all_succ (all_zero _) ?m0) ?m1) ?m2) ?m3) ?m4) ?m5) ?m6) ?m7) ?m8) ?m9)
      [[], [], [1], [2], [3], [4], [], [], [6, 7], [5, 8]] (by kernel_rfl)
      ⟨?o0, ?o1, ?o2, ?o3, ?o4, ?o5, ?o6, ?o7, ?o8, ?o9, trivial⟩ ?done
    case m0 => intro v w w' h g; first | exact h | exact Own8.keep h g
    case m1 => intro v w w' h g; first | exact h | exact Own8.keep h g
    case m2 => intro v w w' h g; first | exact h | exact Own8.keep h g
    case m3 => intro v w w' h g; first | exact h | exact Own8.keep h g
    case m4 => intro v w w' h g; first | exact h | exact Own8.keep h g
    case m5 => intro v w w' h g; first | exact h | exact Own8.keep h g
    case m6 => intro v w w' h g; first | exact h | exact Own8.keep h g
    case m7 => intro v w w' h g; first | exact h | exact Own8.keep h g
    case m8 => intro v w w' h g; first | exact h | exact Own8.keep h g
    case m9 => intro v w w' h g; first | exact h | exact Own8.keep h g
    case o0 =>
      intro u w g hd K hK
      replace g : w1.grownBy w (none) := g
      clear hd
      simp only [Act.put, List.setIfInBounds_toArray, List.set_cons_zero, List.set_cons_succ] at hK
      go_simp
      exact hK _ _ rfl (gr_refl _ _)
    case o1 =>
      intro u w g hd K hK
      replace g : w1.grownBy w (none) := g
      clear hd
      simp only [Act.put, List.setIfInBounds_toArray, List.set_cons_zero, List.set_cons_succ] at hK
      go_simp
      exact hK _ _ rfl (gr_refl _ _)
    case o2 =>
      intro u w g hd K hK
      replace g : w1.grownBy w (none) := g
      have h1 : (u 1) = .pointer (some ⟨b, 0, none⟩) := hd 1 (by simp)
      clear hd
      simp only [Act.put, List.setIfInBounds_toArray, List.set_cons_zero, List.set_cons_succ] at hK
      simp only [h1] at hK ⊢
      go_simp
      exact hK _ _ rfl (gr_refl _ _)
    case o3 =>
      intro u w g hd K hK
      replace g : w1.grownBy w (none) := g
      have h2 : (u 2) = .pointer (some ⟨b, 0, none⟩) := hd 2 (by simp)
      clear hd
      simp only [Act.put, List.setIfInBounds_toArray, List.set_cons_zero, List.set_cons_succ] at hK
      simp only [h2] at hK ⊢
      go_simp
      exact hK _ _ rfl (gr_refl _ _)
    case o4 =>
      intro u w g hd K hK
      replace g : w1.grownBy w (none) := g
      have h3 : (u 3) = .pointer (some ⟨b, 8, none⟩) := hd 3 (by simp)
      clear hd
      simp only [Act.put, List.setIfInBounds_toArray, List.set_cons_zero, List.set_cons_succ] at hK
      have c := g.cell k8 (by simp)
      simp only [h3] at hK ⊢
      go_simp
      exact hK _ _ rfl (gr_refl _ _)
    case o5 =>
      intro u w g hd K hK
      replace g : w1.grownBy w (none) := g
      have h4 : (u 4) = .slice none 0 0 := hd 4 (by simp)
      clear hd
      simp only [Act.put, List.setIfInBounds_toArray, List.set_cons_zero, List.set_cons_succ] at hK
      simp only [h4] at hK ⊢
      go_simp
      refine (clone_nil w).mono ?_
      rintro e w' ⟨rfl, rfl⟩
      exact hK _ _ rfl (gr_refl _ _)
    case o6 =>
      intro u w g hd K hK
      replace g : w1.grownBy w (none) := g
      clear hd
      simp only [Act.put, List.setIfInBounds_toArray, List.set_cons_zero, List.set_cons_succ] at hK
      go_simp
      exact hK _ _ rfl (gr_refl _ _)
    case o7 =>
      intro u w g hd K hK
      replace g : w1.grownBy w (none) := g
      clear hd
      simp only [Act.put, List.setIfInBounds_toArray, List.set_cons_zero, List.set_cons_succ] at hK
      go_simp
      exact hK _ _ rfl (gr_refl _ _)
    case o8 =>
      intro u w g hd K hK
      replace g : w1.grownBy w (none) := g
      have h6 : (u 6) = .slice da l.length dc := hd 6 (by simp)
      have h7 : (u 7) = .int .i64 (n : Int) := hd 7 (by simp)
      clear hd
      simp only [Act.put, List.setIfInBounds_toArray, List.set_cons_zero, List.set_cons_succ] at hK
      simp only [h6, h7] at hK ⊢
      go_simp
      exact hK _ _ rfl (gr_refl _ _)
    case o9 =>
      intro u w g hd K hK
      replace g : w1.grownBy w (none) := g
      have h5 : (u 5) = .slice none 0 0 := hd 5 (by simp)
      have h8 : (u 8) = .slice da n dc := hd 8 (by simp)
      clear hd
      simp only [Act.put, List.setIfInBounds_toArray, List.set_cons_zero, List.set_cons_succ] at hK
      have hown0 : Own8 w w1.heap.size (.slice none 0 0) [] := ⟨rfl, .inl ⟨rfl, rfl⟩⟩
      simp only [h5, h8] at hK ⊢
      split
      rotate_left
      · rename_i hno; exact absurd rfl hno
      refine wp_app8 (.tmp 28) (.tmp 31) rfl (v := .slice none 0 0) (vx := .slice da n dc) (by rfl) (by rfl) hown0 (HP.out.grown g) (by simp; omega) g.size ?_
      intro v' w' q2 q3
      rw [List.nil_append] at q2
      exact hK v' w' q2 q3
    case done =>
      intro u w hS g
      have s0 : (u 0) = .pointer (some ⟨b, 0, none⟩) := hS 0 (by decide)
      have s1 : (u 1) = .pointer (some ⟨b, 0, none⟩) := hS 1 (by decide)
      have s2 : (u 2) = .pointer (some ⟨b, 0, none⟩) := hS 2 (by decide)
      have s3 : (u 3) = .pointer (some ⟨b, 8, none⟩) := hS 3 (by decide)
      have s4 : (u 4) = .slice none 0 0 := hS 4 (by decide)
      have s5 : (u 5) = .slice none 0 0 := hS 5 (by decide)
      have s6 : (u 6) = .slice da l.length dc := hS 6 (by decide)
      have s7 : (u 7) = .int .i64 (n : Int) := hS 7 (by decide)
      have s8 : (u 8) = .slice da n dc := hS 8 (by decide)
      have s9 : Own8 w w1.heap.size (u 9) (l.take n) := hS 9 (by decide)
      clear hS
      replace g : w1.grownBy w none := g
      change wpList _ _ _ [_, _, _] _ _
      rw [s0]
      have HC2 := HC.out.keep g (by simp)
      have hown := s9
      have hv9 := s9
      obtain ⟨w2, hw2⟩ : ∃ x, x = w := ⟨_, rfl⟩
      rw [← hw2] at HC2 hown g ⊢
      clear hw2 hv9
      have HO := hid hown
      have GT := hid g
      have H2 := hid HC2
      have k9 := HC2.all.c9
      have k8 := HC2.all.c8
      rw [ht] at k9
      rw [ho] at k8
      have f8 := HC2.free 8
      have f9 := HC2.free 9
      have hlt := HC2.lt
      have hlen : (l.take n).length = n := by simp; omega
      obtain ⟨a2, c2, hv2, z1, z2, -⟩ := hown.bytes
      rw [hlen] at hv2 z1
      rw [hv2] at HO ⊢
      have z2' : c2 ≤ 9223372036854775807 := z2
      clear s0 s1 s2 s3 s4 s5 s6 s7 s8 s9 g HC2 hown hv2
      have hts : IntKind.u32.wrap (1 + (n : Int)) = 1 + (n : Int) := IntWalk.u32_in _ (by omega)
      have hts2 : IntKind.u32.wrap (n : Int) = (n : Int) := IntWalk.u32_in _ (by omega)
      have HLT := hid HC.out.lt
      go_wp2
      go_ret
      rw [← HW1.out]
      have gs : w2.grownBy ((w2.setCell ⟨b, 8, none⟩ (.slice a2 n c2)).setCell ⟨b, 9, none⟩ (.int .u32 (1 + (n : Int)))) (some b) := gr_set (gr_set (gr_refl w2 (some b)))
      exact ⟨.slice a2 n c2, rfl, Own8.kept2 HO.out gs HLT.out, heap_set (heap_set H2.out), gr_trans (gr_none GT.out) gs⟩
end Go.Proofs.Ytcgmbeibhingcaa
