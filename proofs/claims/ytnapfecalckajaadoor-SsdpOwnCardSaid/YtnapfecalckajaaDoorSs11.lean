/- hearthlaw23.ask, .great, .alike, .speaks; hearthref09.Plain. -/
import Derived.Test.YtnapfecalckajaaDoorSs10
import Derived.Test.YtnapfecalckajaaDoorSs9
import Derived.Test.YtnapfecalckajaaDoorReg5
namespace Go.Proofs.YtnapfecalckajaaDoor
open Go.RowKit

def askPre : List UInt8 := [77, 45, 83, 69, 65, 82, 67, 72, 32, 42, 32, 72, 84, 84, 80, 47, 49, 46, 49, 13, 10, 72, 79, 83, 84, 58, 32, 50, 51, 57, 46, 50, 53, 53, 46, 50, 53, 53, 46, 50, 53, 48, 58, 49, 57, 48, 48, 13, 10, 77, 65, 78, 58, 32, 34, 115, 115, 100, 112, 58, 100, 105, 115, 99, 111, 118, 101, 114, 34, 13, 10, 77, 88, 58, 32, 50, 13, 10, 83, 84, 58, 32]
theorem askT_eq (n : List UInt8) : askT n = (askPre ++ n) ++ crlf4 := by
  unfold askT askB askPre q0T q1T q2T q3T q4T; simp
set_option maxRecDepth 20000 in
set_option maxHeartbeats 1000000 in
theorem ask_any (n : ByteArray) (w : World) (hn : n.size ≤ 9000) :
    Calls Tryd.prog 12 #[.string n] w (TextPost w (askT n.data.toList)) := by
  obtain ⟨l, hl⟩ : ∃ l, n.data.toList = l := ⟨_, rfl⟩
  rw [hl]
  have hnl : n.size = l.length := by rw [← hl, ← Lib.size_eq]
  have hne : n = ⟨l.toArray⟩ := by rw [← hl]
  subst hne
  rw [hnl] at hn
  clear hl hnl
  have hsz : (((⟨#[77, 45, 83, 69, 65, 82, 67, 72, 32, 42, 32, 72, 84, 84, 80, 47, 49, 46, 49, 13, 10, 72, 79, 83, 84, 58, 32, 50, 51, 57, 46, 50, 53, 53, 46, 50, 53, 53, 46, 50, 53, 48, 58, 49, 57, 48, 48, 13, 10, 77, 65, 78, 58, 32, 34, 115, 115, 100, 112, 58, 100, 105, 115, 99, 111, 118, 101, 114, 34, 13, 10, 77, 88, 58, 32, 50, 13, 10, 83, 84, 58, 32]⟩ : ByteArray) ++ (⟨l.toArray⟩ : ByteArray)) ++ (⟨#[13, 10, 13, 10]⟩ : ByteArray)) = ⟨(askT l).toArray⟩ := by
    rw [askT_eq, ← ba_app2, ← ba_app2]; rfl
  have HSZ := hid hsz
  have HMX := hid (show (⟨(askT l).toArray⟩ : ByteArray).size ≤ maxLen by rw [Lib.size_eq]; show (askT l).length ≤ maxLen; rw [askB_len]; unfold maxLen; omega)
  have HLN := hid (show (askT l).length = 82 + l.length + 4 by rw [askB_len]; omega)
  clear hsz
  go_enter Tryd.func12, Tryd.ntmps12
  go_wp2_with (refine wpl_s2b rfl 9 29 5 _ rfl Tryd.underlying9 Tryd.underlying29 Tryd.underlying5 (((⟨#[77, 45, 83, 69, 65, 82, 67, 72, 32, 42, 32, 72, 84, 84, 80, 47, 49, 46, 49, 13, 10, 72, 79, 83, 84, 58, 32, 50, 51, 57, 46, 50, 53, 53, 46, 50, 53, 53, 46, 50, 53, 48, 58, 49, 57, 48, 48, 13, 10, 77, 65, 78, 58, 32, 34, 115, 115, 100, 112, 58, 100, 105, 115, 99, 111, 118, 101, 114, 34, 13, 10, 77, 88, 58, 32, 50, 13, 10, 83, 84, 58, 32]⟩ : ByteArray) ++ (⟨l.toArray⟩ : ByteArray)) ++ (⟨#[13, 10, 13, 10]⟩ : ByteArray)) rfl (by rw [HSZ.out]; exact HMX.out) ?_; intro g c w3 hg hrow g3)
  rw [HSZ.out] at hrow ⊢
  have HR := hid hrow
  have HG := hid hg
  have G3 := hid g3
  clear hrow hg g3
  go_wp2_with fail
  go_ret
  exact ⟨g, c, by rw [HLN.out]; rfl, HR.out, HG.out, G3.out⟩
def GreatPost (w : World) (u : ByteArray) (e : Ending) (w' : World) : Prop := ∃ b, e = .returned (.bool b) ∧ (b = false → u.size ≤ 300) ∧ w.grownBy w' none
theorem great_any (cs : Array Value) (u : ByteArray) (a : Option Addr) (fl fc : Nat) (w : World) (h27 : cs[27]? = some (.string u)) (h25 : cs[25]? = some (.slice a fl fc)) :
    Calls Tryd.prog 6 #[.agg cs] w (GreatPost w u) := by
  by_cases hu : u.size ≤ 300
  · have hd2 : (u.size : Int) ≤ 300 := by omega
    have HU := hid hu
    clear hu
    go_enter Tryd.func6, Tryd.ntmps6
    go_wp2
    go_ret
    exact ⟨_, rfl, fun _ => HU.out, World.grownBy_alloc w _ none⟩
  · have hd2 : ¬ (u.size : Int) ≤ 300 := by omega
    clear hu
    go_enter Tryd.func6, Tryd.ntmps6
    go_wp2
    go_ret
    exact ⟨true, rfl, (fun h => by cases h), World.grownBy_alloc w _ none⟩
set_option maxRecDepth 20000 in
set_option maxHeartbeats 4000000 in
theorem alike_any (L : List (List UInt8)) (va vb : Value) (vs : List Value) (n1 n2 n3 : Nat) (w : World) (ha : w.ownsRow n1 29 1 va L.length vs) (hr : RowsOk w n2 vs L) (hb : w.ownsRow n3 9 1 vb L.length (L.map str)) (hl : L.length ≤ 1000) :
    Calls Tryd.prog 8 #[va, vb] w fun e w' => e = .returned (.bool true) ∧ w.grownBy w' none := by
  obtain ⟨aa, ca, rfl, hca⟩ := row_shape ha
  obtain ⟨ab, cb, rfl, hcb⟩ := row_shape hb
  obtain ⟨n, hn⟩ : ∃ n, n = L.length := ⟨_, rfl⟩
  rw [← hn] at ha hb hca hcb hl ⊢
  have HN := hid hn
  have HA := hid ha
  have HB := hid hb
  have HR := hid hr
  clear hn ha hb hr
  go_enter Tryd.func8, Tryd.ntmps8
  go_wp2_with fail
  go_loopw [13] (fun vi wr => ∃ k : Nat, k ≤ n ∧ vi = .int .i64 (k : Int) ∧ w.grownBy wr none) (fun vi _ => n - (intOf vi).toNat)
  case atStart => exact ⟨0, Nat.zero_le _, rfl, gr_refl _ _⟩
  case round =>
    obtain ⟨k, hk, rfl, gw⟩ := hrel
    by_cases hlt : k < n
    · obtain ⟨x, hx⟩ : ∃ x, L[k]? = some x := ⟨_, List.getElem?_eq_getElem (by rw [← HN.out]; exact hlt)⟩
      obtain ⟨g8, c8, e8, hg8, r8⟩ := HR.out.2 k x hx
      obtain ⟨ga, ca', ea, -, -, hca'⟩ := own_cell HA.out (by omega)
      obtain ⟨gb, cb', eb, -, -, hcb'⟩ := own_cell HB.out (by omega)
      simp only [Value.slice.injEq] at ea eb
      obtain ⟨rfl, -, rfl⟩ := ea
      obtain ⟨rfl, -, rfl⟩ := eb
      have HCA0 := hca' k _ e8
      have HCB0 := hcb' k (str x) (by rw [List.getElem?_map, hx]; rfl)
      obtain ⟨w0, hw0⟩ : ∃ w0, w0 = wr := ⟨_, rfl⟩
      subst hw0
      have HCA := hid (gw.cell HCA0 (by simp))
      have HCB := hid (gw.cell HCB0 (by simp))
      have HR8 := hid (r8.keep gw (by simp))
      have G0 := hid gw
      have HK1 := hid (show (k : Int) < n by omega)
      have HK2 := hid hlt
      clear hca' hcb' HCA0 HCB0 r8 e8 hx gw hg8
      unfold str at HCB
      go_wp2_with fail
      refine wp_region_spec2 (by kernel_rfl) (by kernel_rfl) (n := 10) (by kernel_rfl) [some 16, some 17, some 18, some 19, some 20, some 21, some 22, some 23, some 24, some 25] (by kernel_rfl) _ (fun u => (by simp only [fill, List.zipIdx_cons, List.zipIdx_nil, List.foldl_cons, List.foldl_nil, Act.put, List.setIfInBounds_toArray, List.set_cons_zero, List.set_cons_succ, Nat.zero_add, Nat.reduceAdd]; exact rfl)) (by kernel_rfl)
        (all_succ (all_succ (all_succ (all_succ (all_succ (all_succ (all_succ (all_succ (all_succ (all_succ (all_zero _) (fun u v => by kernel_rfl)) (fun u v => by kernel_rfl)) (fun u v => by kernel_rfl)) (fun u v => by kernel_rfl)) (fun u v => by kernel_rfl)) (fun u v => by kernel_rfl)) (fun u v => by kernel_rfl)) (fun u v => by kernel_rfl)) (fun u v => by kernel_rfl)) (fun u v => by kernel_rfl))
        (fun ri v w => match ri with | 0 => v = .slice (some ⟨ga, 0, none⟩) n ca | 1 => v = .int .i64 (k : Int) | 2 => v = .pointer (some ⟨ga, k, none⟩) | 3 => v = .slice (some ⟨g8, 0, none⟩) x.length c8 | 4 => v = .string ⟨x.toArray⟩ | 5 => v = .slice (some ⟨gb, 0, none⟩) n cb | 6 => v = .int .i64 (k : Int) | 7 => v = .pointer (some ⟨gb, k, none⟩) | 8 => v = .string ⟨x.toArray⟩ | 9 => v = .bool false | _ => True)
        (all_succ (all_succ (all_succ (all_succ (all_succ (all_succ (all_succ (all_succ (all_succ (all_succ (all_zero _) ?m0) ?m1) ?m2) ?m3) ?m4) ?m5) ?m6) ?m7) ?m8) ?m9)
        [[], [], [0, 1], [2], [3], [], [], [5, 6], [7], [4, 8]] (by kernel_rfl)
        ⟨?o0, ?o1, ?o2, ?o3, ?o4, ?o5, ?o6, ?o7, ?o8, ?o9, trivial⟩ ?done
      case m0 => intro v w w' h g; exact h
      case m1 => intro v w w' h g; exact h
      case m2 => intro v w w' h g; exact h
      case m3 => intro v w w' h g; exact h
      case m4 => intro v w w' h g; exact h
      case m5 => intro v w w' h g; exact h
      case m6 => intro v w w' h g; exact h
      case m7 => intro v w w' h g; exact h
      case m8 => intro v w w' h g; exact h
      case m9 => intro v w w' h g; exact h
      case o0 =>
        intro u w g hd K hK
        clear hd
        simp only [Act.put, List.setIfInBounds_toArray, List.set_cons_zero, List.set_cons_succ] at hK
        go_simp
        exact hK _ _ rfl (gr_refl _ _)
      case o1 =>
        intro u w g hd K hK
        clear hd
        simp only [Act.put, List.setIfInBounds_toArray, List.set_cons_zero, List.set_cons_succ] at hK
        go_simp
        exact hK _ _ rfl (gr_refl _ _)
      case o2 =>
        intro u w g hd K hK
        have h0 : (u 0) = .slice (some ⟨ga, 0, none⟩) n ca := hd 0 (by simp)
        have h1 : (u 1) = .int .i64 (k : Int) := hd 1 (by simp)
        clear hd
        simp only [Act.put, List.setIfInBounds_toArray, List.set_cons_zero, List.set_cons_succ] at hK
        have k1 := HK1.out
        have k2 := HK2.out
        simp only [h0, h1] at hK ⊢
        go_simp
        exact hK _ _ rfl (gr_refl _ _)
      case o3 =>
        intro u w g hd K hK
        have h2 : (u 2) = .pointer (some ⟨ga, k, none⟩) := hd 2 (by simp)
        clear hd
        simp only [Act.put, List.setIfInBounds_toArray, List.set_cons_zero, List.set_cons_succ] at hK
        have c' := g.cell HCA.out (by simp)
        simp only [h2] at hK ⊢
        go_simp
        exact hK _ _ rfl (gr_refl _ _)
      case o4 =>
        intro u w g hd K hK
        have h3 : (u 3) = .slice (some ⟨g8, 0, none⟩) x.length c8 := hd 3 (by simp)
        clear hd
        simp only [Act.put, List.setIfInBounds_toArray, List.set_cons_zero, List.set_cons_succ] at hK
        simp only [h3] at hK ⊢
        go_simp
        rw [run_b2s (l := x) Tryd.underlying29 Tryd.underlying5 Tryd.underlying9 (v := .slice (some ⟨g8, 0, none⟩) x.length c8) ((HR8.out.keep g (by simp)).bytes)]
        unfold str
        go_simp
        exact hK _ _ rfl (gr_refl _ _)
      case o5 =>
        intro u w g hd K hK
        clear hd
        simp only [Act.put, List.setIfInBounds_toArray, List.set_cons_zero, List.set_cons_succ] at hK
        go_simp
        exact hK _ _ rfl (gr_refl _ _)
      case o6 =>
        intro u w g hd K hK
        clear hd
        simp only [Act.put, List.setIfInBounds_toArray, List.set_cons_zero, List.set_cons_succ] at hK
        go_simp
        exact hK _ _ rfl (gr_refl _ _)
      case o7 =>
        intro u w g hd K hK
        have h5 : (u 5) = .slice (some ⟨gb, 0, none⟩) n cb := hd 5 (by simp)
        have h6 : (u 6) = .int .i64 (k : Int) := hd 6 (by simp)
        clear hd
        simp only [Act.put, List.setIfInBounds_toArray, List.set_cons_zero, List.set_cons_succ] at hK
        have k1 := HK1.out
        have k2 := HK2.out
        simp only [h5, h6] at hK ⊢
        go_simp
        exact hK _ _ rfl (gr_refl _ _)
      case o8 =>
        intro u w g hd K hK
        have h7 : (u 7) = .pointer (some ⟨gb, k, none⟩) := hd 7 (by simp)
        clear hd
        simp only [Act.put, List.setIfInBounds_toArray, List.set_cons_zero, List.set_cons_succ] at hK
        have c' := g.cell HCB.out (by simp)
        simp only [h7] at hK ⊢
        go_simp
        exact hK _ _ rfl (gr_refl _ _)
      case o9 =>
        intro u w g hd K hK
        have h4 : (u 4) = .string ⟨x.toArray⟩ := hd 4 (by simp)
        have h8 : (u 8) = .string ⟨x.toArray⟩ := hd 8 (by simp)
        clear hd
        simp only [Act.put, List.setIfInBounds_toArray, List.set_cons_zero, List.set_cons_succ] at hK
        simp only [h4, h8] at hK ⊢
        go_simp
        exact hK _ _ (by simp) (gr_refl _ _)
      case done =>
        intro u w hS g
        have s0 : (u 0) = .slice (some ⟨ga, 0, none⟩) n ca := hS 0 (by decide)
        have s1 : (u 1) = .int .i64 (k : Int) := hS 1 (by decide)
        have s2 : (u 2) = .pointer (some ⟨ga, k, none⟩) := hS 2 (by decide)
        have s3 : (u 3) = .slice (some ⟨g8, 0, none⟩) x.length c8 := hS 3 (by decide)
        have s4 : (u 4) = .string ⟨x.toArray⟩ := hS 4 (by decide)
        have s5 : (u 5) = .slice (some ⟨gb, 0, none⟩) n cb := hS 5 (by decide)
        have s6 : (u 6) = .int .i64 (k : Int) := hS 6 (by decide)
        have s7 : (u 7) = .pointer (some ⟨gb, k, none⟩) := hS 7 (by decide)
        have s8 : (u 8) = .string ⟨x.toArray⟩ := hS 8 (by decide)
        have s9 : (u 9) = .bool false := hS 9 (by decide)
        clear hS
        rw [s9]
        have GW := hid (gr_trans G0.out g)
        clear s0 s1 s2 s3 s4 s5 s6 s7 s8 s9 g
        generalize u 0 = x0, u 1 = x1, u 2 = x2, u 3 = x3, u 4 = x4, u 5 = x5, u 6 = x6, u 7 = x7, u 8 = x8
        go_wp2_with fail
        go_roundw
        case rel => exact ⟨k + 1, by omega, by go_num, GW.out⟩
        case measure => simp [intOf]; omega
    · obtain rfl : k = n := by omega
      go_wp2
      go_ret
      exact ⟨rfl, gw⟩
end Go.Proofs.YtnapfecalckajaaDoor
