/- The walk of HeadValues. -/
import Derived.Test.YtdfhdnnkpeodhaaDoorHead10
namespace Go.Proofs.YtdfhdnnkpeodhaaDoor
open Go.RowKit

theorem low_low : ∀ c, lowC (lowC c) = lowC c := all_bytes (by decide +kernel)
theorem lowL_low (l : List UInt8) : lowL (lowL l) = lowL l := by
  unfold lowL; rw [List.map_map]; congr 1; funext c; exact low_low c
set_option maxHeartbeats 2000000 in
theorem head_values_walk (a : Option Addr) (len cap : Nat) (ns vs : Nat → ByteArray) (s t : ByteArray) (w : World) (h : PairsAt w a len ns vs) (hlen : len ≤ 9223372036854775807) (hs : s.size ≤ 9223372036854775807) (ht : t.size ≤ 9223372036854775807) :
    Calls Tryd.prog 4 #[.slice a len cap, .string s, .string t] w fun e w' => e = .returned (.bool true) ∧ w.grownBy w' none := by
  by_cases h1 : 200 < len
  · go_enter Tryd.func4, Tryd.ntmps4
    go_wp2_with fail
    refine (speaks_true w).mono ?_
    rintro e w1 ⟨rfl, g1⟩
    go_wp2
    go_ret
    exact ⟨rfl, g1⟩
  have h1' : len ≤ 200 := by omega
  clear h1
  by_cases h2 : 1000 < s.size
  · go_enter Tryd.func4, Tryd.ntmps4
    go_wp2_with fail
    refine (speaks_true w).mono ?_
    rintro e w1 ⟨rfl, g1⟩
    go_wp2
    go_ret
    exact ⟨rfl, g1⟩
  have h2' : s.size ≤ 1000 := by omega
  clear h2
  by_cases h3 : 1000 < t.size
  · go_enter Tryd.func4, Tryd.ntmps4
    go_wp2_with fail
    refine (speaks_true w).mono ?_
    rintro e w1 ⟨rfl, g1⟩
    go_wp2
    go_ret
    exact ⟨rfl, g1⟩
  have h3' : t.size ≤ 1000 := by omega
  clear h3
  generalize hx : getN ns vs s len = xs
  have X := hid hx
  clear hx
  go_enter Tryd.func4, Tryd.ntmps4
  go_wp2_with fail
  refine (speaks_true w).mono ?_
  rintro e w1 ⟨rfl, g1⟩
  go_wp2_with fail
  refine (get_any w1 a len cap ns vs s (h.grown g1) h1').mono ?_
  rw [X.out]
  rintro e w2 ⟨v1, rfl, o1, g2⟩
  have G2 := gr_trans g1 g2
  obtain ⟨a1, c1, rfl, hc1⟩ := own_shape o1
  go_wp2_with fail
  refine (rget_any w2 a len cap ns vs s (h.grown G2) h1').mono ?_
  rw [X.out]
  rintro e w3 ⟨v2, rfl, o2, g3⟩
  have G3 := gr_trans G2 g3
  obtain ⟨a2, c2, rfl, hc2⟩ := own_shape o2
  have o1' := o1.kept g3 (by cases a1 <;> simp [Value.ownBlock])
  have gl := getN_le ns vs s len
  rw [X.out] at gl
  clear o1 g1 g2 g3 G2
  go_wp2_with fail
  go_loopw [38] (fun vk wr => ∃ k m : Nat, k ≤ xs.length ∧ vk = .int .i64 k ∧ wr = w3.drewN m) (fun vk _ => xs.length - (intOf vk).toNat)
  case atStart => exact ⟨0, 0, Nat.zero_le _, rfl, rfl⟩
  case round =>
    obtain ⟨k, m, hk, rfl, rfl⟩ := hrel
    by_cases hlt : k < xs.length
    · obtain ⟨q1, k1, e1, _, _, r1⟩ := own_cell o1' (by omega)
      obtain ⟨q2, k2, e2, _, _, r2⟩ := own_cell o2 (by omega)
      simp only [Value.slice.injEq] at e1 e2
      obtain ⟨rfl, -, rfl⟩ := e1
      obtain ⟨rfl, -, rfl⟩ := e2
      have hx : (xs.map Value.string)[k]? = some (.string xs[k]) := by rw [List.getElem?_map, List.getElem?_eq_getElem hlt]; rfl
      have d1 := r1 k _ hx
      have d2 := r2 k _ hx
      clear r1 r2 hx o1' o2
      generalize xs[k] = x at d1 d2
      have hlt1 : (k : Int) < xs.length := by omega
      go_wp2
      go_quiet (fail)
      go_wp2
      go_roundw
      case rel => exact ⟨k + 1, _, by omega, by go_num, rfl⟩
      case measure => simp [intOf]; omega
    · have hl : (ByteArray.mk (lowL s.data.toList).toArray).size ≤ 9223372036854775807 := by rw [Lib.size_eq]; simp [lowL]; have := Lib.size_eq s; simp at this; omega
      have hrs := rlower_any s
      have hrt := rlower_any t
      have hst := same_any s t
      have hss := fun w => same_any s ⟨(lowL s.data.toList).toArray⟩ w hs hl
      have e3 : lowL s.data.toList == lowL (ByteArray.mk (lowL s.data.toList).toArray).data.toList := by simp [lowL_low]
      rw [e3] at hss
      have he : ((ByteArray.mk (lowL s.data.toList).toArray).toList == (ByteArray.mk (lowL t.data.toList).toArray).toList) = (lowL s.data.toList == lowL t.data.toList) := by rw [Lib.toList_data, Lib.toList_data]
      generalize lowL s.data.toList = p at *
      generalize lowL t.data.toList = q at *
      have He := hid he
      have H1 := hid hrs
      have H2 := hid hrt
      have H3 := hid hst
      have H4 := hid hss
      clear he hrs hrt hst hss hl e3
      go_wp2_with fail
      refine (H3.out (w3.drewN m) hs ht).mono ?_
      rintro e w4 ⟨rfl, g4⟩
      go_wp2_with fail
      refine (H1.out w4 (by omega)).mono ?_
      rintro e w5 ⟨rfl, g5⟩
      unfold str
      go_wp2_with fail
      refine (H2.out w5 (by omega)).mono ?_
      rintro e w6 ⟨rfl, g6⟩
      unfold str
      go_wp2_with fail
      refine (H1.out w6 (by omega)).mono ?_
      rintro e w7 ⟨rfl, g7⟩
      unfold str
      go_wp2_with fail
      refine (H4.out w7).mono ?_
      rintro e w8 ⟨rfl, g8⟩
      go_wp2
      go_ret
      exact ⟨rfl, gr_trans (gr_trans (gr_trans (gr_trans (gr_trans (gr_drewN m G3) g4) g5) g6) g7) g8⟩
end Go.Proofs.YtdfhdnnkpeodhaaDoor
