/- The walk of SoapHeaders. -/
import Derived.Test.YtdfhdnnkpeodhaaSoapL
import Derived.Test.YtdfhdnnkpeodhaaSoap3
namespace Go.Proofs.Ytdfhdnnkpeodhaa
open Go.RowKit

theorem speaks_true (w : World) : Calls Try.prog 4 #[] w fun e w' => e = .returned (.bool true) ∧ w.grownBy w' none := by
  have hc : hdr [34, 117, 114, 110, 58, 115, 35, 71, 101, 116, 34] = ([117, 114, 110, 58, 115], [71, 101, 116], true) := by decide
  go_enter Try.func4, Try.ntmps4
  go_wp2_with fail
  refine (header_any ⟨#[34, 117, 114, 110, 58, 115, 35, 71, 101, 116, 34]⟩ w (by decide)).mono ?_
  rintro e w1 ⟨rfl, g1⟩
  rw [show (ByteArray.mk #[34, 117, 114, 110, 58, 115, 35, 71, 101, 116, 34]).data.toList = [34, 117, 114, 110, 58, 115, 35, 71, 101, 116, 34] from rfl, hc]
  unfold str
  clear hc
  go_wp2
  go_ret
  exact ⟨rfl, g1⟩
set_option maxHeartbeats 1000000 in
theorem soap_headers_walk (s : ByteArray) (a : Option Addr) (len cap : Nat) (ns vs : Nat → ByteArray) (name : ByteArray) (w : World) (hs : s.size ≤ 9223372036854775807) (h : PairsAt w a len ns vs) (hl : len ≤ 9223372036854775807) :
    Calls Try.prog 3 #[.string s, .slice a len cap, .string name] w fun e w' => e = .returned (.bool true) ∧ w.grownBy w' none := by
  by_cases h1 : 1000 < s.size ∨ 100 < len
  · by_cases h2 : 1000 < s.size
    all_goals
      go_enter Try.func3, Try.ntmps3
      go_wp2_with fail
      refine (speaks_true w).mono ?_
      rintro e w1 ⟨rfl, g1⟩
      go_wp2
      go_ret
      exact ⟨rfl, g1⟩
  · have h2 : s.size ≤ 1000 := by omega
    have h3 : len ≤ 100 := by omega
    clear h1
    generalize hx : rhdr s.data.toList = x
    have hy : hdr s.data.toList = x := by rw [hdr_rhdr]; exact hx
    have X := hid hx
    have Y := hid hy
    clear hx hy
    obtain ⟨x1, x2, x3⟩ := x
    generalize hf : fnd ns vs len name = f
    have F := hid hf
    clear hf
    obtain ⟨f1, f2⟩ := f
    go_enter Try.func3, Try.ntmps3
    go_wp2_with fail
    refine (speaks_true w).mono ?_
    rintro e w1 ⟨rfl, g1⟩
    go_wp2_with fail
    refine (header_any s w1 (by omega)).mono ?_
    rintro e w2 ⟨rfl, g2⟩
    rw [Y.out]
    simp only []
    go_wp2_with fail
    refine (rheader_any s w2 (by omega)).mono ?_
    rintro e w3 ⟨rfl, g3⟩
    rw [X.out]
    simp only []
    have k3 := gr_trans (gr_trans g1 g2) g3
    go_wp2_with fail
    refine (find_any w3 a len cap ns vs name (h.grown k3) h3).mono ?_
    rintro e w4 ⟨rfl, g4⟩
    rw [F.out]
    simp only []
    have k4 := gr_trans k3 g4
    go_wp2_with fail
    refine (rfind_any w4 a len cap ns vs name (h.grown k4) h3).mono ?_
    rintro e w5 ⟨rfl, g5⟩
    rw [F.out]
    unfold str
    go_wp2
    go_ret
    exact ⟨rfl, gr_trans k4 g5⟩
end Go.Proofs.Ytdfhdnnkpeodhaa
