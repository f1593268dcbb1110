/- hearthref17.Doc: full, around; the parser's misc. -/
import Derived.Test.YtllmdlpogjjmcaaDoorXm8
namespace Go.Proofs.YtllmdlpogjjmcaaDoor
open Go.RowKit
set_option linter.unusedVariables false

theorem DcR.bad {w : World} {b : Nat} {S r : List UInt8} {cnt : Int} {bad full : Bool} (h : DcR w b S r cnt bad full) : w.cell? ⟨b, 3, none⟩ = some (.bool bad) := by
  obtain ⟨i, -, -, h⟩ := h
  exact h.cells.2.2.2.1
theorem rfull_r (b : Nat) (S r : List UInt8) (cnt : Int) (full : Bool) (w : World) (h : DcR w b S r cnt false full) (hS : S.length ≤ 100000) :
    Calls Tryd.prog 31 #[.pointer (some ⟨b, 0, none⟩)] w fun e w' => e = .returned (.tuple #[str (fullL r).1.1, str (fullL r).1.2.1]) ∧ DcR w' b S (fullL r).2 cnt (!(fullL r).1.2.2) full ∧ w.grownBy w' (some b) := by
  have HF := hid (show fullL r = if nameB (wdA r) && Lib.hasPrefix (wdR r) [58] then ((wdA r, wdA ((wdR r).drop 1), nameB (wdA ((wdR r).drop 1))), wdR ((wdR r).drop 1)) else (([], wdA r, nameB (wdA r)), wdR r) from rfl)
  have H1 := hid (one_r b S r cnt false full w h hS)
  generalize fullL r = F at *
  generalize wdA r = x at *
  generalize wdR r = y at *
  generalize nameB x = nb at *
  go_enter Tryd.func31, Tryd.ntmps31
  go_wp2_with fail
  refine H1.out.mono ?_
  rintro e w1 ⟨rfl, hd, g⟩
  unfold str
  have d3 := hd.bad
  have HD := hid hd
  have G := hid g
  clear hd g
  cases nb
  · have HE := hid (show F = (([], x, false), y) from HF.out)
    have d3' : w1.cell? ⟨b, 3, none⟩ = some (.bool true) := d3
    go_wp2
    ((try simp only [Exit.inBlock, Exit.then]); refine bodyPost_ret (results_tmp2 rfl _ _ _) rfl ?_)
    rw [HE.out]
    exact ⟨rfl, HD.out, G.out⟩
  · have d3' : w1.cell? ⟨b, 3, none⟩ = some (.bool false) := d3
    have HP := hid (pass_r b S y [58] cnt false full w1 HD.out hS (by decide))
    have HTP := hid (show Lib.trimPrefix y [58] = if Lib.hasPrefix y [58] then y.drop 1 else y from rfl)
    generalize Lib.hasPrefix y [58] = bt at *
    go_wp2_with fail
    refine HP.out.mono ?_
    rintro e w2 ⟨rfl, hd2, g2⟩
    have G2 := hid (gr_trans G.out g2)
    cases bt
    · have HE := hid (show F = (([], x, true), y) from HF.out)
      have hd3 : DcR w2 b S y cnt false full := by rw [show Lib.trimPrefix y [58] = y from HTP.out] at hd2; exact hd2
      go_wp2
      ((try simp only [Exit.inBlock, Exit.then]); refine bodyPost_ret (results_tmp2 rfl _ _ _) rfl ?_)
      rw [HE.out]
      exact ⟨rfl, hd3, G2.out⟩
    · have HE := hid (show F = ((x, wdA (y.drop 1), nameB (wdA (y.drop 1))), wdR (y.drop 1)) from HF.out)
      have hd3 : DcR w2 b S (y.drop 1) cnt false full := by rw [show Lib.trimPrefix y [58] = y.drop 1 from HTP.out] at hd2; exact hd2
      generalize y.drop 1 = z at *
      have H3 := hid (one_r b S z cnt false full w2 hd3 hS)
      go_wp2_with fail
      refine H3.out.mono ?_
      rintro e w3 ⟨rfl, hd4, g4⟩
      unfold str
      go_wp2
      ((try simp only [Exit.inBlock, Exit.then]); refine bodyPost_ret (results_tmp2 rfl _ _ _) rfl ?_)
      rw [HE.out]
      refine ⟨rfl, ?_, gr_trans G2.out g4⟩
      simpa using hd4
end Go.Proofs.YtllmdlpogjjmcaaDoor
