/- hearthlaw17.XmlTexts: the walk. -/
import Derived.Test.YtllmdlpogjjmcaaGreatDoorXt2
import Derived.Test.YtllmdlpogjjmcaaGreatDoorXn9
import Derived.BigQuiet
namespace Go.Proofs.YtllmdlpogjjmcaaGreatDoor
open Go.RowKit
set_option linter.unusedVariables false
set_option linter.unusedSimpArgs false

set_option maxRecDepth 20000 in
set_option maxHeartbeats 20000000 in
theorem xml_texts_walk (s0 : ByteArray) (m : Int) (w : World) (hm : w.cell? ⟨0, 0, none⟩ = some (.int .i64 m)) :
    Calls Tryz.prog 3 #[.string s0] w fun e w' => e = .returned (.bool true) ∧ w.grownBy w' none := by
  have HS := hid (speaks_true w m hm)
  have HM := hid hm
  obtain ⟨s, hs⟩ : ∃ s, s = s0.data.toList := ⟨_, rfl⟩
  have hs0 : s0 = ⟨s.toArray⟩ := by rw [hs]
  have hlen : s0.size = s.length := by rw [hs, ← Lib.size_eq]
  subst hs0
  have HLEN := hid hlen
  clear hm hs hlen
  go_enter Tryz.func3, Tryz.ntmps3
  go_wp2_with fail
  refine HS.out.mono ?_
  rintro e w1 ⟨rfl, g1⟩
  have G1 := hid g1
  clear g1 HS
  by_cases hl : (1200 : Int) < (s.length : Int)
  · go_wp2
    go_ret
    exact ⟨rfl, G1.out⟩
  have HL := hid (show s.length ≤ 1200 by omega)
  have ESC := hid (escape_x w1 s (by have := HL.out; omega))
  have RESC := hid (fun W => rescape_any W s (by have := HL.out; omega))
  have XN := hid (fun W => xname_any ⟨s.toArray⟩ W (by rw [Lib.size_eq]; have := HL.out; simp; omega))
  have RN := hid (fun W => rname_any ⟨s.toArray⟩ W (by rw [Lib.size_eq]; have := HL.out; simp; omega))
  have RP := hid (fun W => rplain_any ⟨s.toArray⟩ W (by rw [Lib.size_eq]; have := HL.out; simp; omega))
  rw [show (ByteArray.mk s.toArray).data.toList = s from rfl] at XN RN RP
  have HPL := hid (parse_t s)
  have HXL := hid (escL_len s)
  have HTL := hid (textT_len (escL s))
  have HTX := hid (show textT (escL s) = [60, 116, 32, 97, 61, 34] ++ escL s ++ [34, 62] ++ escL s ++ [60, 47, 116, 62] from rfl)
  obtain ⟨x, hx⟩ : ∃ x, x = escL s := ⟨_, rfl⟩
  rw [← hx] at HPL HXL HTL HTX
  rw [show (fun e w' => e = Ending.returned (.string ⟨(repL escP s).toArray⟩) ∧ w1.grownBy w' none) = (fun e w' => e = Ending.returned (.string ⟨x.toArray⟩) ∧ w1.grownBy w' none) by rw [hx]] at ESC
  have RESC2 := hid (fun W => show Calls Tryz.prog 7 #[.string ⟨s.toArray⟩] W fun e w' => e = .returned (.string ⟨x.toArray⟩) ∧ W = w' by rw [hx]; exact RESC.out W)
  clear hx RESC
  go_wp2_with fail
  refine ESC.out.mono ?_
  rintro e w2 ⟨rfl, g2⟩
  have G2 := hid (gr_trans G1.out g2)
  clear g2 ESC
  go_wp2_with fail
  refine (RESC2.out w2).mono ?_
  rintro e w' ⟨rfl, rfl⟩
  clear RESC2
  go_wp2_with fail
  refine (XN.out w2).mono ?_
  rintro e w3 ⟨rfl, g3⟩
  have G3 := hid (gr_trans G2.out g3)
  clear g3 XN
  go_wp2_with fail
  refine (RN.out w3).mono ?_
  rintro e w' ⟨rfl, rfl⟩
  clear RN
  generalize nameB s = nb
  have hx1 : x.length ≤ 7200 := by have := HXL.out; have := HL.out; omega
  have hg1 : ¬ 9223372036854775807 < 6 + x.length := by omega
  have hg2 : ¬ 9223372036854775807 < 6 + x.length + 2 := by omega
  have hg3 : ¬ 9223372036854775807 < 6 + x.length + 2 + x.length := by omega
  have hg4 : ¬ 9223372036854775807 < 6 + x.length + 2 + x.length + 4 := by omega
  have HX1 := hid hx1
  have HDT := hid (show ((((⟨#[60, 116, 32, 97, 61, 34]⟩ : ByteArray) ++ ⟨x.toArray⟩) ++ ⟨#[34, 62]⟩) ++ ⟨x.toArray⟩) ++ ⟨#[60, 47, 116, 62]⟩ = ⟨(textT x).toArray⟩ by
    rw [HTX.out]
    apply ByteArray.ext
    simp)
  clear hx1
  go_wp2_with (refine wpl_s2b rfl 9 32 5 _ rfl Tryz.underlying9 Tryz.underlying32 Tryz.underlying5 ⟨(textT x).toArray⟩ (congrArg Value.string HDT.out) (by rw [Lib.size_eq]; show (textT x).length ≤ maxLen; rw [HTL.out]; unfold maxLen; have := HX1.out; omega) ?_; intro g cap w4 hg hrow g4)
  have G4 := hid (gr_trans G3.out g4)
  have HP := hid (parse_q w4 _ (textT x) m hrow.bytes (G4.out.cell HM.out (by simp)) (by rw [HTL.out]; have := HX1.out; omega))
  clear hrow hg g4 hg1 hg2 hg3 hg4 HDT
  by_cases h4 : (4090 : Int) < (x.length : Int)
  · have HR := hid (show parseL (textT x) = (El.zero, 14) by rw [HPL.out, if_pos (by omega)])
    rw [HR.out] at HP
    refine HP.out.mono ?_
    rintro e w5 ⟨g5, v, rfl, av, kv, rfl, ⟨aa, ac, rfl, -⟩, ka, kc, rfl, -⟩
    have G5 := hid (gr_trans G4.out g5)
    unfold elV str El.zero
    clear HP g5
    go_wp2_with fail
    go_ret
    exact ⟨rfl, gr_alloc G5.out _⟩
  · cases hp : plainB s
    · have HR := hid (show parseL (textT x) = (El.zero, 11) by rw [HPL.out, if_neg (by omega), hp]; rfl)
      rw [hp] at RP
      clear hp
      rw [HR.out] at HP
      refine HP.out.mono ?_
      rintro e w5 ⟨g5, v, rfl, av, kv, rfl, ⟨aa, ac, rfl, -⟩, ka, kc, rfl, -⟩
      have G5 := hid (gr_trans G4.out g5)
      unfold elV str El.zero
      clear HP g5
      go_wp2_with fail
      refine (RP.out _).mono ?_
      rintro e w' ⟨rfl, rfl⟩
      go_wp2_with fail
      go_ret
      exact ⟨rfl, gr_alloc G5.out _⟩
    · have HR := hid (show parseL (textT x) = (⟨[], [116], [([], [97], s)], s, .nil⟩, 0) by rw [HPL.out, if_neg (by omega), hp]; rfl)
      rw [hp] at RP
      clear hp
      rw [HR.out] at HP
      refine HP.out.mono ?_
      rintro e w5 ⟨g5, v, rfl, av, kv, rfl, ha, ka, kc, rfl, -⟩
      simp only at ha
      obtain ⟨aa, ac, rfl, ha⟩ := ha
      obtain ⟨g1, o1, rfl, -, hT⟩ := ha 0 (by simp)
      have t2 := hT.c2
      have G5 := hid (gr_trans G4.out g5)
      unfold elV str
      rw [show Fo.nil.len = 0 from rfl]
      have ga := gr_alloc (gr_refl w5 none) (.cells #[.string ⟨#[]⟩, .string ⟨#[116]⟩, .slice (some ⟨g1, o1, none⟩) 1 ac, .string ⟨s.toArray⟩, .slice ka 0 kc] 28)
      have t3 := ga.cell t2 (by simp)
      simp only [Nat.zero_mul, Nat.add_zero] at t3
      have N6 := heap_alloc_new w5 (.cells #[.string ⟨#[]⟩, .string ⟨#[116]⟩, .slice (some ⟨g1, o1, none⟩) 1 ac, .string ⟨s.toArray⟩, .slice ka 0 kc] 28)
      have G6 := hid (gr_trans G5.out ga)
      clear HP g5 hT ha ga t2 N6
      go_wp2_with fail
      refine (RP.out _).mono ?_
      rintro e w' ⟨rfl, rfl⟩
      go_wp2_with fail
      go_ret
      exact ⟨rfl, G6.out⟩
end Go.Proofs.YtllmdlpogjjmcaaGreatDoor
