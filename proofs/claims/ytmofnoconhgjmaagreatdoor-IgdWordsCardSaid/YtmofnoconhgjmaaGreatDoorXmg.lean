/- The parser's value. -/
import Derived.Test.YtmofnoconhgjmaaGreatDoorMP
namespace Go.Proofs.YtmofnoconhgjmaaGreatDoor
open Go.RowKit
set_option linter.unusedVariables false
set_option linter.unusedSimpArgs false

theorem idxb (l : Bs) : Lib.indexByte l 60 = Lib.index l [60] := (Lib.index_one l 60).symm
theorem idx_has (l : Bs) : l.contains 60 = decide (0 ≤ Lib.index l [60]) := by rw [Lib.contains_iff_indexByte, idxb]
/-- What value leaves. -/
def ValPost (w : World) (b : Nat) (o : Option (Bs × Bs)) (sv : Value) (cnt : Int) (full : Bool) (e : Ending) (w' : World) : Prop :=
  w.grownBy w' (some b) ∧ ((∃ v r', o = some (v, r') ∧ e = .returned (.tuple #[str v, .bool true]) ∧ PrAt w' b r' sv cnt full) ∨ (o = none ∧ e = .returned (.tuple #[str [], .bool false]) ∧ ∃ r', PrAt w' b r' sv cnt full))
set_option maxRecDepth 20000 in
set_option maxHeartbeats 4000000 in
theorem value_x (b : Nat) (rest : Bs) (sv : Value) (cnt : Int) (full : Bool) (m : Int) (w : World) (h : PrAt w b rest sv cnt full) (hm : w.cell? ⟨0, 0, none⟩ = some (.int .i64 m)) (hb : b ≠ 0) (hs : rest.length ≤ 100000) :
    Calls Tryz.prog 220 #[.pointer (some ⟨b, 0, none⟩)] w (ValPost w b (valueL rest) sv cnt full) := by
  have HM := hid hm
  have HT1 := hid (take_x b rest [34] sv cnt full w h)
  have HE := hid (show valueL rest = if Lib.hasPrefix rest [34] then valQ 34 (Lib.trimPrefix rest [34]) else if Lib.hasPrefix rest [39] then valQ 39 (Lib.trimPrefix rest [39]) else none from rfl)
  have hl1 := trim_len rest [34]
  have hn1 := hid (fun (hp : Lib.hasPrefix rest [34] = false) => show Lib.trimPrefix rest [34] = rest by unfold Lib.trimPrefix; rw [hp]; rfl)
  generalize valueL rest = V at *
  have tailQ : ∀ (q : UInt8) (r1 : Bs) (w1 : World), r1.length ≤ 100000 → PrAt w1 b r1 sv cnt full → w.grownBy w1 (some b) → Hid (V = valQ q r1) →
      Calls Tryz.prog 96 #[.pointer (some ⟨b, 0, none⟩), .string ⟨#[q]⟩] w1 (fun e w' => e = .returned (.tuple #[str (Lib.cut r1 [q]).1, .bool (Lib.cut r1 [q]).2.2]) ∧ PrAt w' b (if (Lib.cut r1 [q]).2.2 then (Lib.cut r1 [q]).2.1 else r1) sv cnt full ∧ w1.grownBy w' (some b)) :=
    fun q r1 w1 hr hp hg _ => until_x b r1 [q] sv cnt full m w1 hp (cell0 hg hb HM.out) hr
  have HQ := hid tailQ
  clear tailQ h hm
  have fin : ∀ (q : UInt8) (r1 : Bs), V = valQ q r1 → (Lib.cut r1 [q]).2.2 = false → V = none := fun q r1 h1 h2 => by rw [h1]; unfold valQ; rw [h2]; rfl
  have fin2 : ∀ (q : UInt8) (r1 : Bs), V = valQ q r1 → (Lib.cut r1 [q]).2.2 = true → 0 ≤ Lib.index (Lib.cut r1 [q]).1 [60] → V = none := fun q r1 h1 h2 h3 => by rw [h1]; unfold valQ; rw [h2, idx_has, decide_eq_true h3]; rfl
  have fin3 : ∀ (q : UInt8) (r1 : Bs), V = valQ q r1 → (Lib.cut r1 [q]).2.2 = true → ¬ 0 ≤ Lib.index (Lib.cut r1 [q]).1 [60] → V = (unescA (Lib.cut r1 [q]).1).map fun v => (v, (Lib.cut r1 [q]).2.1) := fun q r1 h1 h2 h3 => by rw [h1]; unfold valQ; rw [h2, idx_has, decide_eq_false h3]; rfl
  have F1 := hid fin
  have F2 := hid fin2
  have F3 := hid fin3
  clear fin fin2 fin3
  have l1 : ∀ (q : UInt8) (r1 : Bs), r1.length ≤ 100000 → (Lib.cut r1 [q]).1.length ≤ 100000 := fun q r1 hr => by
    unfold Lib.cut; split
    · simp only [List.length_take]; omega
    · simpa using hr
  have L1 := hid l1
  clear l1
  obtain ⟨p1, hp1⟩ : ∃ p1, Lib.hasPrefix rest [34] = p1 := ⟨_, rfl⟩
  rw [hp1] at HT1 HE hn1
  clear hp1
  cases p1
  · have e1 := hn1.out rfl
    rw [e1] at HT1 hl1
    have HT2 := hid (fun w1 hp => take_x b rest [39] sv cnt full w1 hp)
    have HE2 := hid (show V = if Lib.hasPrefix rest [39] then valQ 39 (Lib.trimPrefix rest [39]) else none from HE.out)
    have hl2 := trim_len rest [39]
    clear e1 hn1 HE
    obtain ⟨p2, hp2⟩ : ∃ p2, Lib.hasPrefix rest [39] = p2 := ⟨_, rfl⟩
    rw [hp2] at HT2 HE2
    clear hp2
    go_enter Tryz.func220, Tryz.ntmps220
    go_wp2_with fail
    refine HT1.out.mono ?_
    rintro e w1 ⟨rfl, hp1, g1⟩
    have G1 := hid g1
    go_wp2_with fail
    refine (HT2.out w1 hp1).mono ?_
    rintro e w2 ⟨rfl, hp2, g2⟩
    have G2 := hid (gr_trans G1.out g2)
    clear g1 g2 hp1
    generalize Lib.trimPrefix rest [39] = r1 at *
    cases p2
    · have HN := hid (show V = none from HE2.out)
      go_wp2
      ((try simp only [Exit.inBlock, Exit.then]); refine bodyPost_ret (results_tmp2 rfl _ _ _) rfl ?_)
      exact ⟨G2.out, .inr ⟨HN.out, rfl, _, hp2⟩⟩
    · have HV := hid (show V = valQ 39 r1 from HE2.out)
      have HU := hid (HQ.out 39 r1 w2 (by omega) hp2 G2.out HV)
      have f1 := hid (F1.out 39 r1 HV.out)
      have f2 := hid (F2.out 39 r1 HV.out)
      have f3 := hid (F3.out 39 r1 HV.out)
      have hcl := L1.out 39 r1 (by omega)
      clear HV hp2 F1 F2 F3 HQ L1
      generalize Lib.cut r1 [39] = C at *
      obtain ⟨c1, c2, c3⟩ := C
      simp only at f1 f2 f3 hcl
      cases c3
      · have HN := hid (f1.out rfl)
        clear f1 f2 f3
        go_wp2_with fail
        refine HU.out.mono ?_
        rintro e w3 ⟨rfl, hp3, g3⟩
        go_wp2
        ((try simp only [Exit.inBlock, Exit.then]); refine bodyPost_ret (results_tmp2 rfl _ _ _) rfl ?_)
        exact ⟨gr_trans G2.out g3, .inr ⟨HN.out, rfl, _, hp3⟩⟩
      · have f2' := hid (f2.out rfl)
        have f3' := hid (f3.out rfl)
        clear f1 f2 f3
        have HIB := hid (fun W => Tryz.strings_IndexByte ⟨c1.toArray⟩ 60 W)
        rw [show (ByteArray.mk c1.toArray).data.toList = c1 from rfl, show (60 : Int).toNat.toUInt8 = 60 from rfl, idxb] at HIB
        have hix := (index_le [60] c1).1
        generalize Lib.index c1 [60] = ix at *
        go_wp2_with fail
        refine HU.out.mono ?_
        rintro e w3 ⟨rfl, hp3, g3⟩
        have HP3 := hid (show PrAt w3 b c2 sv cnt full from hp3)
        have G3 := hid (gr_trans G2.out g3)
        clear hp3 g3
        go_wp2_with fail
        refine (HIB.out w3).mono ?_
        rintro e w4 ⟨rfl, rfl⟩
        by_cases h0 : 0 ≤ ix
        · have HN := hid (f2'.out h0)
          go_wp2
          ((try simp only [Exit.inBlock, Exit.then]); refine bodyPost_ret (results_tmp2 rfl _ _ _) rfl ?_)
          exact ⟨G3.out, .inr ⟨HN.out, rfl, _, HP3.out⟩⟩
        · have HN := hid (f3'.out (by omega))
          have HUN := hid (unescape_x c1 m w4 (cell0 G3.out hb HM.out) hcl)
          unfold EntPost at HUN
          generalize unescA c1 = U at *
          go_wp2_with fail
          refine HUN.out.mono ?_
          rintro e w5 ⟨rfl, g5⟩
          have HP5 := hid (HP3.out.grow g5)
          have G5 := hid (gr_trans G3.out (gr_none g5))
          cases U with
          | none =>
            go_wp2
            ((try simp only [Exit.inBlock, Exit.then]); refine bodyPost_ret (results_tmp2 rfl _ _ _) rfl ?_)
            exact ⟨G5.out, .inr ⟨HN.out, rfl, _, HP5.out⟩⟩
          | some u =>
            go_wp2
            ((try simp only [Exit.inBlock, Exit.then]); refine bodyPost_ret (results_tmp2 rfl _ _ _) rfl ?_)
            exact ⟨G5.out, .inl ⟨u, c2, HN.out, rfl, HP5.out⟩⟩
  · have HV := hid (show V = valQ 34 (Lib.trimPrefix rest [34]) from HE.out)
    generalize Lib.trimPrefix rest [34] = r1 at *
    go_enter Tryz.func220, Tryz.ntmps220
    go_wp2_with fail
    refine HT1.out.mono ?_
    rintro e w2 ⟨rfl, hp2, g2⟩
    have G2 := hid g2
    clear g2
    have HU := hid (HQ.out 34 r1 w2 (by omega) hp2 G2.out HV)
    have f1 := hid (F1.out 34 r1 HV.out)
    have f2 := hid (F2.out 34 r1 HV.out)
    have f3 := hid (F3.out 34 r1 HV.out)
    have hcl := L1.out 34 r1 (by omega)
    clear HV hp2 F1 F2 F3 HQ L1
    generalize Lib.cut r1 [34] = C at *
    obtain ⟨c1, c2, c3⟩ := C
    simp only at f1 f2 f3 hcl
    cases c3
    · have HN := hid (f1.out rfl)
      clear f1 f2 f3
      go_wp2_with fail
      refine HU.out.mono ?_
      rintro e w3 ⟨rfl, hp3, g3⟩
      go_wp2
      ((try simp only [Exit.inBlock, Exit.then]); refine bodyPost_ret (results_tmp2 rfl _ _ _) rfl ?_)
      exact ⟨gr_trans G2.out g3, .inr ⟨HN.out, rfl, _, hp3⟩⟩
    · have f2' := hid (f2.out rfl)
      have f3' := hid (f3.out rfl)
      clear f1 f2 f3
      have HIB := hid (fun W => Tryz.strings_IndexByte ⟨c1.toArray⟩ 60 W)
      rw [show (ByteArray.mk c1.toArray).data.toList = c1 from rfl, show (60 : Int).toNat.toUInt8 = 60 from rfl, idxb] at HIB
      have hix := (index_le [60] c1).1
      generalize Lib.index c1 [60] = ix at *
      go_wp2_with fail
      refine HU.out.mono ?_
      rintro e w3 ⟨rfl, hp3, g3⟩
      have HP3 := hid (show PrAt w3 b c2 sv cnt full from hp3)
      have G3 := hid (gr_trans G2.out g3)
      clear hp3 g3
      go_wp2_with fail
      refine (HIB.out w3).mono ?_
      rintro e w4 ⟨rfl, rfl⟩
      by_cases h0 : 0 ≤ ix
      · have HN := hid (f2'.out h0)
        go_wp2
        ((try simp only [Exit.inBlock, Exit.then]); refine bodyPost_ret (results_tmp2 rfl _ _ _) rfl ?_)
        exact ⟨G3.out, .inr ⟨HN.out, rfl, _, HP3.out⟩⟩
      · have HN := hid (f3'.out (by omega))
        have HUN := hid (unescape_x c1 m w4 (cell0 G3.out hb HM.out) hcl)
        unfold EntPost at HUN
        generalize unescA c1 = U at *
        go_wp2_with fail
        refine HUN.out.mono ?_
        rintro e w5 ⟨rfl, g5⟩
        have HP5 := hid (HP3.out.grow g5)
        have G5 := hid (gr_trans G3.out (gr_none g5))
        cases U with
        | none =>
          go_wp2
          ((try simp only [Exit.inBlock, Exit.then]); refine bodyPost_ret (results_tmp2 rfl _ _ _) rfl ?_)
          exact ⟨G5.out, .inr ⟨HN.out, rfl, _, HP5.out⟩⟩
        | some u =>
          go_wp2
          ((try simp only [Exit.inBlock, Exit.then]); refine bodyPost_ret (results_tmp2 rfl _ _ _) rfl ?_)
          exact ⟨G5.out, .inl ⟨u, c2, HN.out, rfl, HP5.out⟩⟩
end Go.Proofs.YtmofnoconhgjmaaGreatDoor
