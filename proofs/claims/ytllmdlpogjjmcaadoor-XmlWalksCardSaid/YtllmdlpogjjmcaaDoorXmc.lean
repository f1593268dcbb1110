/- xml.char, xml.entity. -/
import Derived.Test.YtllmdlpogjjmcaaDoorXmb
import Derived.Lib.RuneBytes
namespace Go.Proofs.YtllmdlpogjjmcaaDoor
open Go.RowKit
set_option linter.unusedVariables false
set_option linter.unusedSimpArgs false

/-- Is a number a character's? -/
def charP (n : Int) : Prop := n = 9 ∨ n = 10 ∨ n = 13 ∨ (32 ≤ n ∧ n ≤ 55295) ∨ (57344 ≤ n ∧ n ≤ 65533) ∨ (65536 ≤ n ∧ n ≤ 1114111)
instance (n : Int) : Decidable (charP n) := by unfold charP; infer_instance
set_option maxRecDepth 100000 in
set_option maxHeartbeats 4000000 in
theorem char_x (n : Int) (w : World) : Calls Tryd.prog 74 #[.int .i64 n] w fun e w' => e = .returned (.bool (decide (charP n))) ∧ w' = w := by
  obtain ⟨p, hp⟩ : ∃ p, p = decide (charP n) := ⟨_, rfl⟩
  rw [← hp]
  have HP := hid hp
  clear hp
  have fin : ∀ q : Bool, (q = true ↔ charP n) → q = p := fun q hq => by
    rw [HP.out, Bool.eq_iff_iff, decide_eq_true_eq]; exact hq
  have FIN := hid fin
  clear fin
  go_enter Tryd.func74, Tryd.ntmps74
  go_wp2
  all_goals
    go_ret
    refine ⟨congrArg (fun q => Ending.returned (Value.bool q)) (FIN.out _ ?_), rfl⟩
    unfold charP
    simp only [Array.getD_eq_getD_getElem?, beq_iff_eq, Bool.and_eq_true, Bool.or_eq_true, decide_eq_true_eq, true_iff, false_iff, Bool.false_eq_true]
    omega
/-- A character's bytes, where a number is one's. -/
def chrO (q : Int × Bool) : Option (List UInt8) := if q.2 = true ∧ charP q.1 then some (Lib.encodeRune q.1) else none
def entH (d : List UInt8) : Option (List UInt8) := if (Lib.trimPrefix d [120]).length ≤ 6 then chrO (numR 16 1114111 (Lib.trimPrefix d [120])) else none
def entD (d : List UInt8) : Option (List UInt8) := if Lib.hasPrefix d [120] then entH d else chrO (numR 10 1114111 d)
/-- What stands between an & and a semicolon stands for. -/
def entL (s : List UInt8) : Option (List UInt8) :=
  if s = [108, 116] then some [60] else if s = [103, 116] then some [62] else if s = [97, 109, 112] then some [38] else if s = [113, 117, 111, 116] then some [34] else if s = [97, 112, 111, 115] then some [39]
  else if Lib.hasPrefix s [35] then entD (Lib.trimPrefix s [35]) else none
def EntPost (w : World) (o : Option (List UInt8)) (e : Ending) (w' : World) : Prop := e = .returned (.tuple #[str (o.getD []), .bool o.isSome]) ∧ w.grownBy w' none
theorem eqs (s : List UInt8) (t : List UInt8) : ((ByteArray.mk s.toArray).toList == t) = decide (s = t) := by
  rw [Lib.toList_data, beq_dec]
set_option maxRecDepth 100000 in
set_option maxHeartbeats 4000000 in
theorem entity_x (s : List UInt8) (w : World) (hs : s.length ≤ 100000) : Calls Tryd.prog 58 #[.string ⟨s.toArray⟩] w (EntPost w (entL s)) := by
  by_cases h1 : s = [108, 116]
  · subst h1
    go_enter Tryd.func58, Tryd.ntmps58
    go_wp2
    ((try simp only [Exit.inBlock, Exit.then]); refine bodyPost_ret (results_tmp2 rfl _ _ _) rfl ?_)
    exact ⟨rfl, gr_refl _ _⟩
  by_cases h2 : s = [103, 116]
  · subst h2
    go_enter Tryd.func58, Tryd.ntmps58
    go_wp2
    ((try simp only [Exit.inBlock, Exit.then]); refine bodyPost_ret (results_tmp2 rfl _ _ _) rfl ?_)
    exact ⟨rfl, gr_refl _ _⟩
  by_cases h3 : s = [97, 109, 112]
  · subst h3
    go_enter Tryd.func58, Tryd.ntmps58
    go_wp2
    ((try simp only [Exit.inBlock, Exit.then]); refine bodyPost_ret (results_tmp2 rfl _ _ _) rfl ?_)
    exact ⟨rfl, gr_refl _ _⟩
  by_cases h4 : s = [113, 117, 111, 116]
  · subst h4
    go_enter Tryd.func58, Tryd.ntmps58
    go_wp2
    ((try simp only [Exit.inBlock, Exit.then]); refine bodyPost_ret (results_tmp2 rfl _ _ _) rfl ?_)
    exact ⟨rfl, gr_refl _ _⟩
  by_cases h5 : s = [97, 112, 111, 115]
  · subst h5
    go_enter Tryd.func58, Tryd.ntmps58
    go_wp2
    ((try simp only [Exit.inBlock, Exit.then]); refine bodyPost_ret (results_tmp2 rfl _ _ _) rfl ?_)
    exact ⟨rfl, gr_refl _ _⟩
  have q1 : (s == [108, 116]) = false := by rw [beq_dec]; simpa using h1
  have q2 : (s == [103, 116]) = false := by rw [beq_dec]; simpa using h2
  have q3 : (s == [97, 109, 112]) = false := by rw [beq_dec]; simpa using h3
  have q4 : (s == [113, 117, 111, 116]) = false := by rw [beq_dec]; simpa using h4
  have q5 : (s == [97, 112, 111, 115]) = false := by rw [beq_dec]; simpa using h5
  have hE := hid (show entL s = if Lib.hasPrefix s [35] then entD (Lib.trimPrefix s [35]) else none by unfold entL; rw [if_neg h1, if_neg h2, if_neg h3, if_neg h4, if_neg h5])
  have hdl := trim_len s [35]
  have HC1 := hid (Tryd.strings_CutPrefix ⟨s.toArray⟩ ⟨#[35]⟩ w)
  rw [show (ByteArray.mk s.toArray).data.toList = s from rfl, show (ByteArray.mk #[35]).data.toList = [35] from rfl] at HC1
  generalize entL s = E at *
  generalize Lib.hasPrefix s [35] = p1 at *
  generalize Lib.trimPrefix s [35] = d at *
  clear h1 h2 h3 h4 h5
  cases p1
  · have hE' := hid (show E = none from hE.out)
    go_enter Tryd.func58, Tryd.ntmps58
    go_wp2_with fail
    refine HC1.out.mono ?_
    rintro e w1 ⟨rfl, rfl⟩
    go_wp2
    ((try simp only [Exit.inBlock, Exit.then]); refine bodyPost_ret (results_tmp2 rfl _ _ _) rfl ?_)
    rw [hE'.out]
    exact ⟨rfl, gr_refl _ _⟩
  have hE' := hid (show E = if Lib.hasPrefix d [120] then entH d else chrO (numR 10 1114111 d) from hE.out)
  have HC2 := hid (Tryd.strings_CutPrefix ⟨d.toArray⟩ ⟨#[120]⟩ w)
  rw [show (ByteArray.mk d.toArray).data.toList = d from rfl, show (ByteArray.mk #[120]).data.toList = [120] from rfl] at HC2
  have hE2 := hid (show entH d = if (Lib.trimPrefix d [120]).length ≤ 6 then chrO (numR 16 1114111 (Lib.trimPrefix d [120])) else none from rfl)
  have hxl := trim_len d [120]
  generalize entH d = E2 at *
  generalize Lib.hasPrefix d [120] = p2 at *
  generalize Lib.trimPrefix d [120] = x at *
  clear hE
  cases p2
  · have hE3 := hid (show E = chrO (numR 10 1114111 d) from hE'.out)
    have HN := hid (number_any ⟨d.toArray⟩ 10 1114111 w (by rw [Lib.size_eq]; simp; omega))
    rw [show (ByteArray.mk d.toArray).data.toList = d from rfl] at HN
    generalize numR 10 1114111 d = q at *
    obtain ⟨n, ok⟩ := q
    go_enter Tryd.func58, Tryd.ntmps58
    go_wp2_with fail
    refine HC1.out.mono ?_
    rintro e w1 ⟨rfl, rfl⟩
    go_wp2_with fail
    refine HC2.out.mono ?_
    rintro e w1 ⟨rfl, rfl⟩
    go_wp2_with fail
    refine HN.out.mono ?_
    rintro e w2 ⟨rfl, g2⟩
    cases ok
    · have hE5 := hid (show E = none by rw [hE3.out]; exact if_neg (fun h => by cases h.1))
      go_wp2
      ((try simp only [Exit.inBlock, Exit.then]); refine bodyPost_ret (results_tmp2 rfl _ _ _) rfl ?_)
      rw [hE5.out]
      exact ⟨rfl, g2⟩
    · have HFIN := hid (show E = chrO (n, true) from hE3.out)
      by_cases hc : charP n
      · have hE5 := hid (show E = some (Lib.encodeRune n) by rw [HFIN.out]; exact if_pos ⟨rfl, hc⟩)
        have hn0 : 0 ≤ n := by unfold charP at hc; omega
        have hn1 : n ≤ 1114111 := by unfold charP at hc; omega
        have HCH := hid (char_x n w2)
        rw [decide_eq_true hc] at HCH
        have HAP := hid (Tryd.utf8_AppendRune_plain w2.heap.size (.slice none 0 0) 0 [] n (by omega) (by omega) w2 ⟨rfl, .inl ⟨rfl, rfl⟩⟩ (by omega) (Nat.le_refl _))
        clear hc
        go_wp2_with fail
        refine HCH.out.mono ?_
        rintro e w3 ⟨rfl, rfl⟩
        go_wp2_with fail
        refine HAP.out.mono ?_
        rintro e w4 ⟨v4, rfl, hown, o, g4⟩
        have hb : Bytes w4 v4 (Lib.encodeRune n) := by
          refine bytes_of_own (base := w3.heap.size) (e := 5) (n := 0 + (Lib.runeCells n).length) ?_
          have := Lib.byteCells_encodeRune n
          unfold Lib.byteCells at this
          rw [this]
          exact hown
        go_wp2_with (refine wpl_b2s rfl 22 9 5 _ rfl Tryd.underlying22 Tryd.underlying5 Tryd.underlying9 _ (Lib.encodeRune n) rfl hb ?_)
        ((try simp only [Exit.inBlock, Exit.then]); refine bodyPost_ret (results_tmp2 rfl _ _ _) rfl ?_)
        rw [hE5.out]
        exact ⟨rfl, gr_trans g2 (gr_trans (gr_alloc (gr_refl _ _) o) g4)⟩
      · have hE5 := hid (show E = none by rw [HFIN.out]; exact if_neg (fun h => hc h.2))
        have HCH := hid (char_x n w2)
        rw [decide_eq_false hc] at HCH
        clear hc
        go_wp2_with fail
        refine HCH.out.mono ?_
        rintro e w3 ⟨rfl, rfl⟩
        go_wp2
        ((try simp only [Exit.inBlock, Exit.then]); refine bodyPost_ret (results_tmp2 rfl _ _ _) rfl ?_)
        rw [hE5.out]
        exact ⟨rfl, g2⟩
  · have hE3 := hid (show E = if x.length ≤ 6 then chrO (numR 16 1114111 x) else none by rw [hE'.out, if_pos rfl, hE2.out])
    have HN := hid (number_any ⟨x.toArray⟩ 16 1114111 w (by rw [Lib.size_eq]; simp; omega))
    rw [show (ByteArray.mk x.toArray).data.toList = x from rfl] at HN
    generalize numR 16 1114111 x = q at *
    obtain ⟨n, ok⟩ := q
    go_enter Tryd.func58, Tryd.ntmps58
    go_wp2_with fail
    refine HC1.out.mono ?_
    rintro e w1 ⟨rfl, rfl⟩
    go_wp2_with fail
    refine HC2.out.mono ?_
    rintro e w1 ⟨rfl, rfl⟩
    go_wp2_with fail
    refine HN.out.mono ?_
    rintro e w2 ⟨rfl, g2⟩
    cases ok
    · have hE5 := hid (show E = none by rw [hE3.out]; unfold chrO; simp)
      go_wp2
      ((try simp only [Exit.inBlock, Exit.then]); refine bodyPost_ret (results_tmp2 rfl _ _ _) rfl ?_)
      rw [hE5.out]
      exact ⟨rfl, g2⟩
    · by_cases h6 : x.length ≤ 6
      · have HFIN := hid (show E = chrO (n, true) by rw [hE3.out, if_pos h6])
        by_cases hc : charP n
        · have hE5 := hid (show E = some (Lib.encodeRune n) by rw [HFIN.out]; exact if_pos ⟨rfl, hc⟩)
          have hn0 : 0 ≤ n := by unfold charP at hc; omega
          have hn1 : n ≤ 1114111 := by unfold charP at hc; omega
          have HCH := hid (char_x n w2)
          rw [decide_eq_true hc] at HCH
          have HAP := hid (Tryd.utf8_AppendRune_plain w2.heap.size (.slice none 0 0) 0 [] n (by omega) (by omega) w2 ⟨rfl, .inl ⟨rfl, rfl⟩⟩ (by omega) (Nat.le_refl _))
          clear hc
          go_wp2_with fail
          refine HCH.out.mono ?_
          rintro e w3 ⟨rfl, rfl⟩
          go_wp2_with fail
          refine HAP.out.mono ?_
          rintro e w4 ⟨v4, rfl, hown, o, g4⟩
          have hb : Bytes w4 v4 (Lib.encodeRune n) := by
            refine bytes_of_own (base := w3.heap.size) (e := 5) (n := 0 + (Lib.runeCells n).length) ?_
            have := Lib.byteCells_encodeRune n
            unfold Lib.byteCells at this
            rw [this]
            exact hown
          go_wp2_with (refine wpl_b2s rfl 22 9 5 _ rfl Tryd.underlying22 Tryd.underlying5 Tryd.underlying9 _ (Lib.encodeRune n) rfl hb ?_)
          ((try simp only [Exit.inBlock, Exit.then]); refine bodyPost_ret (results_tmp2 rfl _ _ _) rfl ?_)
          rw [hE5.out]
          exact ⟨rfl, gr_trans g2 (gr_trans (gr_alloc (gr_refl _ _) o) g4)⟩
        · have hE5 := hid (show E = none by rw [HFIN.out]; exact if_neg (fun h => hc h.2))
          have HCH := hid (char_x n w2)
          rw [decide_eq_false hc] at HCH
          clear hc
          go_wp2_with fail
          refine HCH.out.mono ?_
          rintro e w3 ⟨rfl, rfl⟩
          go_wp2
          ((try simp only [Exit.inBlock, Exit.then]); refine bodyPost_ret (results_tmp2 rfl _ _ _) rfl ?_)
          rw [hE5.out]
          exact ⟨rfl, g2⟩
      · have hE5 := hid (show E = none by rw [hE3.out, if_neg h6])
        go_wp2
        ((try simp only [Exit.inBlock, Exit.then]); refine bodyPost_ret (results_tmp2 rfl _ _ _) rfl ?_)
        rw [hE5.out]
        exact ⟨rfl, g2⟩
end Go.Proofs.YtllmdlpogjjmcaaDoor
