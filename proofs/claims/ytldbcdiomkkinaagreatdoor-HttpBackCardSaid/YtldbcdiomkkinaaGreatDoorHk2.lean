/- HttpBack: the walk. -/
import Derived.Test.YtldbcdiomkkinaaGreatDoorHk1
import Derived.Deep.QuietTactic
import Derived.BigQuiet
namespace Go.Proofs.YtldbcdiomkkinaaGreatDoor
open Go.RowKit

/-- Texts that came in. -/
def BodsAt (w : World) (a : Option Addr) (ls : List (List UInt8)) : Prop := ls.length = 0 ∨ ∃ b o, a = some ⟨b, o, none⟩ ∧ ∀ i, i < ls.length → ∃ v, w.cell? ⟨b, o + i, none⟩ = some v ∧ Bytes w v (ls.getD i [])
theorem own_start {w w4 : World} (h : w4.heap[w.heap.size]? = some (.cells #[] 5 (0, 0))) : Own8 w4 w.heap.size (.slice (some ⟨w.heap.size, 0, none⟩) 0 0) [] :=
  ⟨rfl, .inr ⟨_, 0, _, rfl, Nat.le_refl _, h, Nat.le_refl _, Nat.zero_le _, rfl, rfl⟩⟩
theorem allT_snoc (ls : List (List UInt8)) {j : Nat} (hj : j < ls.length) : allT (ls.take (j + 1)) = allT (ls.take j) ++ askG (ls.getD j []) := by
  unfold allT
  rw [List.take_add_one, List.getElem?_eq_getElem hj, List.getD_eq_getElem?_getD, List.getElem?_eq_getElem hj, List.flatMap_append]
  simp
theorem hostg_pairs {w : World} {g : Nat} (h : w.heap[g]? = some (.cells #[.string ⟨#[72, 79, 83, 84]⟩, .string ⟨#[104]⟩] 26 (0, 0))) : PairsAt w (some ⟨g, 0, none⟩) [(hostG, ([104] : List UInt8))].length (fsN [(hostG, [104])]) (fsV [(hostG, [104])]) := by
  refine .inr ⟨g, 0, rfl, fun i hi => ?_⟩
  obtain rfl : i = 0 := by simpa using hi
  exact ⟨(cell_of_block h 0).trans rfl, (cell_of_block h 1).trans rfl⟩
def BkS (w : World) (m : Nat) (v : Value) (wr : World) : Prop := ∃ i : Nat, i ≤ m ∧ v = .int .i64 (i : Int) ∧ w.grownBy wr none
theorem resp_len0 (n : Int) : (respL n [] [] true).length ≤ 60000 := by
  unfold respL writeL
  rw [List.length_append, List.length_append]
  have hst := stN_le n
  have hf := (first_len hst.1 hst.2).2
  have := join_len [13, 10] 4096 (rowsW (firstR (stN n)) [] ([] : List UInt8).length (!true)) (by
    intro x hx
    unfold rowsW at hx
    have hi : (Lib.itoa (0 : Int)).length ≤ 21 := itoa_len 0 (by omega)
    simp [clenL] at hx
    rcases hx with rfl | rfl
    · omega
    · simp; omega)
  have hr : (rowsW (firstR (stN n)) [] ([] : List UInt8).length (!true)).length = 2 := rfl
  rw [hr] at this
  simp at this ⊢
  omega
theorem resp_stat (n : Int) : statL (respL n [] [] true) = ((stN n : Int), false) := by
  obtain ⟨R, hR⟩ := write_shape (firstR (stN n)) [] [] (!true)
  have hst := stN_le n
  rw [show respL n [] [] true = firstR (stN n) ++ 13 :: 10 :: R from hR]
  have := stat_law hst.1 hst.2 R (firstR (stN n) ++ 13 :: 10 :: R).length (Nat.le_refl _)
  rw [List.take_length, if_neg (by simp <;> omega)] at this
  exact this
theorem resp_ne (n : Int) : respL n [] [] true ≠ [] := by
  obtain ⟨R, hR⟩ := write_shape (firstR (stN n)) [] [] (!true)
  rw [show respL n [] [] true = firstR (stN n) ++ 13 :: 10 :: R from hR]
  simp
def BkR (w : World) (base : Nat) (ls : List (List UInt8)) (v5 v22 : Value) (wr : World) : Prop :=
  ∃ j : Nat, j ≤ ls.length ∧ v22 = .int .i64 (j : Int) ∧ Own8 wr base v5 (allT (ls.take j)) ∧ w.grownBy wr none ∧ ∀ i, i < j → (ls.getD i []).length ≤ 8192
set_option maxRecDepth 20000 in
set_option maxHeartbeats 4000000 in
theorem back_walk (ls : List (List UInt8)) (ba : Option Addr) (bc : Nat) (n mx : Int) (w : World) (hb : BodsAt w ba ls) (hbc : ls.length ≤ bc) (hm : w.cell? ⟨0, 0, none⟩ = some (.int .i64 mx)) (h10 : P10 w) :
    Calls Tryz.prog 5 #[.slice ba ls.length bc, .int .i64 n] w fun e w' => e = .returned (.bool true) ∧ w.grownBy w' none := by
  have HB := hid hb
  have HM := hid hm
  have HT := hid h10
  have HSZ := hid (World.block_lt_of_cell? _ _ hm : 0 < w.heap.size)
  clear hb hm h10
  obtain ⟨m, hmq⟩ : ∃ m, m = ls.length := ⟨_, rfl⟩
  have HML := hid hmq
  rw [← hmq] at hbc ⊢
  clear hmq
  by_cases k1 : 20 < m
  · have k1' : decide ((20 : Int) < (m : Int)) = true := by simp; omega
    go_enter Tryz.func5, Tryz.ntmps5
    go_wp2_with fail
    refine (speaks_http w mx HM.out).mono ?_
    rintro e w1 ⟨rfl, g1⟩
    go_wp2_with fail
    go_ret
    exact ⟨rfl, g1⟩
  · have k1' : decide ((20 : Int) < (m : Int)) = false := by simp; omega
    go_enter Tryz.func5, Tryz.ntmps5
    go_wp2_with fail
    refine (speaks_http w mx HM.out).mono ?_
    rintro e w1 ⟨rfl, g1⟩
    have hN := heap_alloc_new w1 (.cells #[] 5)
    have g2 := World.grownBy_alloc w1 (.cells #[] 5) none
    have hz1 := g1.size
    go_wp2_with fail
    revert hN g2
    generalize w1.alloc _ = w2
    intro hN g2
    have HOW := hid (own_start hN)
    have hblt := lt_of_block hN
    have HG2 := hid g1
    have HGA := hid g2
    obtain ⟨base, hbs⟩ : ∃ x, x = w1.heap.size := ⟨_, rfl⟩
    rw [← hbs] at HOW hblt ⊢
    have HBW := hid (show w.heap.size ≤ base by omega)
    have HBT := hid (show w1.heap.size ≤ base by omega)
    have HBE := hid hbs
    clear hN g1 g2 hbs hblt hz1
    go_loopw [5, 22] (fun v5 v22 wr => BkR w1 base ls v5 v22 wr) (fun _ v22 _ => m - (intOf v22).toNat)
    case atStart => exact ⟨0, Nat.zero_le _, rfl, HOW.out, HGA.out, fun i hi => by omega⟩
    case round =>
      clear HOW
      obtain ⟨j, hj, rfl, hown, hg, hsm⟩ := hrel
      have HOWN := hid hown
      have HG := hid hg
      have HSM := hid hsm
      obtain ⟨a5, c5, e5, -, -⟩ := hown.byAt.shape
      subst e5
      clear hown hg hsm
      by_cases hjn : j < m
      · obtain ⟨b, o, rfl, hpc⟩ : ∃ b o, ba = some ⟨b, o, none⟩ ∧ ∀ i, i < ls.length → ∃ v, w.cell? ⟨b, o + i, none⟩ = some v ∧ Bytes w v (ls.getD i []) := by
          rcases HB.out with h | h
          · have := HML.out; omega
          · exact h
        obtain ⟨vb, hc, hby⟩ := hpc j (by rw [← HML.out]; exact hjn)
        have hsn := allT_snoc ls (show j < ls.length by rw [← HML.out]; exact hjn)
        obtain ⟨bd, hbd⟩ : ∃ x, x = ls.getD j [] := ⟨_, rfl⟩
        rw [← hbd] at hby hsn
        have HBY := hid hby
        obtain ⟨ab, cb, rfl, -, -, -⟩ := hby
        have hcr := (gr_trans HG2.out HG.out).cell hc (by simp)
        have hjn' : (j : Int) < (m : Int) := by omega
        have HSN := hid hsn
        have HBD := hid hbd
        clear hpc hc hsn hbd
        by_cases h8 : 8192 < bd.length
        · have h8' : decide ((8192 : Int) < (bd.length : Int)) = true := by simp; omega
          go_wp2_with fail
          go_ret
          exact ⟨rfl, gr_trans HG2.out HG.out⟩
        · have h8' : decide ((8192 : Int) < (bd.length : Int)) = false := by simp; omega
          have hN := heap_alloc_new wr (.cells #[.string ⟨#[72, 79, 83, 84]⟩, .string ⟨#[104]⟩] 26)
          have g3 := World.grownBy_alloc wr (.cells #[.string ⟨#[72, 79, 83, 84]⟩, .string ⟨#[104]⟩] 26) none
          go_wp2_with fail
          revert hN g3
          generalize wr.alloc _ = w3
          intro hN g3
          have HPF := hid (hostg_pairs hN)
          have HG3 := hid (gr_trans HG.out g3)
          have HO3 := hid (HOWN.out.keep g3)
          clear hN g3 hcr HOWN
          refine (ask_http postL slxL [(hostG, [104])] bd _ _ _ w3 HPF.out (HBY.out.grown (gr_trans HG2.out HG3.out)) (by decide) (by decide) (by decide) (by omega) (HT.out.grown (gr_trans HG2.out HG3.out))).mono ?_
          rintro e w4 ⟨v4, rfl, hbo, g4⟩
          have HBO := hid hbo.bytes
          have HG4 := hid (gr_trans HG3.out g4)
          have HO4 := hid (HO3.out.keep g4)
          have hAl : (allT (ls.take j)).length ≤ 20 * 8292 := Nat.le_trans (allT_len (ls.take j) (fun x hx => by
            obtain ⟨i, hi, rfl⟩ := List.mem_iff_getElem.1 hx
            rw [List.length_take] at hi
            have := HSM.out i (by omega)
            rw [List.getD_eq_getElem?_getD, List.getElem?_eq_getElem (by omega)] at this
            rw [List.getElem_take]
            exact this)) (Nat.mul_le_mul_right _ (by rw [List.length_take]; omega))
          have hKl := askG_len bd (by omega)
          obtain ⟨av, ac, eav, -, -⟩ := hbo.shape
          subst eav
          have HLL := hid (show (allT (ls.take j)).length + (askG bd).length ≤ 1000000 by omega)
          have HSM2 := hid (show ∀ i, i < j + 1 → (ls.getD i []).length ≤ 8192 from fun i hi => by
            by_cases hij : i < j
            · exact HSM.out i hij
            · obtain rfl : i = j := by omega
              rw [← HBD.out]; omega)
          have HBG := hid (show base ≤ w4.heap.size by have := HBE.out; have := HG4.out.size; omega)
          obtain ⟨K, hK⟩ : ∃ K, K = askG bd := ⟨_, rfl⟩
          obtain ⟨A, hA⟩ : ∃ A, A = allT (ls.take j) := ⟨_, rfl⟩
          rw [show askL postL slxL [(hostG, [104])] bd = K from hK.symm] at HBO ⊢
          rw [← hK, ← hA] at HSN HLL
          rw [← hA] at HO4 ⊢
          clear hbo g4 HPF HG3 HO3 hAl hKl hK hA HSM
          go_wp2_with (at_builtin; refine wpl_app8 rfl _ _ rfl rfl rfl HO4.out HBO.out HLL.out HBG.out ?_; intro v5 w5 hown5 g5)
          have HW5 := hid (show BkR w1 base ls v5 (.int .i64 ((j : Int) + 1)) w5 from ⟨j + 1, by have := HML.out; omega, by simp, by rw [HSN.out]; exact hown5, gr_row HG4.out HO4.out HBT.out g5, HSM2.out⟩)
          obtain ⟨a5', c5', e5', -, -⟩ := hown5.byAt.shape
          subst e5'
          clear hown5 g5 HO4 HBO
          go_wp2_with fail
          go_roundw
          case rel => exact HW5.out
          case measure => first | (simp [intOf]; done) | (simp [intOf]; omega)
      · obtain rfl : j = m := by have := HML.out; omega
        have hjl := HML.out
        rw [hjl, List.take_length] at HOWN
        have hsm' : ∀ b ∈ ls, b.length ≤ 8192 := fun x hx => by
          obtain ⟨i, hi, rfl⟩ := List.mem_iff_getElem.1 hx
          have := HSM.out i (by omega)
          rw [List.getD_eq_getElem?_getD, List.getElem?_eq_getElem hi] at this
          exact this
        obtain ⟨y, hy, hrd⟩ := back_read ls 0 hsm' (by omega) (Nat.zero_le _)
        have hal := allT_len ls hsm'
        have hal2 : ls.length * 8292 ≤ 20 * 8292 := Nat.mul_le_mul_right _ (by omega)
        have HRD := hid (show feedL Ps.new (allT ls) = (ls.map pdA, Ps.idle y) from hrd)
        have HAL := hid (show (allT ls).length ≤ 200000 by omega)
        have HGR := hid (gr_trans HG2.out HG.out)
        rw [hjl, List.take_length]
        have hszw : 0 < wr.heap.size := by have := HGR.out.size; have := HSZ.out; omega
        clear hrd hal hal2 hsm' HSM HG hy
        obtain ⟨AL, hAL⟩ : ∃ A, A = allT ls := ⟨_, rfl⟩
        rw [← hAL] at HRD HAL HOWN ⊢
        try rw [← hjl]
        try rw [← hjl] at hbc
        clear hAL hjl
        go_wp2_with fail
        refine (new_http wr).mono ?_
        rintro e w3 ⟨rfl, hb3, g3⟩
        obtain ⟨p, hp⟩ : ∃ x, x = wr.heap.size := ⟨_, rfl⟩
        rw [← hp] at hb3 ⊢
        have hp0 : p ≠ 0 := by omega
        have HP := hid (new_at hb3)
        have HPP := hid (show w.heap.size ≤ p by have := HGR.out.size; omega)
        have HG3 := hid (gr_trans HGR.out g3)
        have HM3 := hid (HG3.out.cell HM.out (by simp))
        have HO3 := hid (HOWN.out.keep g3).bytes
        clear hb3 g3 hp hszw HOWN HGR
        go_wp2_with fail
        refine (feed_http p Ps.new w3 mx AL _ HP.out new_inv HM3.out hp0 HO3.out (by show 0 + AL.length ≤ 200000; have := HAL.out; omega)).mono ?_
        rintro e w4 ⟨v9, rfl, hpa, hst, g4⟩
        rw [HRD.out] at hpa hst
        dsimp only at hpa hst
        obtain ⟨a9, c9, e9⟩ := hpa.shape
        rw [List.length_map, ← HML.out] at e9
        subst e9
        have HPA := hid hpa
        have HST := hid hst
        have HG4 := hid (gr_new HG3.out g4 HPP.out)
        clear hpa hst g4 HP HM3 HO3 HG3 HRD HAL
        have hI := hid (show Calls Tryz.prog 17 #[.pointer (some ⟨p, 0, none⟩)] w4 fun e w' => e = .returned (.bool true) ∧ w' = w4 from idle_http p (Ps.idle y) w4 HST.out)
        have hD := hid (show Calls Tryz.prog 18 #[.pointer (some ⟨p, 0, none⟩)] w4 fun e w' => e = .returned (.bool false) ∧ w' = w4 from dead_http p (Ps.idle y) w4 HST.out)
        go_wp2_with fail
        refine hI.out.mono ?_
        rintro e w5 ⟨rfl, rfl⟩
        go_wp2_with fail
        refine hD.out.mono ?_
        rintro e w6 ⟨rfl, rfl⟩
        go_wp2_with fail
        clear hI hD HST
        go_loopw [58] (fun v58 wr => BkS w6 j v58 wr) (fun v58 _ => j - (intOf v58).toNat)
        case atStart => exact ⟨0, Nat.zero_le _, rfl, gr_refl _ _⟩
        case round =>
          obtain ⟨i, hi, rfl, hg⟩ := hrel
          have HG := hid hg
          have HGW := hid (gr_trans HG4.out hg)
          clear hg
          by_cases him : i < j
          · have hil : i < ls.length := by rw [← HML.out]; exact him
            have hgi : (ls.map pdA)[i]? = some (pdA (ls.getD i [])) := by
              rw [List.getElem?_map, List.getD_eq_getElem?_getD, List.getElem?_eq_getElem hil]; rfl
            obtain ⟨g, cap, fv, bv, ea, -, ⟨hcc, hna⟩, hcell, hfs, hbo⟩ := (HPA.out.grow HG.out).get hgi
            simp only [Value.slice.injEq] at ea
            obtain ⟨rfl, -, rfl⟩ := ea
            rw [List.length_map] at hcc hna
            obtain ⟨b, o, rfl, hpc⟩ : ∃ b o, ba = some ⟨b, o, none⟩ ∧ ∀ i, i < ls.length → ∃ v, w.cell? ⟨b, o + i, none⟩ = some v ∧ Bytes w v (ls.getD i []) := by
              rcases HB.out with h | h
              · omega
              · exact h
            obtain ⟨vb, hc, hby⟩ := hpc i hil
            have HBY := hby.grown HGW.out
            have hcr := HGW.out.cell hc (by simp)
            obtain ⟨bd, hbd⟩ : ∃ x, x = ls.getD i [] := ⟨_, rfl⟩
            rw [← hbd] at HBY hcell hfs hbo
            obtain ⟨ab, cb, rfl, -, -, -⟩ := id HBY
            obtain ⟨fa, fc, ef⟩ := hfs.shape
            replace ef : fv = .slice fa 2 fc := ef
            subst ef
            obtain ⟨ba2, bc2, eb, -, -⟩ := hbo.shape
            replace eb : bv = .slice ba2 bd.length bc2 := eb
            subst eb
            have a0 : wr.cell? ⟨g, i * 7, none⟩ = some (.int .i64 0) := hcell 0 _ rfl
            have a1' : wr.cell? ⟨g, i * 7 + 1, none⟩ = some (.string ⟨#[80, 79, 83, 84]⟩) := hcell 1 _ rfl
            have a2 : wr.cell? ⟨g, i * 7 + 2, none⟩ = some (.string ⟨#[47, 120]⟩) := hcell 2 _ rfl
            have a3 : wr.cell? ⟨g, i * 7 + 3, none⟩ = some (.int .i64 1) := hcell 3 _ rfl
            have a4 : wr.cell? ⟨g, i * 7 + 4, none⟩ = some (.slice fa 2 fc) := hcell 4 _ rfl
            have a5 : wr.cell? ⟨g, i * 7 + 5, none⟩ = some (.slice ba2 bd.length bc2) := hcell 5 _ rfl
            have a6 : wr.cell? ⟨g, i * 7 + 6, none⟩ = some (.bool true) := hcell 6 _ rfl
            have HQA := hid hbo.bytes
            have HQB := hid HBY
            have hnm : j ≤ 9223372036854775807 := by have := HML.out; unfold maxLen at hna; omega
            have hin' : (i : Int) < (j : Int) := by omega
            clear hcell hgi hby hc hpc hbd hna hfs hbo HBY
            have hN := heap_alloc_new wr (.cells #[.int .i64 0, .string ⟨#[80, 79, 83, 84]⟩, .string ⟨#[47, 120]⟩, .int .i64 1, .slice fa 2 fc, .slice ba2 bd.length bc2, .bool true] 46)
            have g2 := World.grownBy_alloc wr (.cells #[.int .i64 0, .string ⟨#[80, 79, 83, 84]⟩, .string ⟨#[47, 120]⟩, .int .i64 1, .slice fa 2 fc, .slice ba2 bd.length bc2, .bool true] 46) none
            go_wp2_with fail
            revert hN g2
            generalize wr.alloc _ = wx
            intro hN g2
            have hcx := g2.cell hcr (by simp)
            have c0 := (cell_of_block hN 0).trans (show _ = some (Value.int .i64 0) from rfl)
            have c4 := (cell_of_block hN 4).trans (show _ = some (Value.slice fa 2 fc) from rfl)
            have c5' := (cell_of_block hN 5).trans (show _ = some (Value.slice ba2 bd.length bc2) from rfl)
            have c6 := (cell_of_block hN 6).trans (show _ = some (Value.bool true) from rfl)
            have hqa : ∀ n, (convert 22 9 (.slice ba2 bd.length bc2)).run Tryz.prog (wx.drewN n) = .ok (.string ⟨bd.toArray⟩) (wx.drewN n) := fun n => run_b2s (w := wx.drewN n) Tryz.underlying22 Tryz.underlying5 Tryz.underlying9 (HQA.out.grown (gr_drewN n g2))
            have hqb : ∀ n, (convert 22 9 (.slice ab bd.length cb)).run Tryz.prog (wx.drewN n) = .ok (.string ⟨bd.toArray⟩) (wx.drewN n) := fun n => run_b2s (w := wx.drewN n) Tryz.underlying22 Tryz.underlying5 Tryz.underlying9 (HQB.out.grown (gr_drewN n g2))
            have GX := hid (gr_trans HG.out g2)
            have hqz : wr.heap.size < wx.heap.size := lt_of_block hN
            obtain ⟨z, hz⟩ : ∃ z, z = wr.heap.size := ⟨_, rfl⟩
            rw [← hz] at c0 c4 c5' c6 hqz ⊢
            clear hN g2 hz hcr HQA HQB a0 a1' a2 a3 a4 a5 a6
            obtain ⟨B, hB⟩ : ∃ B, B = bd.toArray := ⟨_, rfl⟩
            obtain ⟨N, hN⟩ : ∃ N, N = bd.length := ⟨_, rfl⟩
            rw [← hB, ← hN] at hqa hqb
            rw [← hN] at c5' hcx
            clear hB hN
            go_wp2_with fail
            go_quiet (fail)
            go_wp2_with fail
            go_roundw
            case rel => exact ⟨i + 1, by omega, by first | go_num | (congr 1; omega), gr_drewN _ GX.out⟩
            case measure => first | (simp [intOf]; done) | (simp [intOf]; omega)
          · obtain rfl : i = j := by omega
            have HRS := hid (resp_stat n)
            go_wp2_with fail
            refine (response_http n [] [] true none 0 (.slice none 0 0) wr (.inl rfl) (Bytes.nil _) (by decide) (by simp) (by decide) (HT.out.grown HGW.out)).mono ?_
            rintro e w7 ⟨v7, rfl, hbo, g7⟩
            have HBY := hid hbo.bytes
            obtain ⟨a3, c3, rfl, hc3, hm3, h3⟩ := hbo.bytes
            obtain ⟨g, off, rfl, hcell⟩ := h3 (resp_ne n)
            clear hbo hcell h3
            go_wp2_with fail
            refine (status_http _ _ w7 HBY.out (.inr ⟨_, _, _, rfl⟩) (by have := resp_len0 n; omega)).mono ?_
            rintro e w8 ⟨rfl, g8⟩
            rw [HRS.out]
            dsimp only
            have HGF := hid (gr_trans (gr_trans HGW.out g7) g8)
            clear g7 g8 hc3 hm3
            by_cases k100 : n < 100
            · rw [show (stN n : Int) = 500 by unfold stN; rw [if_neg (by omega)]; rfl]
              have hne : ¬ (500 = n) := by omega
              go_wp2_with fail
              go_ret
              exact ⟨rfl, HGF.out⟩
            · by_cases k999 : 999 < n
              · rw [show (stN n : Int) = 500 by unfold stN; rw [if_neg (by omega)]; rfl]
                have hne : ¬ (500 = n) := by omega
                go_wp2_with fail
                go_ret
                exact ⟨rfl, HGF.out⟩
              · rw [show (stN n : Int) = n by unfold stN; rw [if_pos (by omega)]; omega]
                go_wp2_with fail
                go_ret
                exact ⟨rfl, HGF.out⟩
end Go.Proofs.YtldbcdiomkkinaaGreatDoor
