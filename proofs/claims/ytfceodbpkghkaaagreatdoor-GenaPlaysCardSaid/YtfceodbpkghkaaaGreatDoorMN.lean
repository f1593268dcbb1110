/- Texts of one proof, put together: Gn7, Gn8. -/
import Derived.Test.YtfceodbpkghkaaaGreatDoorGn6
import Derived.Test.YtfceodbpkghkaaaGreatDoorBu1
import Derived.Test.YtfceodbpkghkaaaGreatDoorArg
import Derived.Test.YtfceodbpkghkaaaGreatDoorReg3
import Derived.BigQuiet
import Derived.Deep.DeepCutAuto
/- gena.Body. -/
namespace Go.Proofs.YtfceodbpkghkaaaGreatDoor
open Go.RowKit
set_option linter.unusedVariables false
set_option linter.unusedSimpArgs false

theorem below_cell {B : Nat} {w w' : World} (h : Below B w w') {b o : Nat} (hb : b < B) : w'.cell? ⟨b, o, none⟩ = w.cell? ⟨b, o, none⟩ := by
  unfold World.cell?
  rw [h.block b hb]
section
variable {P : Program} {ops : Array Oper} {rest : List Oper} {o : Oper} {a : Act} {w : World} {Q : Exit → Act → World → Prop}
/-- A call by its contract. -/
theorem wpl_call (hg : o.guard = none) (d : Option Tmp) (hd : o.dst = d) (f : FuncId) (args : Array Value) (hrun : (execOp a.eval o).run P w = .ok (.enter f args) w) {R : Ending → World → Prop} (hc : Calls P f args w R)
    (hret : ∀ e w', R e w' → ∃ v, e = .returned v) (h : ∀ v w', R (.returned v) w' → wpList P ops Q rest (a.put d v) w') : wpList P ops Q (o :: rest) a w := by
  subst hd
  refine wpList_plain hg fun K hK => ?_
  unfold Oper.wp
  rw [hrun, Oper.upon_enter]
  refine hc.mono fun e w'' hh => ?_
  obtain ⟨v, rfl⟩ := hret _ _ hh
  exact hK _ _ (h _ _ hh)
end
set_option maxHeartbeats 4000000 in
set_option maxRecDepth 20000 in
theorem body_x (xs : Gp) (v : Value) (w : World) (hv : ArgsAt w v xs) (hx : SmP xs) :
    Calls Tryz.prog 12 #[v] w fun e w' => ∃ v', e = .returned v' ∧ Bytes w' v' (bodL xs) ∧ w.grownBy w' none := by
  obtain ⟨a, c, rfl, hp⟩ := hv
  have HP := hid hp
  have HX := hid hx
  have hn := hx.n
  have HB0 := hid (bld_new w)
  have G0 := hid (gr_alloc (gr_refl w none) (.cells #[.pointer none, .slice none 0 0] 80))
  have HP1 := hid (hp.grown G0.out)
  obtain ⟨B, hB⟩ : ∃ B, B = w.heap.size := ⟨_, rfl⟩
  rw [← hB] at HB0
  have HBe := hid hB
  have HW0 := hid (wstr_x B B [] bdA _ HB0.out (by simp [bdA]) (by rw [hB]; exact G0.out.size))
  clear hp hx hB
  go_enter Tryz.func12, Tryz.ntmps12
  go_wp2_with fail
  rw [← HBe.out]
  refine HW0.out.mono ?_
  rintro e w1 ⟨⟨v1, rfl⟩, hb1, hbe1⟩
  have J0 := hid (And.intro hb1 (gr_bel HBe.out G0.out hbe1))
  clear hb1 hbe1 HW0 HB0
  go_wp2_with fail
  go_loopw [9] (fun v9 wx => ∃ i : Nat, v9 = .int .i64 (i : Int) ∧ i ≤ xs.length ∧ Hid (BldAt B B (bdM (xs.take i)) wx ∧ w.grownBy wx none)) (fun v9 _ => xs.length - (intOf v9).toNat)
  case atStart => exact ⟨0, rfl, Nat.zero_le _, hid ⟨by have := J0.out.1; rw [List.nil_append] at this; rw [show bdM (xs.take 0) = bdA by simp [bdM]]; exact this, J0.out.2⟩⟩
  case round =>
    clear J0
    obtain ⟨i, rfl, hi, hJ⟩ := hrel
    by_cases hlt : i < xs.length
    · rcases HP.out.grown hJ.out.2 with h0 | ⟨b, o, rfl, hc⟩
      · omega
      obtain ⟨c1, c2⟩ := hc i hlt
      have hmem : xs.getD i ([], []) ∈ xs := by rw [List.getD_eq_getElem?_getD, List.getElem?_eq_getElem hlt]; exact List.getElem_mem hlt
      obtain ⟨h1, h2⟩ := HX.out.each _ hmem
      have HNX := hid (bdM_snoc xs i hlt)
      have hOl := bdM_len (xs.take i) (fun x hx => HX.out.each x (List.mem_of_mem_take hx))
      unfold gN at c1
      unfold gV at c2
      generalize xs.getD i ([], []) = x at c1 c2 h1 h2 HNX
      obtain ⟨N, hN⟩ : ∃ N : ByteArray, N = ⟨x.1.toArray⟩ := ⟨_, rfl⟩
      obtain ⟨V, hV⟩ : ∃ N : ByteArray, N = ⟨x.2.toArray⟩ := ⟨_, rfl⟩
      obtain ⟨E, hE⟩ : ∃ N : ByteArray, N = ⟨(repL escP x.2).toArray⟩ := ⟨_, rfl⟩
      have HESC := hid (fun W => escape_x W x.2 (by omega))
      rw [← hV, ← hE] at HESC
      rw [← hN] at c1
      rw [← hV] at c2
      have hNs : N.size ≤ 100 := by rw [hN, Lib.size_eq]; simpa using h1
      have hEs : E.size ≤ 3000 := by rw [hE, Lib.size_eq]; have := escL_len x.2; unfold escL at this; simp only; omega
      have HB := hid (oneP_bytes x)
      rw [← hN, ← hE] at HB
      have hto : (bdM (xs.take i)).length + (oneP x).length ≤ 1000000 := by
        have := oneP_len x h1 h2
        have : (xs.take i).length ≤ 20 := Nat.le_trans (List.length_take_le' _ _) hn
        omega
      have HWS := hid (fun W h hB => wstr_x B B (bdM (xs.take i)) (oneP x) W (.inr h) hto hB)
      rw [← HNX.out] at HWS
      have GA := hid (gr_alloc (gr_refl wr none) (.cells #[.string N, .string V] 58))
      have NB := hid (heap_alloc_new wr (.cells #[.string N, .string V] 58))
      obtain ⟨hb, hg⟩ := hJ.out
      have HBL := hid hb
      have HG := hid hg
      have hBs := hid (show B ≤ wr.heap.size by rw [HBe.out]; exact hg.size)
      clear hN hV hE HNX hOl h1 h2 hmem hb hg hto hJ
      go_wp2_with fail
      generalize wr.alloc (.cells #[.string N, .string V] 58) = w5 at GA NB ⊢
      have p0 : w5.cell? ⟨wr.heap.size, 0, none⟩ = some (.string N) := (cell_of_block NB.out 0).trans rfl
      have p1 : w5.cell? ⟨wr.heap.size, 1, none⟩ = some (.string V) := (cell_of_block NB.out 1).trans rfl
      obtain ⟨A, hA⟩ : ∃ A, A = wr.heap.size := ⟨_, rfl⟩
      rw [← hA] at p0 p1 NB ⊢
      obtain ⟨w0, hw0⟩ : ∃ w0, w0 = w5 := ⟨_, rfl⟩
      rw [← hw0] at p0 p1 GA ⊢
      clear hw0 hA NB
      refine wp_region_spec3 13 6 none (by kernel_rfl) (by kernel_rfl) (by kernel_rfl) (by kernel_rfl) (by kernel_rfl) (by kernel_rfl) [some 13, some 14, some 15, some 16, some 17, some 18, some 19, some 20, some 21, some 22, some 23, some 24, some 25] (by kernel_rfl) _ (fun u => (by simp only [fill, List.zipIdx_cons, List.zipIdx_nil, List.foldl_cons, List.foldl_nil, Act.put, List.setIfInBounds_toArray, List.set_cons_zero, List.set_cons_succ, Nat.zero_add, Nat.reduceAdd]; exact rfl)) (by kernel_rfl)
        (all_succ (all_succ (all_succ (all_succ (all_succ (all_succ (all_succ (all_succ (all_succ (all_succ (all_succ (all_succ (all_succ (all_zero _) (fun u v => by kernel_rfl)) (fun u v => by kernel_rfl)) (fun u v => by kernel_rfl)) (fun u v => by kernel_rfl)) (fun u v => by kernel_rfl)) (fun u v => by kernel_rfl)) (fun u v => by kernel_rfl)) (fun u v => by kernel_rfl)) (fun u v => by kernel_rfl)) (fun u v => by kernel_rfl)) (fun u v => by kernel_rfl)) (fun u v => by kernel_rfl)) (fun u v => by kernel_rfl))
        (fun ri v w => match ri with | 0 => v = .pointer (some ⟨A, 0, none⟩) | 1 => v = .string N | 2 => v = .string ((⟨#[60, 101, 58, 112, 114, 111, 112, 101, 114, 116, 121, 62, 60]⟩ : ByteArray) ++ N) | 3 => v = .string (((⟨#[60, 101, 58, 112, 114, 111, 112, 101, 114, 116, 121, 62, 60]⟩ : ByteArray) ++ N) ++ (⟨#[62]⟩ : ByteArray)) | 4 => v = .pointer (some ⟨A, 1, none⟩) | 5 => v = .string V | 6 => v = .string E | 7 => v = .string ((((⟨#[60, 101, 58, 112, 114, 111, 112, 101, 114, 116, 121, 62, 60]⟩ : ByteArray) ++ N) ++ (⟨#[62]⟩ : ByteArray)) ++ E) | 8 => v = .string (((((⟨#[60, 101, 58, 112, 114, 111, 112, 101, 114, 116, 121, 62, 60]⟩ : ByteArray) ++ N) ++ (⟨#[62]⟩ : ByteArray)) ++ E) ++ (⟨#[60, 47]⟩ : ByteArray)) | 9 => v = .pointer (some ⟨A, 0, none⟩) | 10 => v = .string N | 11 => v = .string ((((((⟨#[60, 101, 58, 112, 114, 111, 112, 101, 114, 116, 121, 62, 60]⟩ : ByteArray) ++ N) ++ (⟨#[62]⟩ : ByteArray)) ++ E) ++ (⟨#[60, 47]⟩ : ByteArray)) ++ N) | 12 => v = .string ⟨(oneP x).toArray⟩ | _ => True)
        (all_succ (all_succ (all_succ (all_succ (all_succ (all_succ (all_succ (all_succ (all_succ (all_succ (all_succ (all_succ (all_succ (all_zero _) ?gm0) ?gm1) ?gm2) ?gm3) ?gm4) ?gm5) ?gm6) ?gm7) ?gm8) ?gm9) ?gm10) ?gm11) ?gm12)
        [[], [0], [1], [2], [], [4], [5], [3, 6], [7], [], [9], [8, 10], [11]] (by kernel_rfl)
        ⟨?go0, ?go1, ?go2, ?go3, ?go4, ?go5, ?go6, ?go7, ?go8, ?go9, ?go10, ?go11, ?go12, trivial⟩ ?gdone
      case gm0 => intro v w w' h g; exact h
      case gm1 => intro v w w' h g; exact h
      case gm2 => intro v w w' h g; exact h
      case gm3 => intro v w w' h g; exact h
      case gm4 => intro v w w' h g; exact h
      case gm5 => intro v w w' h g; exact h
      case gm6 => intro v w w' h g; exact h
      case gm7 => intro v w w' h g; exact h
      case gm8 => intro v w w' h g; exact h
      case gm9 => intro v w w' h g; exact h
      case gm10 => intro v w w' h g; exact h
      case gm11 => intro v w w' h g; exact h
      case gm12 => intro v w w' h g; exact h
      case go0 =>
        intro u w g hd K hK
        replace g : w0.grownBy w (none) := g
        clear hd
        simp only [Act.put, List.setIfInBounds_toArray, List.set_cons_zero, List.set_cons_succ] at hK
        go_simp
        exact hK _ _ rfl (gr_refl _ _)
      case go1 =>
        intro u w g hd K hK
        replace g : w0.grownBy w (none) := g
        have h0 : (u 0) = .pointer (some ⟨A, 0, none⟩) := hd 0 (by simp)
        clear hd
        simp only [Act.put, List.setIfInBounds_toArray, List.set_cons_zero, List.set_cons_succ] at hK
        have c := g.cell p0 (by simp)
        simp only [h0] at hK ⊢
        go_simp
        exact hK _ _ rfl (gr_refl _ _)
      case go2 =>
        intro u w g hd K hK
        replace g : w0.grownBy w (none) := g
        have h1 : (u 1) = .string N := hd 1 (by simp)
        clear hd
        simp only [Act.put, List.setIfInBounds_toArray, List.set_cons_zero, List.set_cons_succ] at hK
        simp only [h1] at hK ⊢
        go_simp
        rw [if_neg (by omega), Oper.upon_value]
        exact hK _ _ rfl (gr_refl _ _)
      case go3 =>
        intro u w g hd K hK
        replace g : w0.grownBy w (none) := g
        have h2 : (u 2) = .string ((⟨#[60, 101, 58, 112, 114, 111, 112, 101, 114, 116, 121, 62, 60]⟩ : ByteArray) ++ N) := hd 2 (by simp)
        clear hd
        simp only [Act.put, List.setIfInBounds_toArray, List.set_cons_zero, List.set_cons_succ] at hK
        simp only [h2] at hK ⊢
        go_simp
        rw [if_neg (by omega), Oper.upon_value]
        exact hK _ _ rfl (gr_refl _ _)
      case go4 =>
        intro u w g hd K hK
        replace g : w0.grownBy w (none) := g
        clear hd
        simp only [Act.put, List.setIfInBounds_toArray, List.set_cons_zero, List.set_cons_succ] at hK
        go_simp
        exact hK _ _ rfl (gr_refl _ _)
      case go5 =>
        intro u w g hd K hK
        replace g : w0.grownBy w (none) := g
        have h4 : (u 4) = .pointer (some ⟨A, 1, none⟩) := hd 4 (by simp)
        clear hd
        simp only [Act.put, List.setIfInBounds_toArray, List.set_cons_zero, List.set_cons_succ] at hK
        have c := g.cell p1 (by simp)
        simp only [h4] at hK ⊢
        go_simp
        exact hK _ _ rfl (gr_refl _ _)
      case go6 =>
        intro u w g hd K hK
        replace g : w0.grownBy w none := g
        have h5 : (u 5) = .string V := hd 5 (by simp)
        clear hd
        simp only [Act.put, List.setIfInBounds_toArray, List.set_cons_zero, List.set_cons_succ] at hK
        simp only [h5] at hK ⊢
        go_simp
        refine (HESC.out _).mono ?_
        rintro e w' ⟨rfl, g'⟩
        exact hK _ _ rfl g'
      case go7 =>
        intro u w g hd K hK
        replace g : w0.grownBy w (none) := g
        have h3 : (u 3) = .string (((⟨#[60, 101, 58, 112, 114, 111, 112, 101, 114, 116, 121, 62, 60]⟩ : ByteArray) ++ N) ++ (⟨#[62]⟩ : ByteArray)) := hd 3 (by simp)
        have h6 : (u 6) = .string E := hd 6 (by simp)
        clear hd
        simp only [Act.put, List.setIfInBounds_toArray, List.set_cons_zero, List.set_cons_succ] at hK
        simp only [h3, h6] at hK ⊢
        go_simp
        rw [if_neg (by omega), Oper.upon_value]
        exact hK _ _ rfl (gr_refl _ _)
      case go8 =>
        intro u w g hd K hK
        replace g : w0.grownBy w (none) := g
        have h7 : (u 7) = .string ((((⟨#[60, 101, 58, 112, 114, 111, 112, 101, 114, 116, 121, 62, 60]⟩ : ByteArray) ++ N) ++ (⟨#[62]⟩ : ByteArray)) ++ E) := hd 7 (by simp)
        clear hd
        simp only [Act.put, List.setIfInBounds_toArray, List.set_cons_zero, List.set_cons_succ] at hK
        simp only [h7] at hK ⊢
        go_simp
        rw [if_neg (by omega), Oper.upon_value]
        exact hK _ _ rfl (gr_refl _ _)
      case go9 =>
        intro u w g hd K hK
        replace g : w0.grownBy w (none) := g
        clear hd
        simp only [Act.put, List.setIfInBounds_toArray, List.set_cons_zero, List.set_cons_succ] at hK
        go_simp
        exact hK _ _ rfl (gr_refl _ _)
      case go10 =>
        intro u w g hd K hK
        replace g : w0.grownBy w (none) := g
        have h9 : (u 9) = .pointer (some ⟨A, 0, none⟩) := hd 9 (by simp)
        clear hd
        simp only [Act.put, List.setIfInBounds_toArray, List.set_cons_zero, List.set_cons_succ] at hK
        have c := g.cell p0 (by simp)
        simp only [h9] at hK ⊢
        go_simp
        exact hK _ _ rfl (gr_refl _ _)
      case go11 =>
        intro u w g hd K hK
        replace g : w0.grownBy w (none) := g
        have h8 : (u 8) = .string (((((⟨#[60, 101, 58, 112, 114, 111, 112, 101, 114, 116, 121, 62, 60]⟩ : ByteArray) ++ N) ++ (⟨#[62]⟩ : ByteArray)) ++ E) ++ (⟨#[60, 47]⟩ : ByteArray)) := hd 8 (by simp)
        have h10 : (u 10) = .string N := hd 10 (by simp)
        clear hd
        simp only [Act.put, List.setIfInBounds_toArray, List.set_cons_zero, List.set_cons_succ] at hK
        simp only [h8, h10] at hK ⊢
        go_simp
        rw [if_neg (by omega), Oper.upon_value]
        exact hK _ _ rfl (gr_refl _ _)
      case go12 =>
        intro u w g hd K hK
        replace g : w0.grownBy w (none) := g
        have h11 : (u 11) = .string ((((((⟨#[60, 101, 58, 112, 114, 111, 112, 101, 114, 116, 121, 62, 60]⟩ : ByteArray) ++ N) ++ (⟨#[62]⟩ : ByteArray)) ++ E) ++ (⟨#[60, 47]⟩ : ByteArray)) ++ N) := hd 11 (by simp)
        clear hd
        simp only [Act.put, List.setIfInBounds_toArray, List.set_cons_zero, List.set_cons_succ] at hK
        simp only [h11] at hK ⊢
        go_simp
        rw [if_neg (by omega), Oper.upon_value, HB.out]
        exact hK _ _ rfl (gr_refl _ _)
      case gdone =>
        intro u w hS g
        have s0 : (u 0) = .pointer (some ⟨A, 0, none⟩) := hS 0 (by decide)
        have s1 : (u 1) = .string N := hS 1 (by decide)
        have s2 : (u 2) = .string ((⟨#[60, 101, 58, 112, 114, 111, 112, 101, 114, 116, 121, 62, 60]⟩ : ByteArray) ++ N) := hS 2 (by decide)
        have s3 : (u 3) = .string (((⟨#[60, 101, 58, 112, 114, 111, 112, 101, 114, 116, 121, 62, 60]⟩ : ByteArray) ++ N) ++ (⟨#[62]⟩ : ByteArray)) := hS 3 (by decide)
        have s4 : (u 4) = .pointer (some ⟨A, 1, none⟩) := hS 4 (by decide)
        have s5 : (u 5) = .string V := hS 5 (by decide)
        have s6 : (u 6) = .string E := hS 6 (by decide)
        have s7 : (u 7) = .string ((((⟨#[60, 101, 58, 112, 114, 111, 112, 101, 114, 116, 121, 62, 60]⟩ : ByteArray) ++ N) ++ (⟨#[62]⟩ : ByteArray)) ++ E) := hS 7 (by decide)
        have s8 : (u 8) = .string (((((⟨#[60, 101, 58, 112, 114, 111, 112, 101, 114, 116, 121, 62, 60]⟩ : ByteArray) ++ N) ++ (⟨#[62]⟩ : ByteArray)) ++ E) ++ (⟨#[60, 47]⟩ : ByteArray)) := hS 8 (by decide)
        have s9 : (u 9) = .pointer (some ⟨A, 0, none⟩) := hS 9 (by decide)
        have s10 : (u 10) = .string N := hS 10 (by decide)
        have s11 : (u 11) = .string ((((((⟨#[60, 101, 58, 112, 114, 111, 112, 101, 114, 116, 121, 62, 60]⟩ : ByteArray) ++ N) ++ (⟨#[62]⟩ : ByteArray)) ++ E) ++ (⟨#[60, 47]⟩ : ByteArray)) ++ N) := hS 11 (by decide)
        have s12 : (u 12) = .string ⟨(oneP x).toArray⟩ := hS 12 (by decide)
        clear hS
        replace g : w0.grownBy w none := g
        change wpList _ _ _ [_] _ _
        have GG := gr_trans GA.out g
        simp only [s12]
        refine wpList_plain rfl fun K hK => ?_
        go_simp
        refine (HWS.out _ (HBL.out.keep GG) (Nat.le_trans hBs.out GG.size)).mono ?_
        rintro e w3 ⟨⟨v3, rfl⟩, hbl, hbe⟩
        refine hK _ _ ?_
        have HF := hid (And.intro hbl (gr_bel HBe.out (gr_trans HG.out GG) hbe))
        clear hK s0 s1 s2 s3 s4 s5 s6 s7 s8 s9 s10 s11 s12 hbl hbe GG g p0 p1 HWS HESC HB
        generalize u 0 = v0, u 1 = v1, u 2 = v2', u 3 = v3, u 4 = v4, u 5 = v5, u 6 = v6, u 7 = v7, u 8 = v8, u 9 = v9, u 10 = v10, u 11 = v11, u 12 = v12
        show Exit.inBlock _ _ _ _ _
        go_wp2_with fail
        go_round
        case rel => exact ⟨i + 1, by go_num, by omega, HF⟩
        case measure => simp [intOf]; omega
    · obtain rfl : i = xs.length := by omega
      obtain ⟨hb, hg⟩ := hJ.out
      rw [List.take_length] at hb
      have hll := bdM_len xs HX.out.each
      have hlz : (bdM xs).length + bdZ.length ≤ 1000000 := by rw [show bdZ.length = 16 from rfl]; omega
      have HWZ := hid (wstr_x B B (bdM xs) bdZ wr (.inr hb) hlz (by rw [HBe.out]; exact hg.size))
      have HG := hid hg
      have hzl : (bodL xs).length ≤ 100000 := by unfold bodL; rw [List.length_append, show bdZ.length = 16 from rfl]; omega
      have hne : bodL xs ≠ [] := by unfold bodL bdM bdA; simp
      have HZL := hid hzl
      have HNE := hid hne
      clear hb hg hll hlz hzl hne hJ hlt hi
      go_wp2_with fail
      refine HWZ.out.mono ?_
      rintro e w2 ⟨⟨v2, rfl⟩, hb2, hbe2⟩
      have HS := hid (Tryz.Builder_String_f B B (bodL xs) w2 (.of (.inr hb2)) HNE.out)
      have HG2 := hid (gr_bel HBe.out HG.out hbe2)
      clear hb2 hbe2 HWZ
      go_wp2_with fail
      refine HS.out.mono ?_
      rintro e w3 ⟨rfl, -, hbe3⟩
      have HG3 := hid (gr_bel HBe.out HG2.out hbe3)
      clear hbe3 HS
      go_wp2_with (refine wpl_s2b rfl 9 37 5 _ rfl Tryz.underlying9 Tryz.underlying37 Tryz.underlying5 ⟨(bodL xs).toArray⟩ rfl (by rw [Lib.size_eq]; have := HZL.out; unfold maxLen; simp only; omega) ?_; intro g cap w4 hgl hrow gw)
      go_ret
      have h4 := hrow.bytes
      exact ⟨_, rfl, h4, gr_trans HG3.out gw⟩
end Go.Proofs.YtfceodbpkghkaaaGreatDoor
/- hearthlaw22.speaks; great of one call that holds variables alone. -/
namespace Go.Proofs.YtfceodbpkghkaaaGreatDoor
open Go.RowKit
set_option linter.unusedVariables false
set_option linter.unusedSimpArgs false

def exG : Gs := [60, 104, 116, 116, 112, 58, 47, 47, 49, 57, 50, 46, 49, 54, 56, 46, 49, 46, 55, 58, 52, 57, 49, 53, 50, 47, 101, 63, 49, 62]
def exS : Gs := [83, 101, 99, 111, 110, 100, 45, 51, 48, 48]
theorem exG_is : cbL exG = some (3232235783, 49152, [47, 101, 63, 49]) := by decide +kernel
theorem exS_is : secL exS = 300 := by decide +kernel
set_option maxHeartbeats 1000000 in
theorem gspeaks_true (m : Int) (w : World) (hm : Hid (MaxCell m w)) (h10 : Hid (P10 w)) :
    Calls Tryz.prog 6 #[] w fun e w' => e = .returned (.bool true) ∧ w.grownBy w' none := by
  have HC := callback_x ⟨exG.toArray⟩ m w hm h10 (by decide)
  rw [show (ByteArray.mk exG.toArray).data.toList = exG from rfl, exG_is] at HC
  have HS := fun W => seconds_x ⟨exS.toArray⟩ W (by decide)
  rw [show (ByteArray.mk exS.toArray).data.toList = exS from rfl, exS_is] at HS
  have HC := hid HC
  have HS := hid HS
  go_enter Tryz.func6, Tryz.ntmps6
  go_wp2_with fail
  refine HC.out.mono ?_
  rintro e w1 ⟨rfl, g1⟩
  unfold cbV
  go_wp2_with fail
  refine (HS.out _).mono ?_
  rintro e w2 ⟨rfl, g2⟩
  go_wp2
  go_ret
  exact ⟨rfl, gr_trans g1 g2⟩
def SmJ (xs : Gp) (j : Nat) : Prop := ∀ i, i < j → (xs.getD i ([], [])).1.length ≤ 100 ∧ (xs.getD i ([], [])).2.length ≤ 500
def GrP (w : World) (xs : Gp) (e : Ending) (w' : World) : Prop := ∃ b, e = .returned (.bool b) ∧ w.grownBy w' none ∧ (b = false → SmP xs)
set_option maxHeartbeats 4000000 in
theorem great_one (xs : Gp) (v : Value) (w : World) (g c : Nat) (hv : ArgsAt w v xs) (hn0 : xs.length ≤ 9223372036854775807) (hb : w.heap[g]? = some (.cells #[.int .i64 0, .int .i64 0, .int .i64 0, .int .u64 0, .int .u32 0, .slice none 0 0, v, .slice none 0 0] 31 (0, 0))) (hc1 : 1 ≤ c) :
    Calls Tryz.prog 7 #[.slice (some ⟨g, 0, none⟩) 1 c] w (GrP w xs) := by
  have HV := hid hv
  have HB := hid hb
  obtain ⟨a, cv, rfl, k3⟩ := hv
  clear k3 hb
  go_enter Tryz.func7, Tryz.ntmps7
  go_wp2_with fail
  go_loopw [14] (fun v14 wx => ∃ k : Nat, v14 = .int .i64 (k : Int) ∧ k ≤ 1 ∧ w.grownBy wx none ∧ Hid (k = 1 → SmP xs)) (fun v14 _ => 2 - (intOf v14).toNat)
  case atStart => exact ⟨0, rfl, by omega, gr_refl _ _, hid (fun h => by cases h)⟩
  case round =>
    obtain ⟨k, rfl, hk, hg, hs⟩ := hrel
    rcases (by omega : k = 0 ∨ k = 1) with rfl | rfl
    · clear hs
      have HBr := hid (gr_keep hg HB.out (by simp))
      have c0 := (cell_of_block HBr.out 0).trans rfl
      have c1 := (cell_of_block HBr.out 1).trans rfl
      have c2 := (cell_of_block HBr.out 2).trans rfl
      have c3 := (cell_of_block HBr.out 3).trans rfl
      have c4 := (cell_of_block HBr.out 4).trans rfl
      have c5 := (cell_of_block HBr.out 5).trans rfl
      have c6 := (cell_of_block HBr.out 6).trans rfl
      have c7 := (cell_of_block HBr.out 7).trans rfl
      have GA := hid (gr_alloc hg (.cells #[.int .i64 0, .int .i64 0, .int .i64 0, .int .u64 0, .int .u32 0, .slice none 0 0, .slice a xs.length cv, .slice none 0 0] 31))
      have NA := hid (heap_alloc_new wr (.cells #[.int .i64 0, .int .i64 0, .int .i64 0, .int .u64 0, .int .u32 0, .slice none 0 0, .slice a xs.length cv, .slice none 0 0] 31))
      obtain ⟨A, hA⟩ : ∃ A, A = wr.heap.size := ⟨_, rfl⟩
      rw [← hA] at NA
      have HA := hid hA
      clear hA
      have d5 := (cell_of_block NA.out 5).trans rfl
      have d6 := (cell_of_block NA.out 6).trans rfl
      have d7 := (cell_of_block NA.out 7).trans rfl
      by_cases h20 : (20 : Int) < (xs.length : Int)
      · have h20' := decide_eq_true h20
        go_wp2_with fail
        go_ret
        exact ⟨true, rfl, GA.out, fun h => by cases h⟩
      · have h20' := decide_eq_false h20
        go_wp2_with fail
        generalize wr.alloc (.cells #[.int .i64 0, .int .i64 0, .int .i64 0, .int .u64 0, .int .u32 0, .slice none 0 0, .slice a xs.length cv, .slice none 0 0] 31) = w3 at GA NA ⊢
        rw [← HA.out]
        clear c0 c1 c2 c3 c4 c5 c6 c7
        have d6' : w3.cell? ⟨A, 6, none⟩ = some (.slice a xs.length cv) := (cell_of_block NA.out 6).trans rfl
        go_loopw [37] (fun v37 wx => v37 = .int .i64 0 ∧ w3 = wx) (fun v37 _ => 0)
        case atStart => exact ⟨rfl, rfl⟩
        case round =>
        obtain ⟨rfl, rfl⟩ := hrel
        go_wp2_with fail
        go_loopw [49] (fun v49 wx => ∃ j : Nat, v49 = .int .i64 (j : Int) ∧ j ≤ xs.length ∧ w3.grownBy wx none ∧ Hid (SmJ xs j)) (fun v49 _ => xs.length - (intOf v49).toNat)
        case atStart => exact ⟨0, rfl, Nat.zero_le _, gr_refl _ _, hid (fun i hi => by omega)⟩
        case round =>
        obtain ⟨j, rfl, hj, hg2, hall⟩ := hrel
        have HG2 := hid (gr_trans GA.out hg2)
        have hg3 := hid hg2
        clear hg2
        by_cases hlt : j < xs.length
        · obtain ⟨a', c', e', hp⟩ := HV.out.grown HG2.out
          simp only [Value.slice.injEq] at e'
          obtain ⟨rfl, -, rfl⟩ := e'
          rcases hp with h0 | ⟨b, o, rfl, hc⟩
          · omega
          obtain ⟨q1, q2⟩ := hc j hlt
          unfold gN at q1
          unfold gV at q2
          have HX := hid (show ∀ x : Gs × Gs, x = xs.getD j ([], []) → x.1.length ≤ 100 ∧ x.2.length ≤ 500 → SmJ xs (j + 1) from fun x hx hb i hi => by
            rcases (by omega : i < j ∨ i = j) with h | rfl
            · exact hall.out i h
            · rw [← hx]; exact hb)
          obtain ⟨x, hx⟩ : ∃ x, x = xs.getD j ([], []) := ⟨_, rfl⟩
          have HX := hid (HX.out x hx)
          rw [← hx] at q1 q2
          have hs1 : (⟨x.1.toArray⟩ : ByteArray).size = x.1.length := Lib.size_eq _
          have hs2 : (⟨x.2.toArray⟩ : ByteArray).size = x.2.length := Lib.size_eq _
          obtain ⟨N, hN⟩ : ∃ N : ByteArray, N = ⟨x.1.toArray⟩ := ⟨_, rfl⟩
          obtain ⟨V, hV⟩ : ∃ N : ByteArray, N = ⟨x.2.toArray⟩ := ⟨_, rfl⟩
          rw [← hN] at q1 hs1
          rw [← hV] at q2 hs2
          clear hx hN hV
          have GC := hid (gr_trans HG2.out (gr_alloc (gr_refl wr none) (.cells #[.string N, .string V] 58)))
          by_cases v1 : (500 : Int) < (V.size : Int)
          · have v1' := decide_eq_true v1
            go_wp2_with fail
            go_ret
            exact ⟨true, rfl, GC.out, fun h => by cases h⟩
          · have v1' := decide_eq_false v1
            by_cases v2 : (100 : Int) < (N.size : Int)
            · have v2' := decide_eq_true v2
              go_wp2_with fail
              go_ret
              exact ⟨true, rfl, GC.out, fun h => by cases h⟩
            · have v2' := decide_eq_false v2
              have HJ := hid (HX.out ⟨by omega, by omega⟩)
              clear hs1 hs2
              go_wp2_with fail
              go_round
              case rel => exact ⟨j + 1, by go_num, by omega, gr_alloc hg3.out _, HJ⟩
              case measure => simp [intOf]; omega
        · obtain rfl : j = xs.length := by omega
          have HS := hid (show SmP xs from ⟨by omega, fun x hx => by
            obtain ⟨i, hi, rfl⟩ := List.getElem_of_mem hx
            have := hall.out i hi
            rwa [List.getD_eq_getElem?_getD, List.getElem?_eq_getElem hi] at this⟩)
          clear hall hlt hj
          go_wp2_with fail
          go_round
          case rel => exact ⟨1, by go_num, Nat.le_refl _, HG2.out, hid (fun _ => HS.out)⟩
          case measure => simp [intOf]
    · have HS := hid (hs.out rfl)
      have HG := hid hg
      clear hs hg
      go_wp2_with fail
      go_ret
      exact ⟨false, rfl, HG.out, fun _ => HS.out⟩
end Go.Proofs.YtfceodbpkghkaaaGreatDoor
