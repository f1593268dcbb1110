/- (*http.Parser).framing. -/
import Derived.Test.YtldbcdiomkkinaaGreatDoorHtb
namespace Go.Proofs.YtldbcdiomkkinaaGreatDoor
open Go.RowKit

theorem get_sat (w : World) (v : Value) (fs : List (List UInt8 × List UInt8)) (name : List UInt8) (h : FsAt w v fs) (hl : fs.length ≤ 200000) :
    Calls Tryz.prog 67 #[v, .string ⟨name.toArray⟩] w fun e w' => ∃ v', e = .returned v' ∧ SAt w' v' (getL fs name) ∧ w.grownBy w' none := by
  refine (get_fs w v fs name h hl).mono ?_
  rintro e w' ⟨v', rfl, hown, g⟩
  exact ⟨v', rfl, sat_of_own hown, g⟩
def frG (method : List UInt8) (minor : Int) (co le : List (List UInt8)) : Int × Nat × Nat :=
  if (0 < co.length ∧ (1 < co.length ∨ 0 < le.length ∨ minor = 0)) ∨ 1 < le.length then (400, 0, 0)
  else match co with
  | c :: _ => if sameL c [99, 104, 117, 110, 107, 101, 100] then (0, 2, 0) else (501, 2, 0)
  | [] => match le with
    | n :: _ => if (numR 10 9999999 n).2 then (if (numR 10 9999999 n).1 > 8192 then 413 else 0, 1, (numR 10 9999999 n).1.toNat) else (400, 1, 0)
    | [] => (if method = [80, 79, 83, 84] then 411 else 0, 0, 0)
theorem framingL_eq (r : Rq) (co le : List (List UInt8)) (h1 : co = getL r.fields [116, 114, 97, 110, 115, 102, 101, 114, 45, 101, 110, 99, 111, 100, 105, 110, 103]) (h2 : le = getL r.fields [99, 111, 110, 116, 101, 110, 116, 45, 108, 101, 110, 103, 116, 104]) : framingL r = frG r.method r.minor co le := by
  subst h1 h2
  rfl
def FrPost (w : World) (b : Nat) (r : Rq) (rv fv bv : Value) (skip : Bool) (left : Nat) (e : Ending) (w' : World) : Prop :=
  e = .returned (.int .i64 (framingL r).1) ∧ w.grownBy w' (some b) ∧ ∃ stage' left' : Nat, w'.heap[b]? = some (.cells (PsCells rv (stage' : Int) skip r.method r.target r.minor fv bv r.keep (left' : Int)) 62 (0, 0)) ∧
    ((framingL r).1 = 0 → stage' = (framingL r).2.1 ∧ left' = if (framingL r).2.1 = 1 then (framingL r).2.2 else left)
set_option maxRecDepth 20000 in
set_option maxHeartbeats 4000000 in
theorem framing_http (b : Nat) (r : Rq) (ra fa ba : Option Addr) (rn rc fc bn bc : Nat) (skip : Bool) (left : Nat) (w : World)
    (h : w.heap[b]? = some (.cells (PsCells (.slice ra rn rc) 0 skip r.method r.target r.minor (.slice fa r.fields.length fc) (.slice ba bn bc) r.keep (left : Int)) 62 (0, 0)))
    (hf : FsAt w (.slice fa r.fields.length fc) r.fields) (hl : r.fields.length ≤ 200000) (hx : ∀ f ∈ r.fields, f.2.length ≤ 1000000) :
    Calls Tryz.prog 68 #[.pointer (some ⟨b, 0, none⟩)] w (FrPost w b r (.slice ra rn rc) (.slice fa r.fields.length fc) (.slice ba bn bc) skip left) := by
  have HH := hid h
  have HF := hid hf
  have HX := hid hx
  have c3 := (cell_of_block h 3).trans (show _ = some (Value.string ⟨r.method.toArray⟩) from rfl)
  have c4 := (cell_of_block h 4).trans (show _ = some (Value.string ⟨r.target.toArray⟩) from rfl)
  have c5 := (cell_of_block h 5).trans (show _ = some (Value.int .i64 r.minor) from rfl)
  have c6 := (cell_of_block h 6).trans (show _ = some (Value.slice fa r.fields.length fc) from rfl)
  have c7 := (cell_of_block h 7).trans (show _ = some (Value.slice ba bn bc) from rfl)
  have c8 := (cell_of_block h 8).trans (show _ = some (Value.bool r.keep) from rfl)
  have hlt := lt_of_block h
  have HKP := hid (fun (W : World) (GW : w.grownBy W none) (hh : W.heap[b]? = some (.cells (PsCells (.slice ra rn rc) 0 skip r.method r.target r.minor (.slice fa r.fields.length fc) (.slice ba bn bc) r.keep (left : Int)) 62 (0, 0))) (st : Int) (hst : (framingL r).1 = st) (h0 : st = 0 → (framingL r).2.1 = 0) =>
    (show FrPost w b r (.slice ra rn rc) (.slice fa r.fields.length fc) (.slice ba bn bc) skip left (.returned (.int .i64 st)) W from ⟨by rw [hst], gr_none GW, 0, left, hh, fun hz => by rw [hst] at hz; rw [h0 hz]; exact ⟨rfl, rfl⟩⟩))
  have HKQ := hid (fun (W : World) (q1 : Int) (hh : W.heap[b]? = some (.cells (PsCells (.slice ra rn rc) 1 skip r.method r.target r.minor (.slice fa r.fields.length fc) (.slice ba bn bc) r.keep q1) 62 (0, 0))) (GW : w.grownBy W (some b)) (st : Int) (hst : (framingL r).1 = st) (h0 : st = 0 → (framingL r).2.1 = 1 ∧ (framingL r).2.2 = q1.toNat) (hq : q1 = ((q1.toNat : Nat) : Int)) =>
    (show FrPost w b r (.slice ra rn rc) (.slice fa r.fields.length fc) (.slice ba bn bc) skip left (.returned (.int .i64 st)) W from ⟨by rw [hst], GW, 1, q1.toNat, by rw [← hq]; exact hh, fun hz => by rw [hst] at hz; rw [(h0 hz).1, (h0 hz).2]; exact ⟨rfl, rfl⟩⟩))
  have HKC := hid (fun (W : World) (hh : W.heap[b]? = some (.cells (PsCells (.slice ra rn rc) 2 skip r.method r.target r.minor (.slice fa r.fields.length fc) (.slice ba bn bc) r.keep (left : Int)) 62 (0, 0))) (GW : w.grownBy W (some b)) (st : Int) (hst : (framingL r).1 = st) (h0 : st = 0 → (framingL r).2.1 = 2) =>
    (show FrPost w b r (.slice ra rn rc) (.slice fa r.fields.length fc) (.slice ba bn bc) skip left (.returned (.int .i64 st)) W from ⟨by rw [hst], GW, 2, left, hh, fun hz => by rw [hst] at hz; rw [h0 hz]; exact ⟨rfl, rfl⟩⟩))
  clear h hf hx
  go_enter Tryz.func68, Tryz.ntmps68
  go_wp2_with fail
  have g1 := World.grownBy_alloc w (.cells #[.string ⟨r.method.toArray⟩, .string ⟨r.target.toArray⟩, .int .i64 r.minor, .slice fa r.fields.length fc, .slice ba bn bc, .bool r.keep] 44) none
  have hk := heap_alloc_new w (.cells #[.string ⟨r.method.toArray⟩, .string ⟨r.target.toArray⟩, .int .i64 r.minor, .slice fa r.fields.length fc, .slice ba bn bc, .bool r.keep] 44)
  revert g1 hk
  generalize w.alloc _ = w0
  intro g1 hk
  obtain ⟨KB, hK0⟩ : ∃ KB, KB = w.heap.size := ⟨_, rfl⟩
  rw [← hK0] at hk ⊢
  obtain ⟨nf, hnf⟩ : ∃ n, n = r.fields.length := ⟨_, rfl⟩
  obtain ⟨co, hco⟩ : ∃ x, x = getL r.fields [116, 114, 97, 110, 115, 102, 101, 114, 45, 101, 110, 99, 111, 100, 105, 110, 103] := ⟨_, rfl⟩
  obtain ⟨le, hle⟩ : ∃ x, x = getL r.fields [99, 111, 110, 116, 101, 110, 116, 45, 108, 101, 110, 103, 116, 104] := ⟨_, rfl⟩
  have HGC := hid (fun (W : World) (g : w0.grownBy W none) => get_sat W _ r.fields [116, 114, 97, 110, 115, 102, 101, 114, 45, 101, 110, 99, 111, 100, 105, 110, 103] ((HF.out.grow g1).grow g) hl)
  have HGL := hid (fun (W : World) (g : w0.grownBy W none) => get_sat W _ r.fields [99, 111, 110, 116, 101, 110, 116, 45, 108, 101, 110, 103, 116, 104] ((HF.out.grow g1).grow g) hl)
  rw [← hco, ← hnf] at HGC
  rw [← hle, ← hnf] at HGL
  rw [← hnf] at hk
  have HCL := hid (⟨hco, hle⟩ : co = getL r.fields [116, 114, 97, 110, 115, 102, 101, 114, 45, 101, 110, 99, 111, 100, 105, 110, 103] ∧ le = getL r.fields [99, 111, 110, 116, 101, 110, 116, 45, 108, 101, 110, 103, 116, 104])
  have HNF := hid hnf
  have HK := hid hk
  have k3 := (cell_of_block hk 3).trans (show _ = some (Value.slice fa nf fc) from rfl)
  rw [← hnf]
  clear hco hle hk c3 c4 c5 c6 c7 c8 hK0 hnf
  refine wp_region_spec2 (by kernel_rfl) (by kernel_rfl) (n := 8) (by kernel_rfl) [some 12, some 13, some 14, some 15, some 16, some 17, some 4, some 5] (by kernel_rfl) _ (fun u => (by simp only [fill, List.zipIdx_cons, List.zipIdx_nil, List.foldl_cons, List.foldl_nil, Act.put, List.setIfInBounds_toArray, List.set_cons_zero, List.set_cons_succ, Nat.zero_add, Nat.reduceAdd]; exact rfl)) (by kernel_rfl)
    (all_succ (all_succ (all_succ (all_succ (all_succ (all_succ (all_succ (all_succ (all_zero _) (fun u v => by kernel_rfl)) (fun u v => by kernel_rfl)) (fun u v => by kernel_rfl)) (fun u v => by kernel_rfl)) (fun u v => by kernel_rfl)) (fun u v => by kernel_rfl)) (fun u v => by kernel_rfl)) (fun u v => by kernel_rfl))
    (fun ri v w => match ri with | 0 => v = .pointer (some ⟨KB, 3, none⟩) | 1 => v = .slice fa nf fc | 2 => SAt w v co | 3 => v = .pointer (some ⟨KB, 3, none⟩) | 4 => v = .slice fa nf fc | 5 => SAt w v le | 6 => SAt w v co | 7 => SAt w v le | _ => True)
    (all_succ (all_succ (all_succ (all_succ (all_succ (all_succ (all_succ (all_succ (all_zero _) ?m0) ?m1) ?m2) ?m3) ?m4) ?m5) ?m6) ?m7)
    [[], [0], [1], [], [3], [4], [2], [5]] (by kernel_rfl)
    ⟨?o0, ?o1, ?o2, ?o3, ?o4, ?o5, ?o6, ?o7, trivial⟩ ?done
  case m0 => intro v w w' h g; first | exact h | exact SAt.grow h g
  case m1 => intro v w w' h g; first | exact h | exact SAt.grow h g
  case m2 => intro v w w' h g; first | exact h | exact SAt.grow h g
  case m3 => intro v w w' h g; first | exact h | exact SAt.grow h g
  case m4 => intro v w w' h g; first | exact h | exact SAt.grow h g
  case m5 => intro v w w' h g; first | exact h | exact SAt.grow h g
  case m6 => intro v w w' h g; first | exact h | exact SAt.grow h g
  case m7 => intro v w w' h g; first | exact h | exact SAt.grow h g
  case o0 =>
    intro u w g hd K hK
    clear hd
    simp only [Act.put, List.setIfInBounds_toArray, List.set_cons_zero, List.set_cons_succ] at hK
    go_simp
    exact hK _ _ rfl (gr_refl _ _)
  case o1 =>
    intro u w g hd K hK
    have h0 : (u 0) = .pointer (some ⟨KB, 3, none⟩) := hd 0 (by simp)
    clear hd
    simp only [Act.put, List.setIfInBounds_toArray, List.set_cons_zero, List.set_cons_succ] at hK
    have c' := g.cell k3 (by simp)
    simp only [h0] at hK ⊢
    go_simp
    exact hK _ _ rfl (gr_refl _ _)
  case o2 =>
    intro u w g hd K hK
    have h1 : (u 1) = .slice fa nf fc := hd 1 (by simp)
    clear hd
    simp only [Act.put, List.setIfInBounds_toArray, List.set_cons_zero, List.set_cons_succ] at hK
    simp only [h1] at hK ⊢
    go_simp
    refine (HGC.out w g).mono ?_
    rintro e w' ⟨v, rfl, hv, g'⟩
    exact hK v w' hv g'
  case o3 =>
    intro u w g hd K hK
    clear hd
    simp only [Act.put, List.setIfInBounds_toArray, List.set_cons_zero, List.set_cons_succ] at hK
    go_simp
    exact hK _ _ rfl (gr_refl _ _)
  case o4 =>
    intro u w g hd K hK
    have h3 : (u 3) = .pointer (some ⟨KB, 3, none⟩) := hd 3 (by simp)
    clear hd
    simp only [Act.put, List.setIfInBounds_toArray, List.set_cons_zero, List.set_cons_succ] at hK
    have c' := g.cell k3 (by simp)
    simp only [h3] at hK ⊢
    go_simp
    exact hK _ _ rfl (gr_refl _ _)
  case o5 =>
    intro u w g hd K hK
    have h4 : (u 4) = .slice fa nf fc := hd 4 (by simp)
    clear hd
    simp only [Act.put, List.setIfInBounds_toArray, List.set_cons_zero, List.set_cons_succ] at hK
    simp only [h4] at hK ⊢
    go_simp
    refine (HGL.out w g).mono ?_
    rintro e w' ⟨v, rfl, hv, g'⟩
    exact hK v w' hv g'
  case o6 =>
    intro u w g hd K hK
    have h2 : SAt w (u 2) co := hd 2 (by simp)
    clear hd
    simp only [Act.put, List.setIfInBounds_toArray, List.set_cons_zero, List.set_cons_succ] at hK
    go_simp
    exact hK _ _ h2 (gr_refl _ _)
  case o7 =>
    intro u w g hd K hK
    have h5 : SAt w (u 5) le := hd 5 (by simp)
    clear hd
    simp only [Act.put, List.setIfInBounds_toArray, List.set_cons_zero, List.set_cons_succ] at hK
    go_simp
    exact hK _ _ h5 (gr_refl _ _)
  case done =>
    intro u w hS g
    have s0 : (u 0) = .pointer (some ⟨KB, 3, none⟩) := hS 0 (by decide)
    have s1 : (u 1) = .slice fa nf fc := hS 1 (by decide)
    have s2 : SAt w (u 2) co := hS 2 (by decide)
    have s3 : (u 3) = .pointer (some ⟨KB, 3, none⟩) := hS 3 (by decide)
    have s4 : (u 4) = .slice fa nf fc := hS 4 (by decide)
    have s5 : SAt w (u 5) le := hS 5 (by decide)
    have s6 : SAt w (u 6) co := hS 6 (by decide)
    have s7 : SAt w (u 7) le := hS 7 (by decide)
    clear hS
    have HCO := hid s6
    have HLE := hid s7
    have GG := hid g
    obtain ⟨ca, cc, ec, -, -⟩ := s6
    obtain ⟨la, lc, el, -, -⟩ := s7
    clear s0 s1 s2 s3 s4 s5 g k3 HGC HGL
    generalize u 0 = x0, u 1 = x1, u 2 = x2, u 3 = x3, u 4 = x4, u 5 = x5
    generalize u 6 = x6 at *
    generalize u 7 = x7 at *
    subst ec el
    have hkw := gr_keep GG.out HK.out (by simp)
    have GW := hid (gr_trans g1 GG.out)
    have hhw := gr_keep GW.out HH.out (by simp)
    have HKEEP := hid (HKP.out w GW.out hhw)
    have d0 := (cell_of_block hkw 0).trans (show _ = some (Value.string ⟨r.method.toArray⟩) from rfl)
    have d2 := (cell_of_block hkw 2).trans (show _ = some (Value.int .i64 r.minor) from rfl)
    have HHW := hid hhw
    have lbw := lt_of_block hhw
    have lkw := lt_of_block hkw
    clear hkw hhw GG
    have HFR := hid (framingL_eq r co le HCL.out.1 HCL.out.2)
    have hcl : co.length ≤ 200000 := by rw [HCL.out.1]; exact Nat.le_trans (getL_len _ _) hl
    have hll : le.length ≤ 200000 := by rw [HCL.out.2]; exact Nat.le_trans (getL_len _ _) hl
    by_cases hA : (0 < co.length ∧ (1 < co.length ∨ 0 < le.length ∨ r.minor = 0)) ∨ 1 < le.length
    · have HF4 := hid (HKEEP.out 400 (by rw [HFR.out]; unfold frG; rw [if_pos hA]) (by omega))
      obtain ⟨n1, hn1⟩ : ∃ n, n = co.length := ⟨_, rfl⟩
      obtain ⟨n2, hn2⟩ : ∃ n, n = le.length := ⟨_, rfl⟩
      rw [← hn1] at hA ⊢
      rw [← hn2] at hA ⊢
      clear hn1 hn2 hcl hll
      by_cases a1 : 0 < n1
      · have a1' : (0 : Int) < (n1 : Int) := by omega
        by_cases a2 : 1 < n1
        · have a2' : decide ((1 : Int) < (n1 : Int)) = true := by simp; omega
          go_wp2_with fail
          go_ret
          exact HF4.out
        · have a2' : decide ((1 : Int) < (n1 : Int)) = false := by simp; omega
          by_cases a3 : 0 < n2
          · have a3' : decide ((0 : Int) < (n2 : Int)) = true := by simp; omega
            go_wp2_with fail
            go_ret
            exact HF4.out
          · have a3' : decide ((0 : Int) < (n2 : Int)) = false := by simp; omega
            have a4 : r.minor = 0 := by omega
            have a4' : (r.minor == 0) = true := by simp [a4]
            clear a4
            go_wp2_with fail
            go_ret
            exact HF4.out
      · have a1' : ¬ (0 : Int) < (n1 : Int) := by omega
        have a5 : (1 : Int) < (n2 : Int) := by omega
        go_wp2_with fail
        go_ret
        exact HF4.out
    · have HFR2 := hid (by have h := HFR.out; unfold frG at h; rw [if_neg hA] at h; exact h)
      have d9 := (cell_of_block HHW.out 9).trans (show _ = some (Value.int .i64 (left : Int)) from rfl)
      have d1 := (cell_of_block HHW.out 1).trans (show _ = some (Value.int .i64 0) from rfl)
      have f1 := free_of_block HHW.out 1
      have f9 := free_of_block HHW.out 9
      rcases co with _ | ⟨c, co2⟩
      · rcases le with _ | ⟨n, le2⟩
        · by_cases hp : r.method = [80, 79, 83, 84]
          · have HF4 := hid (HKEEP.out 411 (by rw [HFR2.out]; exact if_pos hp) (by omega))
            have hpb : (r.method == [80, 79, 83, 84]) = true := by simp [hp]
            clear hA hp
            go_wp2_with fail
            go_ret
            exact HF4.out
          · have HF4 := hid (HKEEP.out 0 (by rw [HFR2.out]; exact if_neg hp) (fun _ => by rw [HFR2.out]))
            have hpb : (r.method == [80, 79, 83, 84]) = false := by simp [hp]
            clear hA hp
            go_wp2_with fail
            go_ret
            exact HF4.out
        · obtain rfl : le2 = [] := by
            rcases le2 with _ | ⟨y, le3⟩
            · rfl
            · exact absurd (Or.inr (by simp)) hA
          have hnl : n.length ≤ 1000000 := by
            have hm : n ∈ getL r.fields [99, 111, 110, 116, 101, 110, 116, 45, 108, 101, 110, 103, 116, 104] := by rw [← HCL.out.2]; simp
            obtain ⟨f, hf, rfl⟩ := getL_mem hm
            exact HX.out f hf
          obtain ⟨la', lc', el2, -, hcl2⟩ := HLE.out
          cases el2
          obtain ⟨gl, rfl, hcell⟩ := hcl2 0 n rfl
          unfold str at hcell
          clear hcl2 hA
          go_wp2_with fail
          refine (number_any ⟨n.toArray⟩ 10 9999999 w (by rw [Lib.size_eq]; simp; omega)).mono ?_
          rintro e w3 ⟨rfl, g3⟩
          rw [show (ByteArray.mk n.toArray).data.toList = n from rfl]
          have hnn := numR_nonneg 10 9999999 n (by omega)
          have HFR3 := hid (show framingL r = if (numR 10 9999999 n).2 = true then (if (numR 10 9999999 n).1 > 8192 then 413 else 0, 1, (numR 10 9999999 n).1.toNat) else (400, 1, 0) from HFR2.out)
          rcases hq : numR 10 9999999 n with ⟨q1, q2⟩
          rw [hq] at HFR3 hnn
          dsimp only at hnn
          clear hq
          have HQ := hid (show q1 = ((q1.toNat : Nat) : Int) by omega)
          have HH3 := hid (gr_keep g3 HHW.out (by simp))
          have GW3 := hid (gr_trans GW.out g3)
          have lb3 := lt_of_block HH3.out
          replace d1 := g3.cell d1 (by simp)
          replace d9 := g3.cell d9 (by simp)
          replace f1 := free_of_block HH3.out 1
          replace f9 := free_of_block HH3.out 9
          clear hcell d0 d2 lbw lkw g3
          have HP1 := hid (fun (W : World) (hW : W = (w3.setCell ⟨b, 1, none⟩ (.int .i64 1)).setCell ⟨b, 9, none⟩ (.int .i64 q1)) (st : Int) (hst : (framingL r).1 = st) (h1 : st = 0 → (framingL r).2.1 = 1 ∧ (framingL r).2.2 = q1.toNat) => HKQ.out W _ (by rw [hW]; exact heap_set (heap_set (by have h := HH3.out; exact h))) (gr_trans (gr_none GW3.out) (by rw [hW]; exact gr_set (gr_set (gr_refl _ _)))) st hst h1 HQ.out)
          dsimp only
          cases q2
          · have hst : framingL r = (400, 1, 0) := HFR3
            have HS := hid hst
            clear HFR3 hst
            go_wp2_with fail
            go_ret
            exact HP1.out _ rfl 400 (by rw [HS.out]) (by omega)
          · have hst : framingL r = (if q1 > 8192 then 413 else 0, 1, q1.toNat) := HFR3
            have HS := hid hst
            clear HFR3 hst
            by_cases hbig : q1 > 8192
            · have hb1 : (8192 : Int) < q1 := hbig
              have HS2 := hid (show framingL r = (413, 1, q1.toNat) by rw [HS.out, if_pos hbig])
              clear HS hbig
              go_wp2_with fail
              go_ret
              exact HP1.out _ rfl 413 (by rw [HS2.out]) (by omega)
            · have hb1 : ¬ (8192 : Int) < q1 := hbig
              have HS2 := hid (show framingL r = (0, 1, q1.toNat) by rw [HS.out, if_neg hbig])
              clear HS hbig
              go_wp2_with fail
              go_ret
              exact HP1.out _ rfl 0 (by rw [HS2.out]) (fun _ => by rw [HS2.out]; exact ⟨rfl, rfl⟩)
      · have hnA : co2.length = 0 ∧ le.length = 0 ∧ ¬ r.minor = 0 := by
          simp only [List.length_cons] at hA
          omega
        obtain rfl : co2 = [] := List.eq_nil_of_length_eq_zero hnA.1
        obtain rfl : le = [] := List.eq_nil_of_length_eq_zero hnA.2.1
        have hmi : (r.minor == 0) = false := by simpa using hnA.2.2
        have hcl3 : c.length ≤ 1000000 := by
          have hm : c ∈ getL r.fields [116, 114, 97, 110, 115, 102, 101, 114, 45, 101, 110, 99, 111, 100, 105, 110, 103] := by rw [← HCL.out.1]; simp
          obtain ⟨f, hf, rfl⟩ := getL_mem hm
          exact HX.out f hf
        obtain ⟨ca', cc', ec2, -, hcc2⟩ := HCO.out
        cases ec2
        obtain ⟨gl, rfl, hcell⟩ := hcc2 0 c rfl
        unfold str at hcell
        have hbg : some b ≠ some gl := by
          intro e
          obtain rfl := Option.some.inj e
          rw [cell_of_block HHW.out 0] at hcell
          cases hcell
        have hbg' : gl ≠ b := fun e => hbg (by rw [e])
        clear hcc2 hA hnA
        go_upto_region 8 with fail
        obtain ⟨w3, hw3⟩ : ∃ x, x = w.setCell ⟨b, 1, none⟩ (.int .i64 2) := ⟨_, rfl⟩
        rw [← hw3]
        have g3 : w.grownBy w3 (some b) := by rw [hw3]; exact gr_set (gr_refl _ _)
        have hcell3 := g3.cell hcell (by simpa using hbg')
        have HP2 := hid (fun (W : World) (gW : w3.grownBy W none) (st : Int) (hst : (framingL r).1 = st) (h1 : st = 0 → (framingL r).2.1 = 2) => HKC.out W (gr_keep gW (by rw [hw3]; exact heap_set (by have h := HHW.out; exact h)) (by simp)) (gr_trans (gr_trans (gr_none GW.out) g3) (gr_none gW)) st hst h1)
        have HFR3 := hid (show framingL r = if sameL c [99, 104, 117, 110, 107, 101, 100] = true then (0, 2, 0) else (501, 2, 0) from HFR2.out)
        clear hw3 g3 hcell d0 d1 d2 d9 f1 f9 lbw lkw
        go_wp2_with fail
        refine (same_http c [99, 104, 117, 110, 107, 101, 100] w3 hcl3 (by decide)).mono ?_
        rintro e w4 ⟨rfl, g4⟩
        cases hsm : sameL c [99, 104, 117, 110, 107, 101, 100]
        · have HS := hid (show framingL r = (501, 2, 0) by rw [HFR3.out, hsm]; rfl)
          clear hsm HFR3
          go_wp2_with fail
          go_ret
          exact HP2.out w4 g4 501 (by rw [HS.out]) (by omega)
        · have HS := hid (show framingL r = (0, 2, 0) by rw [HFR3.out, hsm]; rfl)
          clear hsm HFR3
          go_wp2_with fail
          go_ret
          exact HP2.out w4 g4 0 (by rw [HS.out]) (fun _ => by rw [HS.out])
end Go.Proofs.YtldbcdiomkkinaaGreatDoor
