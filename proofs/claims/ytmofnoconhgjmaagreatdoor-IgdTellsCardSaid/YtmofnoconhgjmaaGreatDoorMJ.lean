/- Texts of one proof, put together: Ig6, Ig7, Ig8. -/
import Derived.Test.YtmofnoconhgjmaaGreatDoorIg5
import Derived.Test.YtmofnoconhgjmaaGreatDoorMS
import Derived.Test.YtmofnoconhgjmaaGreatDoorMR
import Derived.IntWalk
import Derived.Test.YtmofnoconhgjmaaGreatDoorMI
/- igd.args: arguments out of names and values. -/
namespace Go.Proofs.YtmofnoconhgjmaaGreatDoor
open Go.RowKit
set_option linter.unusedVariables false
set_option linter.unusedSimpArgs false

/-- Names and values, one behind the other. -/
def txs (l : Ar) : List ByteArray := l.flatMap fun a => [⟨a.1.toArray⟩, ⟨a.2.toArray⟩]
theorem txs_len (l : Ar) : (txs l).length = l.length * 2 := by
  induction l with
  | nil => rfl
  | cons a l ih => unfold txs at ih ⊢; rw [List.flatMap_cons, List.length_append, ih]; simp; omega
theorem txs_get : ∀ (l : Ar) (k : Nat), k < l.length → (txs l).getD (k * 2) ByteArray.empty = ⟨(l.getD k ([], [])).1.toArray⟩ ∧ (txs l).getD (k * 2 + 1) ByteArray.empty = ⟨(l.getD k ([], [])).2.toArray⟩ := by
  intro l
  induction l with
  | nil => intro k hk; simp at hk
  | cons a l ih =>
    intro k hk
    have e : txs (a :: l) = ⟨a.1.toArray⟩ :: ⟨a.2.toArray⟩ :: txs l := by unfold txs; rw [List.flatMap_cons]; rfl
    rw [e]
    cases k with
    | zero => exact ⟨rfl, rfl⟩
    | succ k =>
      have := ih k (by simpa using hk)
      rw [show (k + 1) * 2 = k * 2 + 2 by omega]
      simpa using this
def ArgsPost (w : World) (xs : Ar) (e : Ending) (w' : World) : Prop := w.grownBy w' none ∧ ∃ v, e = .returned v ∧ w'.ownsRow w.heap.size tArg 2 v xs.length (duo xs)
set_option maxRecDepth 100000 in
set_option maxHeartbeats 8000000 in
theorem iargs_any (w : World) (v : Value) (xs : Ar) (hv : TxsAt w v (txs xs)) (hl : xs.length ≤ 20) : Calls Tryz.prog 83 #[v] w (ArgsPost w xs) := by
  obtain ⟨la, lc, rfl, hcell⟩ := hv
  have HC := hid hcell
  have HLN := hid (txs_len xs)
  have HL := hid hl
  obtain ⟨N, hN⟩ : ∃ N, N = w.heap.size := ⟨_, rfl⟩
  have HN := hid hN
  rw [show ArgsPost w xs = fun e w' => w.grownBy w' none ∧ ∃ v, e = .returned v ∧ w'.ownsRow N tArg 2 v xs.length (duo xs) from by rw [hN]; rfl]
  obtain ⟨nn, hnn⟩ : ∃ nn, nn = (txs xs).length := ⟨_, rfl⟩
  rw [← hnn] at HLN ⊢
  have HNN := hid hnn
  clear hnn
  obtain ⟨i0, hi, hz0, hz1, hz2⟩ := info_parts infoArg
  clear hcell hN hl
  go_enter Tryz.func83, Tryz.ntmps83
  go_wp2_with fail
  go_loopw [2, 3] (fun vo vi wr => ∃ k ii : Nat, vi = .int .i64 (ii : Int) ∧ ii ≤ 40 ∧ Hid (ii = k * 2) ∧ k ≤ xs.length ∧ Hid (w.grownBy wr none) ∧ Hid (wr.ownsRow N tArg 2 vo k (duo (xs.take k)))) (fun _ vi _ => nn - (intOf vi).toNat)
  case atStart => exact ⟨0, 0, rfl, by omega, hid rfl, Nat.zero_le _, hid (gr_refl _ _), hid ⟨by simp [duo], .inl ⟨rfl, rfl⟩⟩⟩
  case round =>
    obtain ⟨k, ii, rfl, h40, hik, hk, gr, ho⟩ := hrel
    by_cases hlt : k < xs.length
    · have hin : ii + 1 < nn := by have := hik.out; have := HLN.out; omega
      obtain ⟨lb, lo, rfl, hc⟩ : ∃ b o, la = some ⟨b, o, none⟩ ∧ ∀ i, i < (txs xs).length → w.cell? ⟨b, o + i, none⟩ = some (.string ((txs xs).getD i ByteArray.empty)) := by
        rcases HC.out with h | h
        · have hnn := HNN.out; rw [h] at hnn; simp at hnn; omega
        · exact h
      obtain ⟨oa, oc, rfl⟩ := own_shapeG ho.out
      obtain ⟨t1, t2⟩ := txs_get xs k hlt
      have HT := hid (show xs.take (k + 1) = xs.take k ++ [xs.getD k ([], [])] by rw [List.take_add_one, List.getD_eq_getElem?_getD, List.getElem?_eq_getElem hlt]; rfl)
      have c0 := gr.out.cell (hc (k * 2) (by rw [← HNN.out, HLN.out]; omega)) (by simp)
      have c1 := gr.out.cell (hc (k * 2 + 1) (by rw [← HNN.out, HLN.out]; omega)) (by simp)
      rw [t1, ← hik.out] at c0
      rw [t2, ← hik.out] at c1
      generalize xs.getD k ([], []) = x at *
      have hi0 : (0 : Int) ≤ (ii : Int) := by omega
      have hi1 : (ii : Int) < (nn : Int) := by omega
      have hi2 : (ii : Int) + 1 < (nn : Int) := by omega
      have hi3 : (ii : Int) + 1 ≤ 41 := by omega
      clear t1 t2 hc hin
      obtain ⟨w0, hw0⟩ : ∃ y, y = wr := ⟨_, rfl⟩
      rw [← hw0] at c0 c1 gr ho ⊢
      clear hw0
      go_upto_region 4 with fail
      refine wp_region_spec3 12 13 none (by kernel_rfl) (by kernel_rfl) (by kernel_rfl) (by kernel_rfl) (by kernel_rfl) (by kernel_rfl) [some 11, some 12, some 13, some 14, some 15, some 16, some 17, some 18, some 19, some 20, some 21, some 22] (by kernel_rfl) _ (fun u => (by simp only [fill, List.zipIdx_cons, List.zipIdx_nil, List.foldl_cons, List.foldl_nil, Act.put, List.setIfInBounds_toArray, List.set_cons_zero, List.set_cons_succ, Nat.zero_add, Nat.reduceAdd]; exact rfl)) (by kernel_rfl)
        (all_succ (all_succ (all_succ (all_succ (all_succ (all_succ (all_succ (all_succ (all_succ (all_succ (all_succ (all_succ (all_zero _) (fun u v => by kernel_rfl)) (fun u v => by kernel_rfl)) (fun u v => by kernel_rfl)) (fun u v => by kernel_rfl)) (fun u v => by kernel_rfl)) (fun u v => by kernel_rfl)) (fun u v => by kernel_rfl)) (fun u v => by kernel_rfl)) (fun u v => by kernel_rfl)) (fun u v => by kernel_rfl)) (fun u v => by kernel_rfl)) (fun u v => by kernel_rfl))
        (fun ri v w => match ri with | 0 => v = .slice oa k oc | 1 => v = .slice (some ⟨lb, lo, none⟩) nn lc | 2 => v = .int .i64 (ii : Int) | 3 => v = .pointer (some ⟨lb, lo + ii, none⟩) | 4 => v = .string ⟨x.1.toArray⟩ | 5 => v = .slice (some ⟨lb, lo, none⟩) nn lc | 6 => v = .int .i64 (ii : Int) | 7 => v = .int .i64 ((ii : Int) + 1) | 8 => v = .pointer (some ⟨lb, lo + (ii + 1), none⟩) | 9 => v = .string ⟨x.2.toArray⟩ | 10 => v = .agg #[.string ⟨x.1.toArray⟩, .string ⟨x.2.toArray⟩] | 11 => ∃ q, v = .slice (some ⟨q, 0, none⟩) 1 1 ∧ w.heap[q]? = some (.cells #[.string ⟨x.1.toArray⟩, .string ⟨x.2.toArray⟩] tArg (0, 0)) | _ => True)
        (all_succ (all_succ (all_succ (all_succ (all_succ (all_succ (all_succ (all_succ (all_succ (all_succ (all_succ (all_succ (all_zero _) ?am0) ?am1) ?am2) ?am3) ?am4) ?am5) ?am6) ?am7) ?am8) ?am9) ?am10) ?am11)
        [[], [], [], [1, 2], [3], [], [], [6], [5, 7], [8], [4, 9], [10]] (by kernel_rfl)
        ⟨?ao0, ?ao1, ?ao2, ?ao3, ?ao4, ?ao5, ?ao6, ?ao7, ?ao8, ?ao9, ?ao10, ?ao11, trivial⟩ ?adone
      case am0 => intro v w w' h g; first | exact h | (obtain ⟨q, e, h1⟩ := h; exact ⟨q, e, gr_keep g h1 (by simp)⟩)
      case am1 => intro v w w' h g; first | exact h | (obtain ⟨q, e, h1⟩ := h; exact ⟨q, e, gr_keep g h1 (by simp)⟩)
      case am2 => intro v w w' h g; first | exact h | (obtain ⟨q, e, h1⟩ := h; exact ⟨q, e, gr_keep g h1 (by simp)⟩)
      case am3 => intro v w w' h g; first | exact h | (obtain ⟨q, e, h1⟩ := h; exact ⟨q, e, gr_keep g h1 (by simp)⟩)
      case am4 => intro v w w' h g; first | exact h | (obtain ⟨q, e, h1⟩ := h; exact ⟨q, e, gr_keep g h1 (by simp)⟩)
      case am5 => intro v w w' h g; first | exact h | (obtain ⟨q, e, h1⟩ := h; exact ⟨q, e, gr_keep g h1 (by simp)⟩)
      case am6 => intro v w w' h g; first | exact h | (obtain ⟨q, e, h1⟩ := h; exact ⟨q, e, gr_keep g h1 (by simp)⟩)
      case am7 => intro v w w' h g; first | exact h | (obtain ⟨q, e, h1⟩ := h; exact ⟨q, e, gr_keep g h1 (by simp)⟩)
      case am8 => intro v w w' h g; first | exact h | (obtain ⟨q, e, h1⟩ := h; exact ⟨q, e, gr_keep g h1 (by simp)⟩)
      case am9 => intro v w w' h g; first | exact h | (obtain ⟨q, e, h1⟩ := h; exact ⟨q, e, gr_keep g h1 (by simp)⟩)
      case am10 => intro v w w' h g; first | exact h | (obtain ⟨q, e, h1⟩ := h; exact ⟨q, e, gr_keep g h1 (by simp)⟩)
      case am11 => intro v w w' h g; first | exact h | (obtain ⟨q, e, h1⟩ := h; exact ⟨q, e, gr_keep g h1 (by simp)⟩)
      case ao0 =>
        intro u w g hd K hK
        replace g : w0.grownBy w (none) := g
        clear hd
        simp only [Act.put, List.setIfInBounds_toArray, List.set_cons_zero, List.set_cons_succ] at hK
        go_simp
        exact hK _ _ rfl (gr_refl _ _)
      case ao1 =>
        intro u w g hd K hK
        replace g : w0.grownBy w (none) := g
        clear hd
        simp only [Act.put, List.setIfInBounds_toArray, List.set_cons_zero, List.set_cons_succ] at hK
        go_simp
        exact hK _ _ rfl (gr_refl _ _)
      case ao2 =>
        intro u w g hd K hK
        replace g : w0.grownBy w (none) := g
        clear hd
        simp only [Act.put, List.setIfInBounds_toArray, List.set_cons_zero, List.set_cons_succ] at hK
        go_simp
        exact hK _ _ rfl (gr_refl _ _)
      case ao3 =>
        intro u w g hd K hK
        replace g : w0.grownBy w (none) := g
        have h1 : (u 1) = .slice (some ⟨lb, lo, none⟩) nn lc := hd 1 (by simp)
        have h2 : (u 2) = .int .i64 (ii : Int) := hd 2 (by simp)
        clear hd
        simp only [Act.put, List.setIfInBounds_toArray, List.set_cons_zero, List.set_cons_succ] at hK
        simp only [h1, h2] at hK ⊢
        go_simp
        exact hK _ _ rfl (gr_refl _ _)
      case ao4 =>
        intro u w g hd K hK
        replace g : w0.grownBy w (none) := g
        have h3 : (u 3) = .pointer (some ⟨lb, lo + ii, none⟩) := hd 3 (by simp)
        clear hd
        simp only [Act.put, List.setIfInBounds_toArray, List.set_cons_zero, List.set_cons_succ] at hK
        have c := g.cell c0 (by simp)
        simp only [h3] at hK ⊢
        go_simp
        exact hK _ _ rfl (gr_refl _ _)
      case ao5 =>
        intro u w g hd K hK
        replace g : w0.grownBy w (none) := g
        clear hd
        simp only [Act.put, List.setIfInBounds_toArray, List.set_cons_zero, List.set_cons_succ] at hK
        go_simp
        exact hK _ _ rfl (gr_refl _ _)
      case ao6 =>
        intro u w g hd K hK
        replace g : w0.grownBy w (none) := g
        clear hd
        simp only [Act.put, List.setIfInBounds_toArray, List.set_cons_zero, List.set_cons_succ] at hK
        go_simp
        exact hK _ _ rfl (gr_refl _ _)
      case ao7 =>
        intro u w g hd K hK
        replace g : w0.grownBy w (none) := g
        have h6 : (u 6) = .int .i64 (ii : Int) := hd 6 (by simp)
        clear hd
        simp only [Act.put, List.setIfInBounds_toArray, List.set_cons_zero, List.set_cons_succ] at hK
        simp only [h6] at hK ⊢
        go_simp
        rw [show IntKind.i64.wrap ((ii : Int) + 1) = (ii : Int) + 1 from IntWalk.i64_in _ (by omega)]
        exact hK _ _ rfl (gr_refl _ _)
      case ao8 =>
        intro u w g hd K hK
        replace g : w0.grownBy w (none) := g
        have h5 : (u 5) = .slice (some ⟨lb, lo, none⟩) nn lc := hd 5 (by simp)
        have h7 : (u 7) = .int .i64 ((ii : Int) + 1) := hd 7 (by simp)
        clear hd
        simp only [Act.put, List.setIfInBounds_toArray, List.set_cons_zero, List.set_cons_succ] at hK
        simp only [h5, h7] at hK ⊢
        go_simp
        exact hK _ _ rfl (gr_refl _ _)
      case ao9 =>
        intro u w g hd K hK
        replace g : w0.grownBy w (none) := g
        have h8 : (u 8) = .pointer (some ⟨lb, lo + (ii + 1), none⟩) := hd 8 (by simp)
        clear hd
        simp only [Act.put, List.setIfInBounds_toArray, List.set_cons_zero, List.set_cons_succ] at hK
        have c := g.cell c1 (by simp)
        simp only [h8] at hK ⊢
        go_simp
        exact hK _ _ rfl (gr_refl _ _)
      case ao10 =>
        intro u w g hd K hK
        replace g : w0.grownBy w (none) := g
        have h4 : (u 4) = .string ⟨x.1.toArray⟩ := hd 4 (by simp)
        have h9 : (u 9) = .string ⟨x.2.toArray⟩ := hd 9 (by simp)
        clear hd
        simp only [Act.put, List.setIfInBounds_toArray, List.set_cons_zero, List.set_cons_succ] at hK
        simp only [h4, h9] at hK ⊢
        go_simp
        exact hK _ _ rfl (gr_refl _ _)
      case ao11 =>
        intro u w g hd K hK
        replace g : w0.grownBy w (none) := g
        have h10 : (u 10) = .agg #[.string ⟨x.1.toArray⟩, .string ⟨x.2.toArray⟩] := hd 10 (by simp)
        clear hd
        simp only [Act.put, List.setIfInBounds_toArray, List.set_cons_zero, List.set_cons_succ] at hK
        simp only [h10] at hK ⊢
        go_simp
        exact hK _ _ ⟨_, rfl, heap_alloc_new w _⟩ (gr_alloc (gr_refl _ _) _)
      intro u w hS g
      have s0 : (u 0) = .slice oa k oc := hS 0 (by decide)
      have s1 : (u 1) = .slice (some ⟨lb, lo, none⟩) nn lc := hS 1 (by decide)
      have s2 : (u 2) = .int .i64 (ii : Int) := hS 2 (by decide)
      have s3 : (u 3) = .pointer (some ⟨lb, lo + ii, none⟩) := hS 3 (by decide)
      have s4 : (u 4) = .string ⟨x.1.toArray⟩ := hS 4 (by decide)
      have s5 : (u 5) = .slice (some ⟨lb, lo, none⟩) nn lc := hS 5 (by decide)
      have s6 : (u 6) = .int .i64 (ii : Int) := hS 6 (by decide)
      have s7 : (u 7) = .int .i64 ((ii : Int) + 1) := hS 7 (by decide)
      have s8 : (u 8) = .pointer (some ⟨lb, lo + (ii + 1), none⟩) := hS 8 (by decide)
      have s9 : (u 9) = .string ⟨x.2.toArray⟩ := hS 9 (by decide)
      have s10 : (u 10) = .agg #[.string ⟨x.1.toArray⟩, .string ⟨x.2.toArray⟩] := hS 10 (by decide)
      have s11 : ∃ q, (u 11) = .slice (some ⟨q, 0, none⟩) 1 1 ∧ w.heap[q]? = some (.cells #[.string ⟨x.1.toArray⟩, .string ⟨x.2.toArray⟩] tArg (0, 0)) := hS 11 (by decide)
      clear hS
      obtain ⟨q, e11, hq⟩ := s11
      have GY := hid g
      have HQ := hid hq
      have T0 := hid s0
      clear s1 s2 s3 s4 s5 s6 s7 s8 s9 s10 s0 g hq
      generalize u 0 = y0 at *
      generalize u 1 = y1 at *
      generalize u 2 = y2 at *
      generalize u 3 = y3 at *
      generalize u 4 = y4 at *
      generalize u 5 = y5 at *
      generalize u 6 = y6 at *
      generalize u 7 = y7 at *
      generalize u 8 = y8 at *
      generalize u 9 = y9 at *
      generalize u 10 = y10 at *
      generalize u 11 = y11 at *
      obtain rfl := e11
      obtain rfl := T0.out
      clear T0
      have HO := hid (own_growG ho.out GY.out)
      have HR := hid (gr_trans gr.out GY.out)
      have SB := hid (src_new (l := duo [x]) HQ.out rfl)
      have HLE := hid (show N ≤ w.heap.size by rw [HN.out]; exact HR.out.size)
      have HL20 : k + 1 ≤ 20 := by have := HL.out; omega
      clear GY HQ ho gr c0 c1
      refine wpl_appG rfl _ _ 44 rfl (size := 2) (bytes := 32) Tryz.underlying44 hi hz0 hz1 hz2 rfl (by decide) rfl HO.out rfl (m := 1) (news := duo [x]) rfl SB.out (duo_one _) (by unfold maxLen; omega) (by omega) HLE.out ?_
      intro v3 w6 h3 g3 _
      obtain ⟨a3, c3, rfl⟩ := own_shapeG h3
      have R6 := hid (gr_own HR.out HO.out (by rw [HN.out]; exact Nat.le_refl _) g3)
      have O6 := hid h3
      clear g3 h3
      go_wp2_with fail
      go_roundw
      case rel =>
        refine ⟨k + 1, ii + 2, by go_num, by have := hik.out; omega, hid (by have := hik.out; omega), by omega, R6, ?_⟩
        have := O6.out
        rw [← duo_app, ← HT.out] at this
        exact hid this
      case measure => simp [intOf]; omega
    · have hik' : ¬ (ii : Int) + 1 < (nn : Int) := by have := hik.out; have := HLN.out; omega
      obtain rfl : k = xs.length := by omega
      rw [List.take_length] at ho
      obtain ⟨oa, oc, rfl⟩ := own_shapeG ho.out
      go_wp2
      go_ret
      exact ⟨gr.out, _, rfl, ho.out⟩
end Go.Proofs.YtmofnoconhgjmaaGreatDoor
/- Structs within blocks; igd's inputs as a value; igd.Do of an action that asks nothing. -/
namespace Go.Proofs.YtmofnoconhgjmaaGreatDoor
open Go.RowKit
set_option linter.unusedVariables false
set_option linter.unusedSimpArgs false

section
variable {P : Program}
theorem run_load_sub (w : World) (g off : Nat) (t ty : TypeId) (cs sub : Array Value) (fr : Nat × Nat) (d : TypeDesc) (hg : w.heap[g]? = some (.cells cs t fr)) (hsub : ∀ j, j < sub.size → cs[off + j]? = sub[j]?)
    (hu : P.underlying ty = some d) (hd : (match d with | .struct _ | .array _ _ => true | _ => false) = true) (hi : (P.info? ty).map (·.size) = some sub.size) :
    (loadVar ty ⟨g, off, none⟩).run P w = .ok (.agg sub) w := by
  have hl : (loadCells ⟨g, off, none⟩ sub.toList.length).run P w = .ok sub.toList.toArray w :=
    run_loadCells_list (P := P) w ⟨g, off, none⟩ sub.toList (fun j v hv => by
      have hadd : (⟨g, off, none⟩ : Addr).add j = ⟨g, off + j, none⟩ := by unfold Addr.add; split <;> simp_all
      have hj : j < sub.size := by simpa using (List.getElem?_eq_some_iff.1 hv).1
      rw [hadd, cell_of_row w g (off + j) cs t fr hg, hsub j hj]
      simpa using hv)
  cases hq : P.info? ty with
  | none => simp [hq] at hi
  | some i =>
    have hs : i.size = sub.size := by simpa [hq] using hi
    have hagg : (isAgg ty).run P w = .ok true w := by
      unfold isAgg
      rw [Sem.run_bind, run_underlying hu w]
      cases d <;> simp_all
    simp only [Array.length_toList, Array.toArray_toList] at hl
    simp [loadVar, Sem.run_bind, hagg, sizeOf, typeInfo, hq, hs, hl]
theorem wp_load_sub {o : Oper} {a : Act} {w : World} {K : Act → World → Prop} {Q : Exit → Act → World → Prop} (ty : TypeId) (x : Operand) (ho : o.op = .load ty x)
    (g off : Nat) (hx : a.eval x = .pointer (some ⟨g, off, none⟩)) (t : TypeId) (cs sub : Array Value) (fr : Nat × Nat) (d : TypeDesc) (hg : w.heap[g]? = some (.cells cs t fr)) (hsub : ∀ j, j < sub.size → cs[off + j]? = sub[j]?)
    (hu : P.underlying ty = some d) (hd : (match d with | .struct _ | .array _ _ => true | _ => false) = true) (hi : (P.info? ty).map (·.size) = some sub.size)
    (h : K (a.put o.dst (.agg sub)) w) : o.wp P a w K Q := by
  unfold Oper.wp execOp
  simp only [ho, hx, Instr.loadAt, Instr.sureAddr, Sem.run_bind, Sem.run_pure, Result.andThen_ok, run_load_sub w g off t ty cs sub fr d hg hsub hu hd hi]
  exact h
theorem wpl_load_sub {ops : Array Oper} {rest : List Oper} {o : Oper} {a : Act} {w : World} {Q : Exit → Act → World → Prop} (hgd : o.guard = none) (ty : TypeId) (x : Operand) (ho : o.op = .load ty x)
    (g off : Nat) (hx : a.eval x = .pointer (some ⟨g, off, none⟩)) (t : TypeId) (cs sub : Array Value) (fr : Nat × Nat) (d : TypeDesc) (hg : w.heap[g]? = some (.cells cs t fr)) (hsub : ∀ j, j < sub.size → cs[off + j]? = sub[j]?)
    (hu : P.underlying ty = some d) (hd : (match d with | .struct _ | .array _ _ => true | _ => false) = true) (hi : (P.info? ty).map (·.size) = some sub.size)
    (h : wpList P ops Q rest (a.put o.dst (.agg sub)) w) : wpList P ops Q (o :: rest) a w :=
  wpList_plain hgd fun _ hK => wp_load_sub ty x ho g off hx t cs sub fr d hg hsub hu hd hi (hK _ _ h)
theorem wpl_buildC {w : World} {ops : Array Oper} {rest : List Oper} {o : Oper} {a : Act} {Q : Exit → Act → World → Prop} (hgd : o.guard = none) (t : TypeId) (parts : Array (Nat × Operand)) (ho : o.op = .build t parts) (cs : Array Value) (l : List (Nat × Value))
    (hl : (parts.map fun (i, x) => (i, a.eval x)).toList = l) (hb : P.built t l = some cs) (h : wpList P ops Q rest (a.put o.dst (.agg cs)) w) : wpList P ops Q (o :: rest) a w :=
  wpList_plain hgd fun _ hK => wp_buildC t parts ho cs l hl hb (hK _ _ h)
end
theorem ownLow {w : World} {N N' size n : Nat} {t : TypeId} {v : Value} {xs : List Value} (h : w.ownsRow N t size v n xs) (hN : N' ≤ N) : w.ownsRow N' t size v n xs := by
  refine ⟨h.1, ?_⟩
  rcases h.2 with h0 | ⟨g, cap, cur, rfl, hg, r⟩
  · exact .inl h0
  · exact .inr ⟨g, cap, cur, rfl, Nat.le_trans hN hg, r⟩
abbrev tScene : TypeId := 57
abbrev tIn : TypeId := 138
theorem arr31 (cs : Array Value) (h : cs.size = 31) : cs = #[cs[0], cs[1], cs[2], cs[3], cs[4], cs[5], cs[6], cs[7], cs[8], cs[9], cs[10], cs[11], cs[12], cs[13], cs[14], cs[15], cs[16], cs[17], cs[18], cs[19], cs[20], cs[21], cs[22], cs[23], cs[24], cs[25], cs[26], cs[27], cs[28], cs[29], cs[30]] := by
  refine Array.ext (by simpa using h) fun i h1 h2 => ?_
  have hi : i < 31 := by omega
  match i, hi with
  | 0, _ => exact rfl
  | 1, _ => exact rfl
  | 2, _ => exact rfl
  | 3, _ => exact rfl
  | 4, _ => exact rfl
  | 5, _ => exact rfl
  | 6, _ => exact rfl
  | 7, _ => exact rfl
  | 8, _ => exact rfl
  | 9, _ => exact rfl
  | 10, _ => exact rfl
  | 11, _ => exact rfl
  | 12, _ => exact rfl
  | 13, _ => exact rfl
  | 14, _ => exact rfl
  | 15, _ => exact rfl
  | 16, _ => exact rfl
  | 17, _ => exact rfl
  | 18, _ => exact rfl
  | 19, _ => exact rfl
  | 20, _ => exact rfl
  | 21, _ => exact rfl
  | 22, _ => exact rfl
  | 23, _ => exact rfl
  | 24, _ => exact rfl
  | 25, _ => exact rfl
  | 26, _ => exact rfl
  | 27, _ => exact rfl
  | 28, _ => exact rfl
  | 29, _ => exact rfl
  | 30, _ => exact rfl
  | n + 31, h => exact absurd h (by omega)
theorem call3 (a b c : Value) (sc : Array Value) (j : Nat) : (#[a, b, c] ++ sc)[3 + j]? = sc[j]? := by
  rw [Array.getElem?_append_right (by simp)]
  congr 1
  simp
set_option maxRecDepth 100000 in
theorem built_in (sc : Array Value) (h : sc.size = 31) (s n : ByteArray) (a : Option Addr) (l c : Nat) : Tryz.prog.built tIn [(0, .agg #[.string s, .string n, .slice a l c]), (1, .agg sc)] = some (#[.string s, .string n, .slice a l c] ++ sc) := by
  rw [arr31 sc h]
  kernel_rfl
theorem size_sc {sc : Array Value} (h : sc.size = 31) : (Tryz.prog.info? tScene).map (·.size) = some sc.size := by rw [h]; kernel_rfl
theorem size_in {a b c : Value} {sc : Array Value} (h : sc.size = 31) : (Tryz.prog.info? tIn).map (·.size) = some (#[a, b, c] ++ sc).size := by rw [Array.size_append, h]; kernel_rfl
def zeroS : Array Value := #[.pointer none, .int .u8 0, .int .u8 0, .int .u8 0, .int .u8 0, .int .u8 0, .int .u8 0, .int .u8 0, .int .u8 0, .int .u8 0, .int .u8 0, .int .u8 0, .int .u8 0, .int .u8 0, .int .u8 0, .int .u8 0, .int .u8 0, .int .u8 0, .int .u8 0, .int .u32 0, .int .u32 0, .int .i64 0, .int .i64 0, .int .i64 0, .int .i64 0, .int .i64 0, .slice none 0 0, .int .u32 0, .string ⟨#[]⟩, .int .u32 0, .int .u64 0]
def natA : Ar := [([78, 101, 119, 82, 83, 73, 80, 65, 118, 97, 105, 108, 97, 98, 108, 101], [48]), ([78, 101, 119, 78, 65, 84, 69, 110, 97, 98, 108, 101, 100], [49])]
set_option maxRecDepth 100000 in
set_option maxHeartbeats 8000000 in
theorem run_nat (w : World) (s : ByteArray) (va : Value) (sc : Array Value) (hs : sc.size = 31) (hone : sc.all (·.oneCell') = true) : Calls Tryz.prog 60 #[.agg (#[.string s, .string ⟨#[71, 101, 116, 78, 65, 84, 82, 83, 73, 80, 83, 116, 97, 116, 117, 115]⟩, va] ++ sc)] w fun e w' => w.grownBy w' none ∧ ∃ v, e = .returned (.tuple #[v, .int .i64 0]) ∧ w'.ownsRow w.heap.size tArg 2 v natA.length (duo natA) := by
  have g1 := gr_alloc (gr_refl w none) (.cells (#[.string s, .string ⟨#[71, 101, 116, 78, 65, 84, 82, 83, 73, 80, 83, 116, 97, 116, 117, 115]⟩, va] ++ sc) tIn)
  have n1 := heap_alloc_new w (.cells (#[.string s, .string ⟨#[71, 101, 116, 78, 65, 84, 82, 83, 73, 80, 83, 116, 97, 116, 117, 115]⟩, va] ++ sc) tIn)
  obtain ⟨w1, hw1⟩ : ∃ x, x = w.alloc (.cells (#[.string s, .string ⟨#[71, 101, 116, 78, 65, 84, 82, 83, 73, 80, 83, 116, 97, 116, 117, 115]⟩, va] ++ sc) tIn) := ⟨_, rfl⟩
  obtain ⟨b, hb⟩ : ∃ x, x = w.heap.size := ⟨_, rfl⟩
  rw [← hw1] at g1 n1
  rw [← hb] at n1
  have N1 := hid n1
  have G1 := hid g1
  have HS := hid hs
  have HW1 := hid hw1
  have HB := hid hb
  have HSS := hid (size_sc hs)
  have HSUB := hid (fun j (_ : j < sc.size) => call3 (.string s) (.string ⟨#[71, 101, 116, 78, 65, 84, 82, 83, 73, 80, 83, 116, 97, 116, 117, 115]⟩) va sc j)
  clear g1 n1 hw1 hs hb
  go_enter Tryz.func60, Tryz.ntmps60
  go_upto_region 1 with fail
  rw [← HW1.out, ← HB.out]
  clear HW1
  have c1 : w1.cell? ⟨b, 1, none⟩ = some (.string ⟨#[71, 101, 116, 78, 65, 84, 82, 83, 73, 80, 83, 116, 97, 116, 117, 115]⟩) := (cell_of_block N1.out 1).trans (by rw [Array.getElem?_append_left (by simp)]; rfl)
  have n2 := heap_alloc_new w1 (.cells zeroS tScene)
  have g2 := World.grownBy_alloc w1 (.cells zeroS tScene) none
  have HO := hid hone
  have HS2 := hid (show zeroS.size = sc.size by rw [HS.out]; rfl)
  obtain ⟨w2, hw2⟩ : ∃ x, x = (w1.alloc (.cells zeroS tScene)).setRow w1.heap.size sc := ⟨_, rfl⟩
  have N2 := hid (show w2.heap[b]? = some (.cells (#[.string s, .string ⟨#[71, 101, 116, 78, 65, 84, 82, 83, 73, 80, 83, 116, 97, 116, 117, 115]⟩, va] ++ sc) tIn (0, 0)) by rw [hw2]; exact (setRow_other _ w1.heap.size b _ (by have := lt_of_block N1.out; omega)).trans (gr_keep g2 N1.out (by simp)))
  have G2 := hid (show w.grownBy w2 none by rw [hw2]; exact gr_of_below (below_setRow (gr_below (gr_trans G1.out g2)) G1.out.size _))
  have HW2 := hid hw2
  have NN2 := hid n2
  clear n2 g2 hw2 hone
  go_upto_region 2 with (first
    | (with_reducible refine wpl_load_sub (o := ⟨some 6, _, _, _, _, _⟩) rfl tScene _ rfl b 3 rfl tIn _ sc (0, 0) _ N1.out HSUB.out Tryz.underlying57 rfl HSS.out ?_)
    | ((with_reducible refine wpList_store_row (o := ⟨none, _, _, _, _, _⟩) rfl tScene (.tmp 4) (.tmp 6) rfl w1.heap.size sc ?h1 ?h2 tScene zeroS ?hg ?hi ?ho ?hone ?hm); (case h1 => rfl); (case h2 => rfl); (case hg => exact NN2.out); (case hi => exact HSS.out); (case ho => exact HS2.out); (case hone => exact HO.out)))
  rw [show (Obj.cells #[.pointer none, .int .u8 0, .int .u8 0, .int .u8 0, .int .u8 0, .int .u8 0, .int .u8 0, .int .u8 0, .int .u8 0, .int .u8 0, .int .u8 0, .int .u8 0, .int .u8 0, .int .u8 0, .int .u8 0, .int .u8 0, .int .u8 0, .int .u8 0, .int .u8 0, .int .u32 0, .int .u32 0, .int .i64 0, .int .i64 0, .int .i64 0, .int .i64 0, .int .i64 0, .slice none 0 0, .int .u32 0, .string ⟨#[]⟩, .int .u32 0, .int .u64 0] tScene) = .cells zeroS tScene from rfl, ← HW2.out]
  clear HW2 NN2 c1
  have c1 : w2.cell? ⟨b, 1, none⟩ = some (.string ⟨#[71, 101, 116, 78, 65, 84, 82, 83, 73, 80, 83, 116, 97, 116, 117, 115]⟩) := (cell_of_block N2.out 1).trans (by rw [Array.getElem?_append_left (by simp)]; rfl)
  have g3 := World.grownBy_alloc w2 (.cells #[.string ⟨#[78, 101, 119, 82, 83, 73, 80, 65, 118, 97, 105, 108, 97, 98, 108, 101]⟩, .string ⟨#[48]⟩, .string ⟨#[78, 101, 119, 78, 65, 84, 69, 110, 97, 98, 108, 101, 100]⟩, .string ⟨#[49]⟩] 9) none
  have n3 := heap_alloc_new w2 (.cells #[.string ⟨#[78, 101, 119, 82, 83, 73, 80, 65, 118, 97, 105, 108, 97, 98, 108, 101]⟩, .string ⟨#[48]⟩, .string ⟨#[78, 101, 119, 78, 65, 84, 69, 110, 97, 98, 108, 101, 100]⟩, .string ⟨#[49]⟩] 9)
  have HA := hid (iargs_any _ _ natA (txs_new (l := txs natA) (c := 4) n3 rfl) (by decide))
  have G3 := hid (gr_trans G2.out g3)
  clear g3 n3
  go_wp2_with fail
  refine HA.out.mono ?_
  rintro e w4 ⟨g4, v4, rfl, ho⟩
  have HOW := hid (ownLow ho G3.out.size)
  have G4 := hid (gr_trans G3.out g4)
  obtain ⟨a4, c4, rfl⟩ := own_shapeG ho
  clear ho g4 G3 G2 HA
  go_wp2_with fail
  go_ret2
  exact ⟨G4.out, _, rfl, HOW.out⟩
end Go.Proofs.YtmofnoconhgjmaaGreatDoor
/- igd.Do of the document's example. -/
namespace Go.Proofs.YtmofnoconhgjmaaGreatDoor
open Go.RowKit
set_option linter.unusedVariables false
set_option linter.unusedSimpArgs false

theorem right_nil (w : World) (a a' : Option Addr) (c c' : Nat) : Calls Tryz.prog 59 #[.slice a 0 c, .slice a' 0 c'] w fun e w' => e = .returned (.bool true) ∧ w' = w := by
  go_enter Tryz.func59, Tryz.ntmps59
  go_wp2_with fail
  refine wp_loop_rounds 1 ?_
  rw [rounds_succ]
  go_wp2_with fail
  go_ret
  exact ⟨rfl, rfl⟩
def svcB : ByteArray := ⟨#[117, 114, 110, 58, 115, 99, 104, 101, 109, 97, 115, 45, 117, 112, 110, 112, 45, 111, 114, 103, 58, 115, 101, 114, 118, 105, 99, 101, 58, 87, 65, 78, 73, 80, 67, 111, 110, 110, 101, 99, 116, 105, 111, 110, 58, 50]⟩
theorem acts_ne : ∀ k, k < 6 → ((actsN.getD k (ByteArray.empty, [])).1.toList == [71, 101, 116, 78, 65, 84, 82, 83, 73, 80, 83, 116, 97, 116, 117, 115]) = false := by
  intro k hk
  rw [Lib.toList_data]
  match k, hk with
  | 0, _ => rfl
  | 1, _ => rfl
  | 2, _ => rfl
  | 3, _ => rfl
  | 4, _ => rfl
  | 5, _ => rfl
def DoNatQ (w : World) (e : Ending) (w' : World) : Prop := w.grownBy w' none ∧ ∃ v, e = .returned (.tuple #[.agg #[.string ⟨#[117, 114, 110, 58, 115, 99, 104, 101, 109, 97, 115, 45, 117, 112, 110, 112, 45, 111, 114, 103, 58, 115, 101, 114, 118, 105, 99, 101, 58, 87, 65, 78, 73, 80, 67, 111, 110, 110, 101, 99, 116, 105, 111, 110, 58, 50]⟩, .string ⟨#[71, 101, 116, 78, 65, 84, 82, 83, 73, 80, 83, 116, 97, 116, 117, 115, 82, 101, 115, 112, 111, 110, 115, 101]⟩, v], .int .i64 0]) ∧ w'.ownsRow w.heap.size tArg 2 v natA.length (duo natA)
set_option maxRecDepth 100000 in
set_option maxHeartbeats 20000000 in
theorem do_nat (w : World) (sc : Array Value) (hs : sc.size = 31) (hone : sc.all (·.oneCell') = true) :
    Calls Tryz.prog 22 #[.agg sc, .agg #[.string ⟨#[117, 114, 110, 58, 115, 99, 104, 101, 109, 97, 115, 45, 117, 112, 110, 112, 45, 111, 114, 103, 58, 115, 101, 114, 118, 105, 99, 101, 58, 87, 65, 78, 73, 80, 67, 111, 110, 110, 101, 99, 116, 105, 111, 110, 58, 50]⟩, .string ⟨#[71, 101, 116, 78, 65, 84, 82, 83, 73, 80, 83, 116, 97, 116, 117, 115]⟩, .slice none 0 0]] w (DoNatQ w) := by
  have n1 := heap_alloc_new w (.cells sc tScene)
  have g1 := gr_alloc (gr_refl w none) (.cells sc tScene)
  have n2 := heap_alloc_new (w.alloc (.cells sc tScene)) (.cells #[.string ⟨#[117, 114, 110, 58, 115, 99, 104, 101, 109, 97, 115, 45, 117, 112, 110, 112, 45, 111, 114, 103, 58, 115, 101, 114, 118, 105, 99, 101, 58, 87, 65, 78, 73, 80, 67, 111, 110, 110, 101, 99, 116, 105, 111, 110, 58, 50]⟩, .string ⟨#[71, 101, 116, 78, 65, 84, 82, 83, 73, 80, 83, 116, 97, 116, 117, 115]⟩, .slice none 0 0] tCall)
  have g2 := World.grownBy_alloc (w.alloc (.cells sc tScene)) (.cells #[.string ⟨#[117, 114, 110, 58, 115, 99, 104, 101, 109, 97, 115, 45, 117, 112, 110, 112, 45, 111, 114, 103, 58, 115, 101, 114, 118, 105, 99, 101, 58, 87, 65, 78, 73, 80, 67, 111, 110, 110, 101, 99, 116, 105, 111, 110, 58, 50]⟩, .string ⟨#[71, 101, 116, 78, 65, 84, 82, 83, 73, 80, 83, 116, 97, 116, 117, 115]⟩, .slice none 0 0] tCall) none
  have n3 := heap_alloc_new ((w.alloc (.cells sc tScene)).alloc (.cells #[.string ⟨#[117, 114, 110, 58, 115, 99, 104, 101, 109, 97, 115, 45, 117, 112, 110, 112, 45, 111, 114, 103, 58, 115, 101, 114, 118, 105, 99, 101, 58, 87, 65, 78, 73, 80, 67, 111, 110, 110, 101, 99, 116, 105, 111, 110, 58, 50]⟩, .string ⟨#[71, 101, 116, 78, 65, 84, 82, 83, 73, 80, 83, 116, 97, 116, 117, 115]⟩, .slice none 0 0] tCall)) (.cells #[.string ⟨#[]⟩, .string ⟨#[]⟩, .slice none 0 0] tCall)
  have g3 := World.grownBy_alloc ((w.alloc (.cells sc tScene)).alloc (.cells #[.string ⟨#[117, 114, 110, 58, 115, 99, 104, 101, 109, 97, 115, 45, 117, 112, 110, 112, 45, 111, 114, 103, 58, 115, 101, 114, 118, 105, 99, 101, 58, 87, 65, 78, 73, 80, 67, 111, 110, 110, 101, 99, 116, 105, 111, 110, 58, 50]⟩, .string ⟨#[71, 101, 116, 78, 65, 84, 82, 83, 73, 80, 83, 116, 97, 116, 117, 115]⟩, .slice none 0 0] tCall)) (.cells #[.string ⟨#[]⟩, .string ⟨#[]⟩, .slice none 0 0] tCall) none
  simp only [World.size_alloc] at n2 n3
  obtain ⟨w3, hw3⟩ : ∃ x, x = ((w.alloc (.cells sc tScene)).alloc (.cells #[.string ⟨#[117, 114, 110, 58, 115, 99, 104, 101, 109, 97, 115, 45, 117, 112, 110, 112, 45, 111, 114, 103, 58, 115, 101, 114, 118, 105, 99, 101, 58, 87, 65, 78, 73, 80, 67, 111, 110, 110, 101, 99, 116, 105, 111, 110, 58, 50]⟩, .string ⟨#[71, 101, 116, 78, 65, 84, 82, 83, 73, 80, 83, 116, 97, 116, 117, 115]⟩, .slice none 0 0] tCall)).alloc (.cells #[.string ⟨#[]⟩, .string ⟨#[]⟩, .slice none 0 0] tCall) := ⟨_, rfl⟩
  obtain ⟨b, hb⟩ : ∃ x, x = w.heap.size := ⟨_, rfl⟩
  rw [← hw3] at n3 g3
  rw [← hb] at n1 n2 n3
  have S3 := hid (gr_keep (gr_trans g2 g3) n1 (by simp))
  have C3 := hid (gr_keep g3 n2 (by simp))
  have R3 := hid n3
  have G3 := hid (gr_trans g1 (gr_trans g2 g3))
  have HLE := hid (show w.heap.size ≤ b + 1 + 1 by omega)
  have HB0 := hid hb
  have HW3 := hid hw3
  have HS := hid hs
  have HO := hid hone
  have HSS := hid (size_sc hs)
  clear n1 n2 n3 g1 g2 g3 hw3 hb hs hone
  go_enter Tryz.func22, Tryz.ntmps22
  go_upto_region 1 with fail
  rw [← HW3.out, ← HB0.out]
  clear HW3
  have c0 : w3.cell? ⟨b + 1, 0, none⟩ = some (.string ⟨#[117, 114, 110, 58, 115, 99, 104, 101, 109, 97, 115, 45, 117, 112, 110, 112, 45, 111, 114, 103, 58, 115, 101, 114, 118, 105, 99, 101, 58, 87, 65, 78, 73, 80, 67, 111, 110, 110, 101, 99, 116, 105, 111, 110, 58, 50]⟩) := cell_of_block C3.out 0
  go_wp2_with fail
  refine (actions_any w3).mono ?_
  rintro e w4 ⟨g4, v4, rfl, ba, rfl, hact⟩
  have S4 := hid (gr_keep g4 S3.out (by simp))
  have C4 := hid (gr_keep g4 C3.out (by simp))
  have R4 := hid (gr_keep g4 R3.out (by simp))
  have G4 := hid (gr_trans G3.out g4)
  have HACT := hid hact
  clear g4 hact c0 S3 C3 R3 G3
  go_wp2_with fail
  go_loopw [16] (fun vk wr => ∃ k : Nat, vk = .int .i64 (k : Int) ∧ k ≤ 6 ∧ Hid (w4.grownBy wr none)) (fun vk _ => 15 - (intOf vk).toNat)
  case atStart => exact ⟨0, rfl, by omega, hid (gr_refl _ _)⟩
  case round =>
    obtain ⟨k, rfl, hk, gr⟩ := hrel
    obtain ⟨a0, av, a1, htx⟩ := HACT.out k (by omega)
    have a0 := gr.out.cell a0 (by simp)
    have a1 := gr.out.cell a1 (by simp)
    have HTX := hid (htx.grow gr.out)
    obtain ⟨ta, tc, rfl, -⟩ := htx
    have CR := hid (gr_keep gr.out C4.out (by simp))
    have hk0 : (0 : Int) ≤ (k : Int) := by omega
    have hk1 : (k : Int) < 15 := by omega
    by_cases h6 : k < 6
    · have hne := acts_ne k h6
      generalize (actsN.getD k (ByteArray.empty, [])).1 = nm at *
      generalize (actsN.getD k (ByteArray.empty, [])).2.length = tl at *
      have ga := World.grownBy_alloc wr (.cells #[.string nm, .slice ta tl tc] 134) none
      have GA := hid (gr_trans gr.out ga)
      have c1 : (wr.alloc (.cells #[.string nm, .slice ta tl tc] 134)).cell? ⟨b + 1, 1, none⟩ = some (.string ⟨#[71, 101, 116, 78, 65, 84, 82, 83, 73, 80, 83, 116, 97, 116, 117, 115]⟩) := ga.cell (cell_of_block CR.out 1) (by simp)
      clear ga gr HTX CR
      go_wp2_with fail
      go_roundw
      case rel => exact ⟨k + 1, by go_num, by omega, GA⟩
      case measure => simp [intOf]; omega
    · obtain rfl : k = 6 := by omega
      rw [show (actsN.getD 6 (ByteArray.empty, [])).1 = ⟨#[71, 101, 116, 78, 65, 84, 82, 83, 73, 80, 83, 116, 97, 116, 117, 115]⟩ from rfl] at a0
      rw [show (actsN.getD 6 (ByteArray.empty, [])).2.length = 0 from rfl] at a1
      have ga := World.grownBy_alloc wr (.cells #[.string ⟨#[71, 101, 116, 78, 65, 84, 82, 83, 73, 80, 83, 116, 97, 116, 117, 115]⟩, .slice ta 0 tc] 134) none
      have na := heap_alloc_new wr (.cells #[.string ⟨#[71, 101, 116, 78, 65, 84, 82, 83, 73, 80, 83, 116, 97, 116, 117, 115]⟩, .slice ta 0 tc] 134)
      obtain ⟨w5, hw5⟩ : ∃ x, x = wr.alloc (.cells #[.string ⟨#[71, 101, 116, 78, 65, 84, 82, 83, 73, 80, 83, 116, 97, 116, 117, 115]⟩, .slice ta 0 tc] 134) := ⟨_, rfl⟩
      obtain ⟨kb, hkb⟩ : ∃ x, x = wr.heap.size := ⟨_, rfl⟩
      rw [← hw5] at ga na
      rw [← hkb] at na
      have A5 := hid na
      have g5 := gr_trans gr.out ga
      have S5 := hid (gr_keep g5 S4.out (by simp))
      have C5 := hid (gr_keep g5 C4.out (by simp))
      have R5 := hid (gr_keep g5 R4.out (by simp))
      have G5 := hid (gr_trans G4.out g5)
      have HW5 := hid hw5
      have HKB := hid hkb
      clear ga na hw5 hkb g5 gr HTX CR S4 C4 R4 G4
      go_upto_region 6 with fail
      rw [← HW5.out, ← HKB.out]
      clear HW5 HKB a0 a1
      have q0 : w5.cell? ⟨kb, 0, none⟩ = some (.string ⟨#[71, 101, 116, 78, 65, 84, 82, 83, 73, 80, 83, 116, 97, 116, 117, 115]⟩) := cell_of_block A5.out 0
      have q1 : w5.cell? ⟨kb, 1, none⟩ = some (.slice ta 0 tc) := cell_of_block A5.out 1
      have c0 : w5.cell? ⟨b + 1, 0, none⟩ = some (.string ⟨#[117, 114, 110, 58, 115, 99, 104, 101, 109, 97, 115, 45, 117, 112, 110, 112, 45, 111, 114, 103, 58, 115, 101, 114, 118, 105, 99, 101, 58, 87, 65, 78, 73, 80, 67, 111, 110, 110, 101, 99, 116, 105, 111, 110, 58, 50]⟩) := cell_of_block C5.out 0
      have c1 : w5.cell? ⟨b + 1, 1, none⟩ = some (.string ⟨#[71, 101, 116, 78, 65, 84, 82, 83, 73, 80, 83, 116, 97, 116, 117, 115]⟩) := cell_of_block C5.out 1
      have c2 : w5.cell? ⟨b + 1, 2, none⟩ = some (.slice none 0 0) := cell_of_block C5.out 2
      go_wp2_with fail
      refine (right_nil w5 ta none tc 0).mono ?_
      rintro e w6 ⟨rfl, rfl⟩
      have RN := hid (run_nat w6 ⟨#[117, 114, 110, 58, 115, 99, 104, 101, 109, 97, 115, 45, 117, 112, 110, 112, 45, 111, 114, 103, 58, 115, 101, 114, 118, 105, 99, 101, 58, 87, 65, 78, 73, 80, 67, 111, 110, 110, 101, 99, 116, 105, 111, 110, 58, 50]⟩ (.slice none 0 0) sc HS.out HO.out)
      go_wp2_with (first
        | (with_reducible refine wpList_load_row (o := ⟨some 34, _, _, _, _, _⟩) rfl tScene _ rfl b rfl tScene sc (0, 0) _ S5.out Tryz.underlying57 rfl HSS.out ?_)
        | (with_reducible refine wpl_buildC (o := ⟨some 35, _, _, _, _, _⟩) rfl tIn _ rfl (#[.string ⟨#[117, 114, 110, 58, 115, 99, 104, 101, 109, 97, 115, 45, 117, 112, 110, 112, 45, 111, 114, 103, 58, 115, 101, 114, 118, 105, 99, 101, 58, 87, 65, 78, 73, 80, 67, 111, 110, 110, 101, 99, 116, 105, 111, 110, 58, 50]⟩, .string ⟨#[71, 101, 116, 78, 65, 84, 82, 83, 73, 80, 83, 116, 97, 116, 117, 115]⟩, .slice none 0 0] ++ sc) [(0, .agg #[.string ⟨#[117, 114, 110, 58, 115, 99, 104, 101, 109, 97, 115, 45, 117, 112, 110, 112, 45, 111, 114, 103, 58, 115, 101, 114, 118, 105, 99, 101, 58, 87, 65, 78, 73, 80, 67, 111, 110, 110, 101, 99, 116, 105, 111, 110, 58, 50]⟩, .string ⟨#[71, 101, 116, 78, 65, 84, 82, 83, 73, 80, 83, 116, 97, 116, 117, 115]⟩, .slice none 0 0]), (1, .agg sc)] (by kernel_rfl) (built_in sc HS.out _ _ _ _ _) ?_))
      refine RN.out.mono ?_
      rintro e w7 ⟨g7, v7, rfl, ho⟩
      have C7 := hid (gr_keep g7 C5.out (by simp))
      have R7 := hid (gr_keep g7 R5.out (by simp))
      have G7 := hid (gr_trans G5.out g7)
      have HG5 := hid G5.out.size
      have HBW := hid (show b + 1 + 1 < w6.heap.size from lt_of_block R5.out)
      have HOB := hid ho
      obtain ⟨a7, c7, rfl⟩ := own_shapeG ho
      clear ho g7 S5 A5 R5 C5 G5 RN q0 q1 c0 c1 c2
      have c1 : w7.cell? ⟨b + 1, 1, none⟩ = some (.string ⟨#[71, 101, 116, 78, 65, 84, 82, 83, 73, 80, 83, 116, 97, 116, 117, 115]⟩) := cell_of_block C7.out 1
      have k0 : w7.cell? ⟨b + 1 + 1, 0, none⟩ = some (.string ⟨#[]⟩) := cell_of_block R7.out 0
      have k1 : w7.cell? ⟨b + 1 + 1, 1, none⟩ = some (.string ⟨#[]⟩) := cell_of_block R7.out 1
      have k2 : w7.cell? ⟨b + 1 + 1, 2, none⟩ = some (.slice none 0 0) := cell_of_block R7.out 2
      have z0 := free_of_block R7.out 0
      have z1 := free_of_block R7.out 1
      have z2 := free_of_block R7.out 2
      have hcat : ((⟨#[71, 101, 116, 78, 65, 84, 82, 83, 73, 80, 83, 116, 97, 116, 117, 115]⟩ : ByteArray) ++ (⟨#[82, 101, 115, 112, 111, 110, 115, 101]⟩ : ByteArray)) = ⟨#[71, 101, 116, 78, 65, 84, 82, 83, 73, 80, 83, 116, 97, 116, 117, 115, 82, 101, 115, 112, 111, 110, 115, 101]⟩ := by kernel_rfl
      go_wp2
      refine bodyPost_ret (v := .tuple #[.agg #[.string ⟨#[117, 114, 110, 58, 115, 99, 104, 101, 109, 97, 115, 45, 117, 112, 110, 112, 45, 111, 114, 103, 58, 115, 101, 114, 118, 105, 99, 101, 58, 87, 65, 78, 73, 80, 67, 111, 110, 110, 101, 99, 116, 105, 111, 110, 58, 50]⟩, .string ⟨#[71, 101, 116, 78, 65, 84, 82, 83, 73, 80, 83, 116, 97, 116, 117, 115, 82, 101, 115, 112, 111, 110, 115, 101]⟩, .slice a7 natA.length c7], .int .i64 0]) (by simp [results, Tryz.results22, go_sem, k0, k1, k2]) rfl ?_
      refine ⟨gr_set_new (gr_set_new (gr_set_new G7.out HLE.out) HLE.out) HLE.out, _, rfl, ?_⟩
      exact ownLow (own_setB (own_setB (own_setB HOB.out HBW.out) HBW.out) HBW.out) HG5.out
end Go.Proofs.YtmofnoconhgjmaaGreatDoor
