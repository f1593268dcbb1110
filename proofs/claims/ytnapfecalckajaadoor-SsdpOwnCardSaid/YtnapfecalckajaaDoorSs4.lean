/- ssdp.Names: its closure as an iterator. -/
import Derived.Test.YtnapfecalckajaaDoorSs3
import Derived.RangeFuncNested
import Derived.RangeFuncBound
import Derived.RangeFuncCalls
import Derived.RangeFuncLeaves
import Derived.RangeFuncFrom
import Derived.Shelf.Abstract
import Derived.Shelf.RegionOpen
import Derived.WalkKit
import Derived.OwnWalkIn
import Derived.TacticsInMore
import Derived.LoopNIn
import Derived.LoopIn
namespace Go.Proofs.YtnapfecalckajaaDoor
open Go.RowKit Go.Shelf
attribute [local go_sem] Oper.semAt_some

/-- Blocks of strings lie as they lay. -/
def KS (W W' : World) : Prop := ∀ (i : Nat) (cs : Array Value) (fr : Nat × Nat), W.heap[i]? = some (.cells cs 9 fr) → W'.heap[i]? = some (.cells cs 9 fr)
theorem KS.refl (W : World) : KS W W := fun _ _ _ h => h
theorem KS.trans {A B C : World} (h : KS A B) (k : KS B C) : KS A C := fun i cs fr e => k i cs fr (h i cs fr e)
theorem KS.none {A B : World} (h : A.grownBy B none) : KS A B := fun i _ _ e => gr_keep h e (by simp)
theorem ks_b {n0 : Nat} (W : World) (l : Nat) (o o' : Obj) (_ : n0 ≤ l) (h : W.heap[l]? = some o) (hc : o.isCells = false) (_ : o.isWalk = false) : KS W (W.putObj l o') := fun i cs fr e => by
  have hne : i ≠ l := fun h2 => by subst h2; rw [h] at e; cases e; cases hc
  exact (World.putObj_heap_other hne).trans e
def rootT : List UInt8 := [117, 112, 110, 112, 58, 114, 111, 111, 116, 100, 101, 118, 105, 99, 101]
def dev1T : List UInt8 := [117, 114, 110, 58, 115, 99, 104, 101, 109, 97, 115, 45, 117, 112, 110, 112, 45, 111, 114, 103, 58, 100, 101, 118, 105, 99, 101, 58, 73, 110, 116, 101, 114, 110, 101, 116, 71, 97, 116, 101, 119, 97, 121, 68, 101, 118, 105, 99, 101, 58, 49]
def dev2T : List UInt8 := [117, 114, 110, 58, 115, 99, 104, 101, 109, 97, 115, 45, 117, 112, 110, 112, 45, 111, 114, 103, 58, 100, 101, 118, 105, 99, 101, 58, 73, 110, 116, 101, 114, 110, 101, 116, 71, 97, 116, 101, 119, 97, 121, 68, 101, 118, 105, 99, 101, 58, 50]
def ser1T : List UInt8 := [117, 114, 110, 58, 115, 99, 104, 101, 109, 97, 115, 45, 117, 112, 110, 112, 45, 111, 114, 103, 58, 115, 101, 114, 118, 105, 99, 101, 58, 87, 65, 78, 73, 80, 67, 111, 110, 110, 101, 99, 116, 105, 111, 110, 58, 49]
def ser2T : List UInt8 := [117, 114, 110, 58, 115, 99, 104, 101, 109, 97, 115, 45, 117, 112, 110, 112, 45, 111, 114, 103, 58, 115, 101, 114, 118, 105, 99, 101, 58, 87, 65, 78, 73, 80, 67, 111, 110, 110, 101, 99, 116, 105, 111, 110, 58, 50]
def uuT : List UInt8 := [117, 117, 105, 100, 58]
def ownU (u : List UInt8) : List UInt8 := uuT ++ u
/-- The device's names, and the unique ones. -/
def nmL (u : List UInt8) : List (List UInt8) := [rootT, ownU u, dev1T, dev2T, ser1T, ser2T]
def unL (u n : List UInt8) : List UInt8 := if n = ownU u then ownU u else ownU u ++ [58, 58] ++ n
def prsU (u : List UInt8) : List (List UInt8 × List UInt8) := (nmL u).map fun n => (n, unL u n)
theorem nmL_len {u : List UInt8} (h : u.length ≤ 300) : ∀ n ∈ nmL u, n.length ≤ 305 := by
  unfold nmL
  simp only [List.mem_cons, List.not_mem_nil, or_false]
  rintro n (rfl | rfl | rfl | rfl | rfl | rfl)
  · decide
  · unfold ownU; rw [List.length_append]; show 5 + u.length ≤ 305; omega
  · decide
  · decide
  · decide
  · decide
set_option maxRecDepth 100000 in
set_option maxHeartbeats 4000000 in
theorem names1_in (F : Fence) (n : Nat) (hF : F.fn 36) (hro : F.round = none) (hn : 1 ≤ n) (l Bs : Nat) (u : List UInt8) (hu : u.length ≤ 300) (J Jx : List (List UInt8 × List UInt8) → World → Prop)
    (W : World) (hJ : AbidesFrom W.heap.size J)
    (hY : ∀ pre x W, J pre W → pre.length < 6 → x.1.length ≤ 305 ∧ x.2.length ≤ 700 → YieldAt F (n - 1) Tryd.prog l #[str x.1, str x.2] W fun e W' =>
      (e = .returned (.bool true) ∧ J (pre ++ [x]) W' ∧ KS W W') ∨ (e = .returned (.bool false) ∧ Jx (pre ++ [x]) W'))
    (hbox : Hid (W.cell? ⟨Bs, 27, none⟩ = some (str u))) (h0 : J [] W) :
    CallsIn F n Tryd.prog 36 #[.func (.yield l) #[] #[], .pointer (some ⟨Bs, 0, none⟩)] W fun e W' => (∃ v, e = .returned v) ∧
      ((∃ ys, ys = prsU u ∧ J ys W') ∨ (∃ pre, (∃ k, k ≤ 6 ∧ pre = (prsU u).take k) ∧ Jx pre W')) := by
  refine callsIn_of_wp Tryd.func36 rfl hF ?_ hro
  simp only [Tryd.ntmps36, List.size_toArray, List.length_cons, List.length_nil, Nat.reduceAdd, Nat.reduceSub, Array.replicate_succ, Array.replicate_zero, List.push_toArray, List.append_toArray, List.nil_append, List.cons_append]
  have hb := hbox.out
  unfold str at hb
  have hul : (⟨u.toArray⟩ : ByteArray).size ≤ 300 := by rw [Lib.size_eq]; simpa using hu
  gi_wp2
  rw [show ((⟨#[117, 117, 105, 100, 58]⟩ : ByteArray) ++ ⟨u.toArray⟩) = ⟨(ownU u).toArray⟩ from ba_app2 uuT u]
  have hA : (W.alloc (.cells #[str rootT, str (ownU u), str dev1T, str dev2T, str ser1T, str ser2T] 9)).heap[W.heap.size]? = some (.cells ((nmL u).map str).toArray 9 (0, 0)) := heap_alloc_new W _
  have HJ1 := hid (hJ [] W _ none h0 (World.grownBy_alloc W (.cells #[str rootT, str (ownU u), str dev1T, str dev2T, str ser1T, str ser2T] 9) none) (fun r e => by cases e))
  rw [show (W.alloc (.cells #[Value.string ⟨#[117, 112, 110, 112, 58, 114, 111, 111, 116, 100, 101, 118, 105, 99, 101]⟩, .string ⟨(ownU u).toArray⟩, .string ⟨#[117, 114, 110, 58, 115, 99, 104, 101, 109, 97, 115, 45, 117, 112, 110, 112, 45, 111, 114, 103, 58, 100, 101, 118, 105, 99, 101, 58, 73, 110, 116, 101, 114, 110, 101, 116, 71, 97, 116, 101, 119, 97, 121, 68, 101, 118, 105, 99, 101, 58, 49]⟩, .string ⟨#[117, 114, 110, 58, 115, 99, 104, 101, 109, 97, 115, 45, 117, 112, 110, 112, 45, 111, 114, 103, 58, 100, 101, 118, 105, 99, 101, 58, 73, 110, 116, 101, 114, 110, 101, 116, 71, 97, 116, 101, 119, 97, 121, 68, 101, 118, 105, 99, 101, 58, 50]⟩, .string ⟨#[117, 114, 110, 58, 115, 99, 104, 101, 109, 97, 115, 45, 117, 112, 110, 112, 45, 111, 114, 103, 58, 115, 101, 114, 118, 105, 99, 101, 58, 87, 65, 78, 73, 80, 67, 111, 110, 110, 101, 99, 116, 105, 111, 110, 58, 49]⟩, .string ⟨#[117, 114, 110, 58, 115, 99, 104, 101, 109, 97, 115, 45, 117, 112, 110, 112, 45, 111, 114, 103, 58, 115, 101, 114, 118, 105, 99, 101, 58, 87, 65, 78, 73, 80, 67, 111, 110, 110, 101, 99, 116, 105, 111, 110, 58, 50]⟩] 9)) = W.alloc (.cells #[str rootT, str (ownU u), str dev1T, str dev2T, str ser1T, str ser2T] 9) from rfl]
  obtain ⟨W1, hW1⟩ : ∃ W1, W.alloc (.cells #[str rootT, str (ownU u), str dev1T, str dev2T, str ser1T, str ser2T] 9) = W1 := ⟨_, rfl⟩
  rw [hW1] at hA HJ1 ⊢
  have HA := hid hA
  obtain ⟨gb, hgb⟩ : ∃ gb, gb = W.heap.size := ⟨_, rfl⟩
  rw [← hgb] at HA ⊢
  clear hA hW1 hgb hb hul h0 hbox
  have hoL : (ownU u).length ≤ 305 := by unfold ownU; rw [List.length_append]; show 5 + u.length ≤ 305; omega
  have HNL := hid (nmL_len hu)
  have HPR := hid (show prsU u = (nmL u).map fun n => (n, unL u n) from rfl)
  have HL6 := hid (show (nmL u).length = 6 from rfl)
  have HUN := hid (show ∀ x, unL u x = if x = ownU u then ownU u else ownU u ++ [58, 58] ++ x from fun _ => rfl)
  have HY := hid hY
  clear hY hJ
  obtain ⟨PR, hPR⟩ : ∃ PR, prsU u = PR := ⟨_, rfl⟩
  rw [hPR] at HPR
  have HPU := hid hPR
  clear hPR
  generalize nmL u = N at HA HNL HPR HL6 ⊢
  generalize ownU u = ow at hoL HUN ⊢
  generalize unL u = un at HUN HPR ⊢
  gi_loopw [13] (fun i wr => ∃ k : Nat, k ≤ 6 ∧ i = .int .i64 (k : Int) ∧ J (PR.take k) wr ∧ wr.heap[gb]? = some (.cells (N.map str).toArray 9 (0, 0))) (fun i _ => 6 - (intOf i).toNat)
  case atStart => exact ⟨0, Nat.zero_le _, rfl, HJ1.out, HA.out⟩
  case round =>
    obtain ⟨k, hk, rfl, hJk, hAk⟩ := hrel
    by_cases hlt : k < 6
    · obtain ⟨x, hx⟩ : ∃ x, N[k]? = some x := ⟨_, List.getElem?_eq_getElem (by rw [HL6.out]; exact hlt)⟩
      have hcell : wr.cell? ⟨gb, k, none⟩ = some (.string ⟨x.toArray⟩) := (cell_of_block hAk k).trans (by simp [hx]; rfl)
      have hxl : x.length ≤ 305 := HNL.out x (List.mem_of_getElem? hx)
      have HTK := hid (show PR.take (k + 1) = PR.take k ++ [(x, un x)] by rw [HPR.out, List.take_add_one, List.getElem?_map, hx]; rfl)
      have HLN := hid (show (PR.take k).length < 6 by rw [HPR.out]; simp; rw [HL6.out]; omega)
      have hul : (un x).length ≤ 700 := by
        rw [HUN.out]; split
        · omega
        · simp only [List.length_append, List.length_cons, List.length_nil]; omega
      obtain ⟨fn, tmps, assign, body, hy, hR⟩ := HY.out _ (x, un x) wr hJk HLN.out ⟨hxl, hul⟩
      clear hul
      have HAk := hid hAk
      dsimp only at hy
      clear hx hJk hAk
      by_cases he : x = ow
      · subst he
        rw [HUN.out, if_pos rfl] at hy
        have HUE := hid (HUN.out x)
        unfold str at hy
        gi_wp2
        refine hR.mono ?_
        rintro e W3 (⟨rfl, hJ3, hk3⟩ | ⟨rfl, hJx3⟩)
        · gi_wp2
          go_roundw
          case rel => exact ⟨k + 1, by omega, by go_num, by rw [HTK.out]; exact hJ3, hk3 _ _ _ HAk.out⟩
          case measure => simp [intOf]; omega
        · gi_wp2
          refine bodyPost_ret (results_none rfl _ _ _) rfl ?_
          exact ⟨⟨_, rfl⟩, .inr ⟨_, ⟨k + 1, by omega, by rw [HPU.out, HTK.out]⟩, hJx3⟩⟩
      · have he2 : (x == ow) = false := by simpa using he
        rw [HUN.out, if_neg he] at hy
        unfold str at hy
        rw [← ba_app2 (ow ++ [58, 58]) x, ← ba_app2 ow [58, 58]] at hy
        gi_wp2
        refine hR.mono ?_
        rintro e W3 (⟨rfl, hJ3, hk3⟩ | ⟨rfl, hJx3⟩)
        · gi_wp2
          go_roundw
          case rel => exact ⟨k + 1, by omega, by go_num, by rw [HTK.out]; exact hJ3, hk3 _ _ _ HAk.out⟩
          case measure => simp [intOf]; omega
        · gi_wp2
          refine bodyPost_ret (results_none rfl _ _ _) rfl ?_
          exact ⟨⟨_, rfl⟩, .inr ⟨_, ⟨k + 1, by omega, by rw [HPU.out, HTK.out]⟩, hJx3⟩⟩
    · obtain rfl : k = 6 := by omega
      have HT6 := hid (show PR.take 6 = PR from List.take_of_length_le (by rw [HPR.out, List.length_map, HL6.out]; exact Nat.le_refl _))
      rw [HT6.out] at hJk
      gi_wp2
      go_end0
      exact ⟨⟨_, rfl⟩, .inl ⟨_, HPU.out.symm, hJk⟩⟩
/-- A name with its unique one, neither too long. -/
abbrev Pr : Type := { x : List UInt8 × List UInt8 // x.1.length ≤ 305 ∧ x.2.length ≤ 700 }
theorem names_stops (F : Fence) (n : Nat) (hF : F.fn 36) (hro : F.round = none) (hn : 1 ≤ n) (Bs : Nat) (u : List UInt8) (hu : u.length ≤ 300) (w : World) (hbox : w.cell? ⟨Bs, 27, none⟩ = some (str u)) :
    SeqStopsK F n Tryd.prog 36 #[.pointer (some ⟨Bs, 0, none⟩)] (fun x : Pr => #[str x.1.1, str x.1.2]) KS (fun ys => ys.map (·.1) = prsU u) (fun _ => True) 6 w := fun l J Jx W hW hJ _ hY h0 => by
  refine (names1_in F n hF hro hn l Bs u hu (fun pre W => ∃ q : List Pr, q.map (·.1) = pre ∧ J q W) (fun pre W => ∃ q : List Pr, q.map (·.1) = pre ∧ Jx q W) W ?_ ?_ (hid ?_) ⟨[], rfl, h0⟩).mono ?_
  · rintro s A B row ⟨q, hq, hs⟩ hg hr
    exact ⟨q, hq, hJ q A B row hs hg hr⟩
  · rintro pre x W1 ⟨q, rfl, hq⟩ hl hx
    obtain ⟨fn, tmps, assign, body, hy, hR⟩ := hY q ⟨x, hx⟩ W1 hq (by simpa using hl)
    refine ⟨fn, tmps, assign, body, hy, hR.mono ?_⟩
    rintro e W' (⟨he, hj, hk⟩ | ⟨he, hj⟩)
    · exact .inl ⟨he, ⟨q ++ [⟨x, hx⟩], by simp, hj⟩, hk⟩
    · exact .inr ⟨he, ⟨q ++ [⟨x, hx⟩], by simp, hj⟩⟩
  · exact (hW.cell (p := ⟨Bs, 27, none⟩) (World.block_lt_of_cell? _ _ hbox)).trans hbox
  · rintro e W' ⟨hv, (⟨ys, hys, q, hq, hj⟩ | ⟨pre, -, q, hq, hj⟩)⟩
    · exact ⟨hv, .inl ⟨q, hq.trans hys, hj⟩⟩
    · exact ⟨hv, .inr ⟨q, trivial, hj⟩⟩
end Go.Proofs.YtnapfecalckajaaDoor
