/- http.write: its bytes. -/
import Derived.Test.YtldbcdiomkkinaaGreatDoorHt9
import Derived.Lib.ItoaLen
namespace Go.Proofs.YtldbcdiomkkinaaGreatDoor
open Go.RowKit

def lineF (f : List UInt8 × List UInt8) : List UInt8 := f.1 ++ [58, 32] ++ f.2
/-- The row that tells how long the body is. -/
def clenL (n : Nat) : List UInt8 := [67, 79, 78, 84, 69, 78, 84, 45, 76, 69, 78, 71, 84, 72, 58, 32] ++ Lib.itoa (n : Int)
def connL : List UInt8 := [67, 79, 78, 78, 69, 67, 84, 73, 79, 78, 58, 32, 99, 108, 111, 115, 101]
def rowsW (first : List UInt8) (fs : List (List UInt8 × List UInt8)) (n : Nat) (close : Bool) : List (List UInt8) := first :: fs.map lineF ++ [clenL n] ++ (if close then [connL] else [])
def writeL (first : List UInt8) (fs : List (List UInt8 × List UInt8)) (body : List UInt8) (close : Bool) : List UInt8 :=
  Lib.join (rowsW first fs body.length close) [13, 10] ++ [13, 10, 13, 10] ++ body
theorem itoa_len (n : Nat) (h : n ≤ 1000000) : (Lib.itoa (n : Int)).length ≤ 21 := by
  have := Lib.itoa_length_le (n : Int) (by omega) (by omega)
  omega
theorem joinTail_len (sep : List UInt8) (B : Nat) : ∀ r : List (List UInt8), (∀ x ∈ r, x.length ≤ B) → (Lib.joinTail sep r).length ≤ r.length * (sep.length + B)
  | [], _ => by simp [Lib.joinTail]
  | x :: r, h => by
    have h1 := joinTail_len sep B r (fun y hy => h y (List.mem_cons_of_mem _ hy))
    have h2 := h x (List.mem_cons_self ..)
    unfold Lib.joinTail at h1 ⊢
    rw [List.map_cons, List.flatten_cons, List.length_append, List.length_append, List.length_cons, Nat.succ_mul]
    omega
theorem join_len (sep : List UInt8) (B : Nat) (r : List (List UInt8)) (h : ∀ x ∈ r, x.length ≤ B) : (Lib.join r sep).length ≤ r.length * (sep.length + B) := by
  cases r with
  | nil => simp [Lib.join_nil]
  | cons x r =>
    rw [Lib.join_cons, List.length_append, List.length_cons, Nat.succ_mul]
    have h1 := joinTail_len sep B r (fun y hy => h y (List.mem_cons_of_mem _ hy))
    have h2 := h x (List.mem_cons_self ..)
    omega
theorem app_arr2 (a b : List UInt8) : ((⟨a.toArray⟩ : ByteArray) ++ (⟨b.toArray⟩ : ByteArray)) = ⟨(a ++ b).toArray⟩ := by
  apply ByteArray.ext
  rw [ByteArray.data_append]
  simp
theorem app_arr (a b : List UInt8) : ((⟨a.toArray⟩ : ByteArray) ++ (⟨b.toArray⟩ : ByteArray)) = ⟨(a ++ b).toArray⟩ := app_arr2 a b
theorem take_succ_map {α β : Type} (l : List (α × α)) (f : α × α → β) {k : Nat} {d : α × α} (hk : k < l.length) : (l.take (k + 1)).map f = (l.take k).map f ++ [f (l.getD k d)] := by
  rw [List.take_add_one, List.getElem?_eq_getElem hk, List.getD_eq_getElem?_getD, List.getElem?_eq_getElem hk, List.map_append]
  rfl
theorem str_news2 (w : World) (o : Obj) (T : TypeId) (x : ByteArray) (j : Nat) (u : Value) (hj : ([Value.string x] : List Value)[j]? = some u) : ((w.alloc o).alloc (.cells #[.string x] T)).cell? ((⟨w.heap.size + 1, 0, none⟩ : Addr).add j) = some u := by
  have h := str_news (w.alloc o) T x j u hj
  rw [World.size_alloc] at h
  exact h
def P10 (w : World) : Prop := Lib.TabIs Tryz.prog w "internal/strconv.uint64pow10" .u64 Lib.pow10Tab
theorem P10.grown {w w' : World} (h : P10 w) (g : w.grownBy w' none) : P10 w' := by
  unfold P10 Lib.TabIs World.var? at *
  cases hg : Tryz.prog.globalNamed "internal/strconv.uint64pow10" with
  | none => simp [hg] at h
  | some i =>
    simp only [hg, Option.bind_some] at h ⊢
    have hlt : i < w.heap.size := by
      rcases Nat.lt_or_ge i w.heap.size with h' | h'
      · exact h'
      · simp [Array.getElem?_eq_none h'] at h
    rw [g.block i hlt (by simp)]
    exact h
theorem gr_grow (w : World) (k : Nat) (os : Array Obj) : w.grownBy (Go.Sort.grow (w.drewN k) os) none := by
  refine ⟨rfl, rfl, rfl, ?_, fun i hi _ => ?_⟩
  · simp [Go.Sort.grow, World.drewN]
  · simp [Go.Sort.grow, World.drewN, Array.getElem?_append_left hi]
theorem itoa_http (n : Nat) (w : World) (hn : n ≤ 1000000) (h : P10 w) : Calls Tryz.prog 20 #[.int .i64 (n : Int)] w fun e w' => e = .returned (.string ⟨(Lib.itoa (n : Int)).toArray⟩) ∧ w.grownBy w' none := by
  refine (Tryz.strconv_Itoa (n : Int) (by omega) (by omega) w h).mono ?_
  rintro e w' ⟨rfl, k, os, rfl⟩
  exact ⟨rfl, gr_grow w k os⟩
theorem rows_len {first c : List UInt8} {fs : List (List UInt8 × List UInt8)} (h1 : first.length ≤ 4096) (h3 : ∀ f ∈ fs, f.1.length ≤ 1000 ∧ f.2.length ≤ 1000) (hc : c.length ≤ 4096) : ∀ x ∈ first :: fs.map lineF ++ [c] ++ [connL], x.length ≤ 4096 := by
  intro x hx
  simp only [List.cons_append, List.mem_cons, List.mem_append, List.mem_map, List.not_mem_nil, or_false] at hx
  rcases hx with rfl | (⟨f, hf, rfl⟩ | rfl) | rfl
  · exact h1
  · have := h3 f hf
    unfold lineF
    simp
    omega
  · exact hc
  · decide
theorem join_rows (rows : List (List UInt8)) (n : Nat) (a : Option Addr) (tc base : Nat) (W : World) (hn : rows.length = n) (h : W.ownsRow base 9 1 (.slice a n tc) n (rows.map str)) (hB : ∀ x ∈ rows, x.length ≤ 4096) (h0 : 0 < n) (h2 : n ≤ 210) :
    Calls Tryz.prog 31 #[.slice a n tc, .string ⟨#[13, 10]⟩] W fun e w' => e = .returned (.string ⟨(Lib.join rows [13, 10]).toArray⟩) ∧ W.grownBy w' none := by
  subst hn
  obtain ⟨g, cap, e, hb, hc, hcell⟩ := own_cell h h0
  cases e
  have hl : (rows.map (fun r => (⟨r.toArray⟩ : ByteArray))).length = rows.length := List.length_map ..
  have hm : (rows.map (fun r => (⟨r.toArray⟩ : ByteArray))).map (·.data.toList) = rows := by
    rw [List.map_map]; exact List.map_id'' (fun r => rfl) rows
  have hlt : g < W.heap.size := by
    have := hcell 0 (str (rows.getD 0 [])) (by rw [List.getElem?_map, List.getElem?_eq_getElem h0, List.getD_eq_getElem?_getD, List.getElem?_eq_getElem h0]; rfl)
    exact World.block_lt_of_cell? _ _ this
  have hj := Tryz.strings_Join g 0 tc (rows.map (fun r => (⟨r.toArray⟩ : ByteArray))) ⟨#[13, 10]⟩ W (fun j x hx => by
    rw [Nat.zero_add]
    rw [List.getElem?_map] at hx
    obtain ⟨r, hr, rfl⟩ := Option.map_eq_some_iff.1 hx
    exact hcell j (str r) (by rw [List.getElem?_map, hr]; rfl)) hlt (by rw [hl]; omega) (by rw [hl]; exact hc) (by
    rw [hm]
    have := join_len [13, 10] 4096 rows hB
    have e2 : rows.length * (([13, 10] : List UInt8).length + 4096) ≤ 210 * (2 + 4096) := Nat.mul_le_mul h2 (Nat.le_refl _)
    show (Lib.join rows [13, 10]).length ≤ _
    omega)
  rw [hl, hm] at hj
  refine hj.mono ?_
  rintro e w' ⟨rfl, hbl⟩
  exact ⟨rfl, gr_of_below hbl⟩
def WrR (w : World) (first : List UInt8) (fs : List (List UInt8 × List UInt8)) (v9 v16 : Value) (wr : World) : Prop :=
  ∃ k : Nat, k ≤ fs.length ∧ v16 = .int .i64 (k : Int) ∧ wr.ownsRow w.heap.size 9 1 v9 (k + 1) ((first :: (fs.take k).map lineF).map str) ∧ w.grownBy wr none
theorem wr_start {w w1 : World} {first : List UInt8} {fs : List (List UInt8 × List UInt8)} (h : w1.heap[w.heap.size]? = some (.cells #[.string ⟨first.toArray⟩] 9 (0, 0))) (g : w.grownBy w1 none) : WrR w first fs (.slice (some ⟨w.heap.size, 0, none⟩) 1 1) (.int .i64 0) w1 :=
  ⟨0, Nat.zero_le _, rfl, ⟨rfl, .inr ⟨_, 1, _, rfl, Nat.le_refl _, h, Nat.le_refl _, by unfold maxLen; omega, rfl, rfl⟩⟩, g⟩
set_option maxRecDepth 20000 in
set_option maxHeartbeats 4000000 in
theorem write_http (first : List UInt8) (fs : List (List UInt8 × List UInt8)) (body : List UInt8) (close : Bool) (fa : Option Addr) (fc : Nat) (vb : Value) (w : World) (hp : PairsAt w fa fs.length (fsN fs) (fsV fs)) (hb : Bytes w vb body)
    (h1 : first.length ≤ 4000) (h2 : fs.length ≤ 200) (h3 : ∀ f ∈ fs, f.1.length ≤ 1000 ∧ f.2.length ≤ 1000) (h4 : body.length ≤ 100000) (htab : P10 w) :
    Calls Tryz.prog 19 #[.string ⟨first.toArray⟩, .slice fa fs.length fc, vb, .bool close] w fun e w' => ∃ v, e = .returned v ∧ BoAt w' v (writeL first fs body close) ∧ w.grownBy w' none := by
  obtain ⟨ba, bc, rfl, hb1, hb2, -⟩ := id hb
  obtain ⟨i0, hi, hz0, hz1, hz2⟩ := info_parts infoStr'
  have HP := hid hp
  have HB := hid hb
  have H3 := hid h3
  have HT := hid htab
  clear hp hb h3 htab
  have hN := heap_alloc_new w (.cells #[.string ⟨first.toArray⟩] 9)
  have g1 := World.grownBy_alloc w (.cells #[.string ⟨first.toArray⟩] 9) none
  go_enter Tryz.func19, Tryz.ntmps19
  go_wp2_with fail
  revert hN g1
  generalize w.alloc _ = w1
  intro hN g1
  have HS := hid (wr_start (first := first) (fs := fs) hN g1)
  clear hN g1
  go_loopw [9, 16] (fun v9 v16 wr => WrR w first fs v9 v16 wr) (fun _ v16 _ => fs.length - (intOf v16).toNat)
  case atStart => exact HS.out
  case round =>
    clear HS
    obtain ⟨k, hk, rfl, hrow, hg⟩ := hrel
    obtain ⟨ta, tc, rfl, ht1⟩ := own_shape hrow
    have HROW := hid hrow
    have HG := hid hg
    clear hrow hg
    by_cases hkn : k < fs.length
    · obtain ⟨b, o, rfl, hpc⟩ : ∃ b o, fa = some ⟨b, o, none⟩ ∧ ∀ i, i < fs.length → PairAt w b (o + i * 2) (fsN fs i) (fsV fs i) := by
        rcases HP.out with h | h
        · omega
        · exact h
      obtain ⟨c0, c1⟩ := (hpc k hkn).grown HG.out
      have hf3 := H3.out (fs.getD k ([], [])) (by rw [List.getD_eq_getElem?_getD, List.getElem?_eq_getElem hkn]; exact List.getElem_mem hkn)
      have hn1 : (fsN fs k).size ≤ 1000 := by unfold fsN; rw [Lib.size_eq]; simpa using hf3.1
      have hn2 : (fsV fs k).size ≤ 1000 := by unfold fsV; rw [Lib.size_eq]; simpa using hf3.2
      have HEQ := hid (show (fsN fs k ++ (⟨#[58, 32]⟩ : ByteArray) ++ fsV fs k) = ⟨(lineF (fs.getD k ([], []))).toArray⟩ by unfold fsN fsV lineF; rw [app_arr, app_arr])
      have HTK := hid (show (first :: (fs.take (k + 1)).map lineF).map str = (first :: (fs.take k).map lineF).map str ++ [.string (fsN fs k ++ (⟨#[58, 32]⟩ : ByteArray) ++ fsV fs k)] by
        rw [HEQ.out, take_succ_map (d := ([], [])) fs lineF hkn, ← List.cons_append, List.map_append]; rfl)
      have HSZ := hid (show (fsN fs k ++ (⟨#[58, 32]⟩ : ByteArray) ++ fsV fs k).size ≤ 200002 by
        rw [ByteArray.size_append, ByteArray.size_append]; show (fsN fs k).size + 2 + (fsV fs k).size ≤ _; omega)
      have HAP := hid (fun o o' : Obj => (HROW.out.alloc o).alloc o')
      clear hpc hf3 HROW
      go_wp2_with (at_builtin; refine wpList_append_own _ rfl _ _ 59 rfl w.heap.size 9 i0 _ 1 16 Tryz.underlying59 hi hz0 hz1 hz2 rfl (by decide) _ _ _ rfl (HAP.out _ _) ⟨wr.heap.size + 1, 0, none⟩ 1 1 [.string (fsN fs k ++ (⟨#[58, 32]⟩ : ByteArray) ++ fsV fs k)] rfl rfl (str_news2 _ _ _ _) (str_one _) ?c3 ?c4 ?c5 ?_)
      case c3 => unfold maxLen; omega
      case c4 => omega
      case c5 =>
        have h1 := HG.out.size
        simp only [World.size_alloc]; omega
      · intro v' w3 hown3 hgrow _
        have hg3 := gr_own (gr_alloc (gr_alloc HG.out _) _) (HAP.out _ _) (Nat.le_refl _) hgrow
        have HW3 := hid (show WrR w first fs v' (.int .i64 ((k : Int) + 1)) w3 from ⟨k + 1, by omega, by simp, by rw [HTK.out]; simpa using hown3, hg3⟩)
        obtain ⟨ta', tc', rfl, -⟩ := own_shape hown3
        clear hgrow hg3 hown3 HAP HTK HEQ
        go_wp2_with fail
        go_roundw
        case rel => exact HW3.out
        case measure => simp [intOf]; omega
    · obtain rfl : k = fs.length := by omega
      have HR0 := hid (show wr.ownsRow w.heap.size 9 1 (.slice ta (fs.length + 1) tc) (fs.length + 1) ((first :: fs.map lineF).map str) by have h := HROW.out; rw [List.take_length] at h; exact h)
      clear HROW
      go_wp2_with fail
      refine (itoa_http body.length wr (by omega) (HT.out.grown HG.out)).mono ?_
      rintro e w2 ⟨rfl, g2⟩
      have hil := itoa_len body.length (by omega)
      obtain ⟨it, hit⟩ : ∃ it, it = Lib.itoa (body.length : Int) := ⟨_, rfl⟩
      rw [← hit] at hil ⊢
      have HIT := hid hit
      have hsz : (⟨it.toArray⟩ : ByteArray).size ≤ 21 := by rw [Lib.size_eq]; simpa using hil
      have HAP := hid (fun o : Obj => (row_none HR0.out g2).alloc o)
      have HG2 := hid (gr_trans HG.out g2)
      have HEQ := hid (show ((⟨#[67, 79, 78, 84, 69, 78, 84, 45, 76, 69, 78, 71, 84, 72, 58, 32]⟩ : ByteArray) ++ (⟨it.toArray⟩ : ByteArray)) = ⟨(clenL body.length).toArray⟩ by unfold clenL; rw [← HIT.out]; exact app_arr2 _ _)
      have hng : ¬ 9223372036854775807 < 16 + it.length := by omega
      have HIL := hid hil
      clear hit g2 HR0 hil
      go_wp2_with (at_builtin; refine wpList_append_own _ rfl _ _ 59 rfl w.heap.size 9 i0 _ 1 16 Tryz.underlying59 hi hz0 hz1 hz2 rfl (by decide) _ _ _ rfl (HAP.out _) ⟨w2.heap.size, 0, none⟩ 1 1 [.string ((⟨#[67, 79, 78, 84, 69, 78, 84, 45, 76, 69, 78, 71, 84, 72, 58, 32]⟩ : ByteArray) ++ (⟨it.toArray⟩ : ByteArray))] rfl rfl (str_news _ _ _) (str_one _) ?c3 ?c4 ?c5 ?_)
      case c3 => unfold maxLen; omega
      case c4 => omega
      case c5 =>
        have h1 := HG2.out.size
        simp only [World.size_alloc]; omega
      · intro v' w3 hown3 hgrow _
        have HG3 := hid (gr_own (gr_alloc HG2.out _) (HAP.out _) (Nat.le_refl _) hgrow)
        obtain ⟨ta', tc', rfl, htc⟩ := own_shape hown3
        have HR3 := hid (show w3.ownsRow w.heap.size 9 1 (.slice ta' (fs.length + 1 + 1) tc') (fs.length + 1 + 1) ((first :: fs.map lineF ++ [clenL body.length]).map str) by rw [HEQ.out] at hown3; rw [List.map_append]; simpa [str] using hown3)
        clear hgrow hown3 HAP HEQ HG2 HG
        have HB4 := hid (show ∀ x ∈ first :: fs.map lineF ++ [clenL body.length] ++ [connL], x.length ≤ 4096 from rows_len (by omega) H3.out (by have := HIL.out; unfold clenL; rw [← HIT.out]; simp; omega))
        cases close
        · have HR5 := hid (show w3.ownsRow w.heap.size 9 1 (.slice ta' (fs.length + 1 + 1) tc') (fs.length + 1 + 1) ((rowsW first fs body.length false).map str) by unfold rowsW; simpa [str] using HR3.out)
          have HN5 := hid (show (rowsW first fs body.length false).length = fs.length + 1 + 1 by unfold rowsW; simp)
          have HL5 := hid (show ∀ x ∈ rowsW first fs body.length false, x.length ≤ 4096 from fun x hx => HB4.out x (by unfold rowsW at hx; simp at hx ⊢; grind))
          clear HR3 hng hsz
          go_wp2_with fail
          refine (join_rows _ _ _ _ _ w3 HN5.out HR5.out HL5.out (by omega) (by omega)).mono ?_
          rintro e w5 ⟨rfl, g5⟩
          have hjl := join_len [13, 10] 4096 (rowsW first fs body.length false) HL5.out
          rw [HN5.out] at hjl
          have hjl2 : (Lib.join (rowsW first fs body.length false) [13, 10]).length ≤ 832000 := Nat.le_trans hjl (Nat.le_trans (Nat.mul_le_mul (show _ ≤ 203 by omega) (Nat.le_refl _)) (by decide))
          have HWL := hid (show writeL first fs body false = Lib.join (rowsW first fs body.length false) [13, 10] ++ [13, 10, 13, 10] ++ body from rfl)
          obtain ⟨J, hJ⟩ : ∃ J, J = Lib.join (rowsW first fs body.length false) [13, 10] := ⟨_, rfl⟩
          rw [← hJ] at hjl2 HWL ⊢
          have HEJ := hid (app_arr2 J [13, 10, 13, 10])
          have hng : ¬ 9223372036854775807 < J.length + 4 := by omega
          have HJL := hid hjl2
          have HG5 := hid (gr_trans HG3.out g5)
          clear hJ hjl g5 HR5 HN5 HL5
          go_wp2_with (refine wpl_s2b rfl 9 22 5 _ rfl Tryz.underlying9 Tryz.underlying22 Tryz.underlying5 ((⟨J.toArray⟩ : ByteArray) ++ ⟨#[13, 10, 13, 10]⟩) rfl (by rw [ByteArray.size_append, Lib.size_eq]; show J.toArray.toList.length + 4 ≤ maxLen; unfold maxLen; simp; omega) ?_; intro g cap w6 hg hrow g6)
          have hby := hrow.bytes
          rw [show ((⟨J.toArray⟩ : ByteArray) ++ (⟨#[13, 10, 13, 10]⟩ : ByteArray)) = ⟨(J ++ [13, 10, 13, 10]).toArray⟩ from HEJ.out] at hby
          have HBY := hid (show Bytes w6 (.slice (some ⟨g, 0, none⟩) (J.length + 4) cap) (J ++ [13, 10, 13, 10]) by simpa using hby)
          have HG6 := hid (gr_trans HG5.out g6)
          have hN6 := heap_alloc_new w6 (.cells #[.slice (some ⟨g, 0, none⟩) (J.length + 4) cap, .slice ba body.length bc] 22)
          have ga := World.grownBy_alloc w6 (.cells #[.slice (some ⟨g, 0, none⟩) (J.length + 4) cap, .slice ba body.length bc] 22) none
          have HJT := hid (join_two _ w6.heap.size 0 2 _ _ (J ++ [13, 10, 13, 10]) body (Nat.le_refl _) ((cell_of_block hN6 0).trans rfl) ((cell_of_block hN6 1).trans rfl) (HBY.out.grown ga) ((HB.out.grown HG6.out).grown ga) (by have := HJL.out; simp; omega))
          have HG7 := hid (gr_trans HG6.out ga)
          clear hby hrow g6 hg HEJ hN6 ga
          go_wp2_with fail
          refine HJT.out.mono ?_
          rintro e w8 ⟨v8, rfl, hbo, g8⟩
          rw [← HWL.out] at hbo
          have HBO := hid hbo
          have HG8 := hid (gr_trans HG7.out g8)
          clear hbo g8
          go_wp2_with fail
          go_ret
          exact ⟨_, rfl, HBO.out, HG8.out⟩
        · have HAP := hid (fun o : Obj => HR3.out.alloc o)
          clear HR3 hng hsz
          go_wp2_with (at_builtin; refine wpList_append_own _ rfl _ _ 59 rfl w.heap.size 9 i0 _ 1 16 Tryz.underlying59 hi hz0 hz1 hz2 rfl (by decide) _ _ _ rfl (HAP.out _) ⟨w3.heap.size, 0, none⟩ 1 1 [.string ⟨#[67, 79, 78, 78, 69, 67, 84, 73, 79, 78, 58, 32, 99, 108, 111, 115, 101]⟩] rfl rfl (str_news _ _ _) (str_one _) ?c3 ?c4 ?c5 ?_)
          case c3 => unfold maxLen; omega
          case c4 => omega
          case c5 =>
            have h1 := HG3.out.size
            simp only [World.size_alloc]; omega
          · intro v' w4 hown4 hgrow _
            have HG4 := hid (gr_own (gr_alloc HG3.out _) (HAP.out _) (Nat.le_refl _) hgrow)
            obtain ⟨ta4, tc4, rfl, htc4⟩ := own_shape hown4
            have HR5 := hid (show w4.ownsRow w.heap.size 9 1 (.slice ta4 (fs.length + 1 + 1 + 1) tc4) (fs.length + 1 + 1 + 1) ((rowsW first fs body.length true).map str) by unfold rowsW connL; simpa [str] using hown4)
            have HN5 := hid (show (rowsW first fs body.length true).length = fs.length + 1 + 1 + 1 by unfold rowsW; simp)
            have HL5 := hid (show ∀ x ∈ rowsW first fs body.length true, x.length ≤ 4096 from HB4.out)
            clear hgrow hown4 HAP HG3
            go_wp2_with fail
            refine (join_rows _ _ _ _ _ w4 HN5.out HR5.out HL5.out (by omega) (by omega)).mono ?_
            rintro e w5 ⟨rfl, g5⟩
            have hjl := join_len [13, 10] 4096 (rowsW first fs body.length true) HL5.out
            rw [HN5.out] at hjl
            have hjl2 : (Lib.join (rowsW first fs body.length true) [13, 10]).length ≤ 832000 := Nat.le_trans hjl (Nat.le_trans (Nat.mul_le_mul (show _ ≤ 203 by omega) (Nat.le_refl _)) (by decide))
            have HWL := hid (show writeL first fs body true = Lib.join (rowsW first fs body.length true) [13, 10] ++ [13, 10, 13, 10] ++ body from rfl)
            obtain ⟨J, hJ⟩ : ∃ J, J = Lib.join (rowsW first fs body.length true) [13, 10] := ⟨_, rfl⟩
            rw [← hJ] at hjl2 HWL ⊢
            have HEJ := hid (app_arr2 J [13, 10, 13, 10])
            have hng : ¬ 9223372036854775807 < J.length + 4 := by omega
            have HJL := hid hjl2
            have HG5 := hid (gr_trans HG4.out g5)
            clear hJ hjl g5 HR5 HN5 HL5
            go_wp2_with (refine wpl_s2b rfl 9 22 5 _ rfl Tryz.underlying9 Tryz.underlying22 Tryz.underlying5 ((⟨J.toArray⟩ : ByteArray) ++ ⟨#[13, 10, 13, 10]⟩) rfl (by rw [ByteArray.size_append, Lib.size_eq]; show J.toArray.toList.length + 4 ≤ maxLen; unfold maxLen; simp; omega) ?_; intro g cap w6 hg hrow g6)
            have hby := hrow.bytes
            rw [show ((⟨J.toArray⟩ : ByteArray) ++ (⟨#[13, 10, 13, 10]⟩ : ByteArray)) = ⟨(J ++ [13, 10, 13, 10]).toArray⟩ from HEJ.out] at hby
            have HBY := hid (show Bytes w6 (.slice (some ⟨g, 0, none⟩) (J.length + 4) cap) (J ++ [13, 10, 13, 10]) by simpa using hby)
            have HG6 := hid (gr_trans HG5.out g6)
            have hN6 := heap_alloc_new w6 (.cells #[.slice (some ⟨g, 0, none⟩) (J.length + 4) cap, .slice ba body.length bc] 22)
            have ga := World.grownBy_alloc w6 (.cells #[.slice (some ⟨g, 0, none⟩) (J.length + 4) cap, .slice ba body.length bc] 22) none
            have HJT := hid (join_two _ w6.heap.size 0 2 _ _ (J ++ [13, 10, 13, 10]) body (Nat.le_refl _) ((cell_of_block hN6 0).trans rfl) ((cell_of_block hN6 1).trans rfl) (HBY.out.grown ga) ((HB.out.grown HG6.out).grown ga) (by have := HJL.out; simp; omega))
            have HG7 := hid (gr_trans HG6.out ga)
            clear hby hrow g6 hg HEJ hN6 ga
            go_wp2_with fail
            refine HJT.out.mono ?_
            rintro e w8 ⟨v8, rfl, hbo, g8⟩
            rw [← HWL.out] at hbo
            have HBO := hid hbo
            have HG8 := hid (gr_trans HG7.out g8)
            clear hbo g8
            go_wp2_with fail
            go_ret
            exact ⟨_, rfl, HBO.out, HG8.out⟩
end Go.Proofs.YtldbcdiomkkinaaGreatDoor
