/- inet.Text, hearthref04.Text (for a seat that has the texts Head..). -/
import Derived.Test.YtnapfecalckajaaDoorHead10
import Derived.Test.YtnapfecalckajaaDoorApM
import Derived.Test.YtnapfecalckajaaDoorShelf
import Derived.Lib.Join
import Derived.Lib.ItoaMem
import Derived.Lib.ItoaLen
import Derived.BigQuiet
import Derived.Deep.QuietTactic
import Derived.Deep.RegionWith
import Derived.Laws.BitsAllLaws
namespace Go.Proofs.YtnapfecalckajaaDoor
open Go.RowKit

/-- The last k bytes of a number, the great one ahead. -/
def beL : Nat → Nat → List UInt8
  | 0, _ => []
  | k + 1, n => beL k (n / 256) ++ [UInt8.ofNat (n % 256)]
theorem beL_len : ∀ k n, (beL k n).length = k
  | 0, _ => rfl
  | k + 1, n => by simp [beL, beL_len k]
theorem beL_cons : ∀ k n, beL (k + 1) n = UInt8.ofNat (n / 256 ^ k % 256) :: beL k n
  | 0, n => by simp [beL]
  | k + 1, n => by
    have h1 : beL (k + 1 + 1) n = beL (k + 1) (n / 256) ++ [UInt8.ofNat (n % 256)] := rfl
    have h2 : beL (k + 1) n = beL k (n / 256) ++ [UInt8.ofNat (n % 256)] := rfl
    have h3 : n / 256 / 256 ^ k = n / 256 ^ (k + 1) := by rw [Nat.div_div_eq_div_mul, Nat.pow_succ, Nat.mul_comm]
    rw [h1, beL_cons k (n / 256), List.cons_append, ← h2, h3]
theorem width_any (k : Nat) (hk : k ≤ 8) (w : World) : Calls Tryd.prog 74 #[.int .i64 k] w fun e w' => e = .returned (.int .i64 k) ∧ w = w' := by
  have hmin : min (k : Int) 8 = k := by omega
  have HM := hid hmin
  clear hmin
  go_enter Tryd.func74, Tryd.ntmps74
  go_wp2
  go_ret
  exact ⟨by first | rfl | exact congrArg (fun x => Ending.returned (.int .i64 x)) HM.out, rfl⟩
/-- How the bytes come: the last one first. -/
theorem beL_step (k i n : Nat) (h : i < k) : (List.replicate (k - i) (0 : UInt8) ++ beL i n).set (k - 1 - i) (UInt8.ofNat (n / 256 ^ i % 256)) = List.replicate (k - (i + 1)) 0 ++ beL (i + 1) n := by
  obtain ⟨d, rfl⟩ : ∃ d, k = i + 1 + d := ⟨k - (i + 1), by omega⟩
  have e1 : i + 1 + d - i = d + 1 := by omega
  have e2 : i + 1 + d - 1 - i = d := by omega
  have e3 : i + 1 + d - (i + 1) = d := by omega
  rw [e1, e2, e3, beL_cons]
  rw [List.set_append_left _ _ (by simp)]
  have : (List.replicate (d + 1) (0 : UInt8)).set d (UInt8.ofNat (n / 256 ^ i % 256)) = List.replicate d 0 ++ [UInt8.ofNat (n / 256 ^ i % 256)] := by
    rw [List.replicate_succ', List.set_append_right _ _ (by simp)]
    simp
  rw [this]; simp
def NumPost (w : World) (l : List UInt8) (e : Ending) (w' : World) : Prop := ∃ v, e = .returned v ∧ w'.ownsRow w.heap.size 5 1 v l.length (l.map bv) ∧ Bytes w' v l ∧ w.grownBy w' none
set_option maxHeartbeats 2000000 in
theorem onum_any (k : Nat) (hk1 : 1 ≤ k) (hk : k ≤ 8) (n : Nat) (hn : n < 18446744073709551616) (w : World) :
    Calls Tryd.prog 54 #[.int .i64 k, .int .u64 n] w (NumPost w (beL k n)) := by
  obtain ⟨i0, hi, hz0, hz1, hz2⟩ := info_parts infoU8
  go_enter Tryd.func54, Tryd.ntmps54
  go_wp2_with fail
  refine (width_any k hk w).mono ?_
  rintro e w1 ⟨rfl, rfl⟩
  go_wp2_with (refine wpList_make_full _ rfl _ _ 29 rfl w.heap.size 5 i0 _ 1 Tryd.underlying29 hi hz0 hz1 .i64 .i64 (k : Int) (k : Int) k rfl rfl rfl rfl (by rw [hz2]; omega) (by unfold maxLen; omega) (Nat.le_refl _) ?_; intro w2 hown g2)
  have hrow : (madeCells (Value.int .u8 0).cells (k * 1)).toList = (List.replicate (k - 0) (0 : UInt8) ++ beL 0 n).map bv := by
    rw [show (Value.int .u8 0).cells = #[.int .u8 0] from rfl, toList_madeCells_one]
    simp [beL, bv]
  rw [hrow] at hown
  clear hrow hi hz0 hz1 hz2 i0
  go_wp2_with fail
  go_loopw [1, 12] (fun vn vi wr => ∃ i : Nat, i ≤ k ∧ vi = .int .i64 i ∧ vn = .int .u64 ((n / 256 ^ i : Nat) : Int) ∧ wr.ownsRow w.heap.size 5 1 (.slice (some ⟨w.heap.size, 0, none⟩) k k) k ((List.replicate (k - i) (0 : UInt8) ++ beL i n).map bv) ∧ w.grownBy wr none) (fun _ vi _ => k - (intOf vi).toNat)
  case atStart => exact ⟨0, Nat.zero_le _, rfl, by simp, hown, g2⟩
  case round =>
    obtain ⟨i, hi, rfl, rfl, hown, gw⟩ := hrel
    by_cases hlt : i < k
    · have hst := beL_step k i n hlt
      have hlen : (List.replicate (k - i) (0 : UInt8) ++ beL i n).length = k := by simp [beL_len]; omega
      have hnb : n / 256 ^ i < 18446744073709551616 := Nat.lt_of_le_of_lt (Nat.div_le_self _ _) hn
      have hdd : n / 256 ^ i / 256 = n / 256 ^ (i + 1) := by rw [Nat.div_div_eq_div_mul, Nat.pow_succ]
      obtain ⟨u, hu⟩ : ∃ u, wr.cell? ⟨w.heap.size, k - 1 - i, none⟩ = some u := by
        rw [hown.cellAt (k - 1 - i) (by omega)]
        exact ⟨_, List.getElem?_eq_getElem (by simp only [List.length_map, hlen]; omega)⟩
      have hfr := hown.frozenAt (k - 1 - i)
      have hbyte : (((n / 256 ^ i : Nat) : Int)) % 256 = ((UInt8.ofNat (n / 256 ^ i % 256)).toNat : Int) := by simp
      have hst2 := hown.stored (k - 1 - i) (bv (UInt8.ofNat (n / 256 ^ i % 256)))
      rw [← List.map_set, hst] at hst2
      generalize UInt8.ofNat (n / 256 ^ i % 256) = x at hbyte hst2
      generalize n / 256 ^ i = m at *
      have hdd' : (m / 256 : Nat) = n / 256 ^ (i + 1) := hdd
      have Hdd := hid hdd'
      clear hdd hdd'
      have Hst := hid hst2
      have Hb := hid hbyte
      clear hst hlen hst2 hbyte hown
      go_wp2
      go_roundw
      case rel => exact ⟨i + 1, by omega, by go_num, by rw [← Hdd.out]; first | done | rfl | go_num, by rw [Hb.out]; exact Hst.out.1, by rw [Hb.out]; exact gr_new gw Hst.out.2 (Nat.le_refl _)⟩
      case measure => simp [intOf]; omega
    · obtain rfl : i = k := by omega
      go_wp2
      go_ret
      rw [Nat.sub_self, List.replicate_zero, List.nil_append] at hown
      exact ⟨_, rfl, by rw [beL_len]; exact hown, bytes_of_own hown, gw⟩
theorem dd_small {m : Nat} (h : m < 10) : Lib.decDigits m = [UInt8.ofNat (48 + m)] := by rw [Lib.decDigits, dif_pos h]
theorem dd_big {m : Nat} (h : ¬ m < 10) : Lib.decDigits m = Lib.decDigits (m / 10) ++ [UInt8.ofNat (48 + m % 10)] := by rw [Lib.decDigits, dif_neg h]
theorem bytes_one (w : World) (t : TypeId) (c : UInt8) : Bytes (w.alloc (.cells #[.int .u8 (c.toNat : Int)] t)) (.slice (some ⟨w.heap.size, 0, none⟩) 1 1) [c] :=
  ⟨_, 1, rfl, by simp, by simp [maxLen], fun _ => ⟨_, 0, rfl, fun i hi => by
    obtain rfl : i = 0 := by simpa using hi
    exact (cell_of_block (heap_alloc_new w _) 0).trans rfl⟩⟩
def P10 (w : World) : Prop := Lib.TabIs Tryd.prog w "internal/strconv.uint64pow10" .u64 Lib.pow10Tab
theorem P10.grown {w w' : World} (h : P10 w) (g : w.grownBy w' none) : P10 w' := by
  unfold P10 Lib.TabIs World.var? at *
  cases hg : Tryd.prog.globalNamed "internal/strconv.uint64pow10" with
  | none => simp [hg] at h
  | some i =>
    simp only [hg, Option.bind_some] at h ⊢
    have hlt : i < w.heap.size := by
      rcases Nat.lt_or_ge i w.heap.size with h' | h'
      · exact h'
      · simp [Array.getElem?_eq_none h'] at h
    rw [g.block i hlt (by simp)]
    exact h
def digL (b : UInt8) : List UInt8 := Lib.decDigits b.toNat
def textL (a : Nat) : List UInt8 := Lib.join ((beL 4 a).map digL) [46]
/-- The digits of a byte, written out. -/
def digX (n : Nat) : List UInt8 := if n < 10 then [UInt8.ofNat (48 + n)] else if n < 100 then [UInt8.ofNat (48 + n / 10), UInt8.ofNat (48 + n % 10)] else [UInt8.ofNat (48 + n / 100), UInt8.ofNat (48 + n / 10 % 10), UInt8.ofNat (48 + n % 10)]
theorem digL_X (b : UInt8) : digL b = digX b.toNat := by
  have hb := UInt8.toNat_lt b
  unfold digL digX
  generalize b.toNat = n at hb
  by_cases h1 : n < 10
  · rw [dd_small h1, if_pos h1]
  · by_cases h2 : n < 100
    · rw [dd_big h1, dd_small (by omega), if_neg h1, if_pos h2]; rfl
    · rw [dd_big h1, dd_big (by omega), dd_small (by omega), if_neg h1, if_neg h2, Nat.div_div_eq_div_mul]; rfl
theorem digX_len : ∀ b : UInt8, (digX b.toNat).length ≤ 3 ∧ 1 ≤ (digX b.toNat).length := all_bytes (by decide +kernel)
theorem digL_len (b : UInt8) : (digL b).length ≤ 3 ∧ 1 ≤ (digL b).length := by rw [digL_X]; exact digX_len b
theorem four {l : List UInt8} (h : l.length = 4) : ∃ a b c d, l = [a, b, c, d] := by
  match l, h with
  | [a, b, c, d], _ => exact ⟨a, b, c, d, rfl⟩
theorem join4 (a b c d : List UInt8) : Lib.join [a, b, c, d] [46] = a ++ 46 :: (b ++ 46 :: (c ++ 46 :: d)) := by
  simp [Lib.join, List.intercalate]
theorem join4_len (l : List UInt8) (h : l.length = 4) : (Lib.join (l.map digL) [46]).length ≤ 15 := by
  obtain ⟨a, b, c, d, rfl⟩ := four h
  rw [show [a, b, c, d].map digL = [digL a, digL b, digL c, digL d] from rfl, join4]
  have h1 := digL_len a
  have h2 := digL_len b
  have h3 := digL_len c
  have h4 := digL_len d
  simp; omega
theorem gr_grow (w : World) (k : Nat) (os : Array Obj) : w.grownBy (Go.Sort.grow (w.drewN k) os) none := by
  refine ⟨rfl, rfl, rfl, ?_, fun i hi _ => ?_⟩
  · simp [Go.Sort.grow, World.drewN]
  · simp [Go.Sort.grow, World.drewN, Array.getElem?_append_left hi]
theorem itoa_byte (b : UInt8) (w : World) (h10 : P10 w) : Calls Tryd.prog 55 #[.int .i64 (b.toNat : Int)] w fun e w' => e = .returned (.string ⟨(digL b).toArray⟩) ∧ w.grownBy w' none := by
  have hb := UInt8.toNat_lt b
  refine (Tryd.strconv_Itoa (b.toNat : Int) (by omega) (by omega) w h10).mono ?_
  rintro e w' ⟨rfl, k, os, rfl⟩
  refine ⟨?_, gr_grow w k os⟩
  have : Lib.itoa ((b.toNat : Nat) : Int) = digL b := by
    unfold Lib.itoa digL
    rw [if_neg (by omega)]; simp
  rw [this]
set_option maxRecDepth 20000 in
set_option maxHeartbeats 2000000 in
theorem text_in (a : Nat) (ha : a < 4294967296) (w : World) (h10 : P10 w) :
    Calls Tryd.prog 38 #[.int .u32 a] w fun e w' => e = .returned (str (textL a)) ∧ w.grownBy w' none := by
  obtain ⟨i0, hi, hz0, hz1, hz2⟩ := info_parts infoStr
  have hn := onum_any 4 (by omega) (by omega) a (by omega)
  obtain ⟨l, hl⟩ : ∃ l, l = beL 4 a := ⟨_, rfl⟩
  have hlen : l.length = 4 := by rw [hl]; exact beL_len 4 a
  have hT : textL a = Lib.join (l.map digL) [46] := by rw [hl]; rfl
  rw [← hl] at hn
  have HT := hid hT
  have Hn := hid hn
  have H10 := hid h10
  clear hT hn h10 hl
  go_enter Tryd.func38, Tryd.ntmps38
  go_wp2_with fail
  refine (Hn.out w).mono ?_
  rintro e w1 ⟨v, rfl, -, hb, g1⟩
  obtain ⟨ad, c, rfl, hc1, hc2, hc3⟩ := hb
  obtain ⟨bb, oo, rfl, hcell⟩ := hc3 (by intro e; rw [e] at hlen; simp at hlen)
  have Hcell := hid hcell
  rw [hlen]
  rw [hlen] at hcell
  clear hc3 hcell
  go_wp2_with fail
  go_loopw [3, 10] (fun vo vk wr => ∃ k : Nat, vk = .int .i64 k ∧ k ≤ 4 ∧ wr.ownsRow w1.heap.size 9 1 vo k (((l.take k).map digL).map fun x => Value.string ⟨x.toArray⟩) ∧ w1.grownBy wr none) (fun _ vk _ => 4 - (intOf vk).toNat)
  case atStart => exact ⟨0, rfl, by omega, World.ownsRow_nil _ _ _ _, gr_refl _ _⟩
  case round =>
    obtain ⟨k, rfl, hk, hown, gw⟩ := hrel
    have hsz := gw.size
    have hsz1 := g1.size
    by_cases hlt : k < 4
    · have hc := gw.cell (Hcell.out k (by omega)) (by simp)
      have R := hid (show ((l.take (k + 1)).map digL).map (fun x => Value.string ⟨x.toArray⟩) = ((l.take k).map digL).map (fun x => Value.string ⟨x.toArray⟩) ++ [.string ⟨(digL (l.getD k 0)).toArray⟩] by
        rw [List.take_succ_eq_append_getElem (by omega)]
        rw [show l.getD k 0 = l[k]'(by omega) by rw [List.getD_eq_getElem?_getD, List.getElem?_eq_getElem (by omega)]; rfl]
        rw [List.map_append, List.map_append]; rfl)
      generalize l.getD k 0 = b at hc R
      have hb8 : b.toNat < 256 := UInt8.toNat_lt b
      have hit := hid (fun W h => itoa_byte b W h)
      generalize digL b = x at hit R
      clear ha hlen
      go_wp2_with fail
      refine (hit.out _ (H10.out.grown (gr_trans g1 gw))).mono ?_
      rintro e w3 ⟨rfl, g3⟩
      have hown3 := hown.kept g3 (Classical.em _)
      clear hown
      go_wp2_with (at_builtin; refine wpList_append_own _ rfl _ _ 35 rfl w1.heap.size 9 i0 _ 1 16 Tryd.underlying35 hi hz0 hz1 hz2 rfl (by decide) _ _ _ rfl (hown3.alloc _) ⟨w3.heap.size, 0, none⟩ 1 1 [.string ⟨x.toArray⟩] rfl rfl ?c1 ?c2 ?c3 ?c4 ?c5 ?_)
      case c1 =>
        intro j u hj
        match j, hj with
        | 0, hj => simp at hj; subst hj; simp [Addr.add]
      case c2 => intro u hu; simp at hu; subst hu; rfl
      case c3 => unfold maxLen; omega
      case c4 => omega
      case c5 => have := g3.size; simp; omega
      · intro v' w4 hown' hgrow _
        have gw' := gr_own (gr_trans gw (gr_alloc g3 _)) (hown3.alloc _) (Nat.le_refl _) hgrow
        clear hgrow hown3
        go_wp2
        go_roundw
        case rel => exact ⟨k + 1, by go_num, by omega, by rw [R.out]; simpa using hown', gw'⟩
        case measure => simp [intOf]; omega
    · obtain rfl : k = 4 := by omega
      obtain ⟨g, cap, rfl, hgb, hcap, hcl⟩ := own_cell hown (by omega)
      have hlt : g < wr.heap.size := (hown.lt g rfl).2
      have hj := Tryd.strings_Join g 0 cap (l.map fun b => ⟨(digL b).toArray⟩) ⟨#[46]⟩ wr (fun j x hx => by
        rw [Nat.zero_add]
        refine hcl j (.string x) ?_
        rw [List.take_of_length_le (by omega), List.map_map]
        rw [List.getElem?_map] at hx ⊢
        cases hlj : l[j]? with
        | none => rw [hlj] at hx; simp at hx
        | some b => rw [hlj] at hx; simp at hx; subst hx; rfl) hlt (by simp; omega) (by simp; omega) (by
        rw [List.map_map, show ((fun x : ByteArray => x.data.toList) ∘ fun b : UInt8 => (ByteArray.mk (digL b).toArray)) = digL from rfl, show (ByteArray.mk #[46]).data.toList = [46] from rfl]
        have := join4_len l hlen
        omega)
      rw [List.map_map, show ((fun x : ByteArray => x.data.toList) ∘ fun b : UInt8 => (ByteArray.mk (digL b).toArray)) = digL from rfl, show (ByteArray.mk #[46]).data.toList = [46] from rfl, ← HT.out, List.length_map, hlen] at hj
      have Hj := hid hj
      clear hj hown hcl Hcell
      go_wp2_with fail
      refine Hj.out.mono ?_
      rintro e w5 ⟨rfl, hb5⟩
      go_wp2
      go_ret
      exact ⟨rfl, gr_trans (gr_trans g1 gw) (gr_of_below hb5)⟩
theorem conv_one {W : World} {b : Nat} {c : UInt8} (h : W.cell? ⟨b, 0, none⟩ = some (.int .u8 (c.toNat : Int))) : (convert 29 9 (.slice (some ⟨b, 0, none⟩) 1 1)).run Tryd.prog W = .ok (.string ⟨#[c]⟩) W := by
  rw [run_convert_bytes_string W 29 9 5 _ _ _ Tryd.underlying29 Tryd.underlying5 Tryd.underlying9]
  have := run_bytesToString (P := Tryd.prog) W ⟨b, 0, none⟩ 1 1 [(c.toNat : Int)] (by
    have := run_loadCells_list (P := Tryd.prog) W ⟨b, 0, none⟩ [Value.int .u8 (c.toNat : Int)] (by
      intro j v hj
      match j, hj with
      | 0, hj => simp at hj; subst hj; simpa [Addr.add] using h)
    simpa using this)
  rw [this]
  have := foldl_push_byteCells [c]
  simp at this
  simp
  rfl
theorem rdig1 (n : Nat) (hn : n < 10) (w : World) : Calls Tryd.prog 57 #[.int .i64 n] w fun e w' => e = .returned (str [UInt8.ofNat (48 + n)]) ∧ w.grownBy w' none := by
  obtain ⟨c, hc⟩ : ∃ c, c = UInt8.ofNat (48 + n) := ⟨_, rfl⟩
  have hcn : (48 : Int) + (n : Int) = (c.toNat : Int) := by rw [hc]; simp; omega
  rw [← hc]
  have hb := bytes_one w 5 c
  rw [← hcn] at hb
  have Hc := hid hcn
  clear hcn hc
  go_enter Tryd.func57, Tryd.ntmps57
  go_wp2_with (refine wpl_b2s rfl 29 9 5 _ rfl Tryd.underlying29 Tryd.underlying5 Tryd.underlying9 _ [c] rfl hb ?_; unfold str)
  go_ret
  exact ⟨rfl, by (repeat (first | exact gr_refl _ _ | assumption | refine gr_drew ?_ | refine gr_drewN _ ?_ | refine gr_alloc ?_ _ | refine gr_set ?_ | refine gr_set_new ?_ (by first | omega | (simp; omega))))⟩
set_option maxHeartbeats 2000000 in
set_option maxRecDepth 20000 in
theorem rdig_step (n : Nat) (l : List UInt8) (hn : 10 ≤ n) (hn2 : n < 1000) (hl : l.length ≤ 3) (hcall : ∀ W, Calls Tryd.prog 57 #[.int .i64 ((n : Int) / 10)] W fun e w' => e = .returned (str l) ∧ W.grownBy w' none) (w : World) :
    Calls Tryd.prog 57 #[.int .i64 n] w fun e w' => e = .returned (str (l ++ [UInt8.ofNat (48 + n % 10)])) ∧ w.grownBy w' none := by
  obtain ⟨c, hc⟩ : ∃ c, c = UInt8.ofNat (48 + n % 10) := ⟨_, rfl⟩
  have hl1 : (ByteArray.mk l.toArray).size ≤ 3 := by rw [Lib.size_eq]; exact hl
  have hl2 : (ByteArray.mk #[c]).size ≤ 1 := Nat.le_refl _
  have hcn : (48 : Int) + (n : Int) % 10 = (c.toNat : Int) := by rw [hc]; simp; omega
  rw [← hc]
  have hconv := fun (W : World) (b : Nat) (h : W.cell? ⟨b, 0, none⟩ = some (.int .u8 (48 + (n : Int) % 10))) => conv_one (W := W) (b := b) (c := c) (by rw [← hcn]; exact h)
  have Hc := hid hcn
  have HC := hid hcall
  clear hcn hc hcall
  go_enter Tryd.func57, Tryd.ntmps57
  go_wp2_with fail
  have k1 : IntKind.i64.wrap ((n : Int) / 10) = (n : Int) / 10 := IntWalk.i64_in _ (by omega)
  have k2 : (n : Int).tmod 10 = (n : Int) % 10 := Int.tmod_eq_emod_of_nonneg (by omega)
  have k3 : IntKind.i64.wrap (48 + (n : Int) % 10) = 48 + (n : Int) % 10 := IntWalk.i64_in _ (by omega)
  have k4 : IntKind.u8.wrap (48 + (n : Int) % 10) = 48 + (n : Int) % 10 := IntWalk.u8_in _ (by omega)
  go_region_with (go_at_call 57; refine (HC.out _).mono ?_; rintro e w2 ⟨rfl, g2⟩; (try have d2 : w2.cell? ⟨w.heap.size, 0, none⟩ = some (.int .u8 (48 + (n : Int) % 10)) := g2.cell ((cell_of_block (heap_alloc_new w (.cells #[.int .u8 (48 + (n : Int) % 10)] 5)) 0).trans rfl) (by simp)); unfold str)
  all_goals
    clear k1 k2 k3 k4 hconv
    go_wp2
    go_ret
    refine ⟨?_, ?_⟩
    · show Ending.returned (.string (ByteArray.mk l.toArray ++ ByteArray.mk #[c])) = _
      rw [ByteArray.mk_append_mk]; simp [str]
    · first
        | exact gr_trans (by (repeat (first | exact gr_refl _ _ | assumption | refine gr_drew ?_ | refine gr_drewN _ ?_ | refine gr_alloc ?_ _ | refine gr_set ?_ | refine gr_set_new ?_ (by first | omega | (simp; omega))))) g2
        | exact gr_alloc (gr_trans (by (repeat (first | exact gr_refl _ _ | assumption | refine gr_drew ?_ | refine gr_drewN _ ?_ | refine gr_alloc ?_ _ | refine gr_set ?_ | refine gr_set_new ?_ (by first | omega | (simp; omega))))) g2) _
        | exact gr_drew (gr_alloc (gr_trans (by (repeat (first | exact gr_refl _ _ | assumption | refine gr_drew ?_ | refine gr_drewN _ ?_ | refine gr_alloc ?_ _ | refine gr_set ?_ | refine gr_set_new ?_ (by first | omega | (simp; omega))))) g2) _)
theorem rdigits (b : UInt8) (w : World) : Calls Tryd.prog 57 #[.int .i64 (b.toNat : Int)] w fun e w' => e = .returned (str (digL b)) ∧ w.grownBy w' none := by
  rw [digL_X]
  have hb := UInt8.toNat_lt b
  generalize b.toNat = n at hb
  unfold digX
  by_cases h1 : n < 10
  · rw [if_pos h1]; exact rdig1 n h1 w
  · rw [if_neg h1]
    by_cases h2 : n < 100
    · rw [if_pos h2]
      exact rdig_step n [UInt8.ofNat (48 + n / 10)] (by omega) (by omega) (by simp) (fun W => rdig1 (n / 10) (by omega) W) w
    · rw [if_neg h2]
      exact rdig_step n [UInt8.ofNat (48 + n / 100), UInt8.ofNat (48 + n / 10 % 10)] (by omega) (by omega) (by simp) (fun W => by
        have h := rdig_step (n / 10) [UInt8.ofNat (48 + n / 10 / 10)] (by omega) (by omega) (by simp) (fun W => rdig1 (n / 10 / 10) (by omega) W) W
        rw [Nat.div_div_eq_div_mul] at h
        exact h) w
theorem i64_and255 (n : Int) : bits .and .i64 n 255 = n % 256 := by
  have h255 : (BitVec.ofInt 64 255).toNat = 2 ^ 8 - 1 := by decide
  have key : (BitVec.ofInt 64 n &&& BitVec.ofInt 64 255).toNat = (n % ((2 ^ 64 : Nat) : Int)).toNat % 2 ^ 8 := by
    rw [BitVec.toNat_and, BitVec.toNat_ofInt, h255, Nat.and_two_pow_sub_one_eq_mod]
  show IntKind.i64.wrap ((BitVec.ofInt 64 n &&& BitVec.ofInt 64 255).toNat : Nat) = n % 256
  rw [key, IntKind.wrap_i64]
  omega
theorem beL4 (a : Nat) : beL 4 a = [UInt8.ofNat (a / 16777216 % 256), UInt8.ofNat (a / 65536 % 256), UInt8.ofNat (a / 256 % 256), UInt8.ofNat (a % 256)] := by
  rw [beL_cons, beL_cons, beL_cons, beL_cons]; simp [beL]
theorem digL_size (b : UInt8) : (ByteArray.mk (digL b).toArray).size ≤ 3 := by rw [Lib.size_eq]; exact (digL_len b).1
set_option maxHeartbeats 2000000 in
theorem rtext_in (a : Nat) (ha : a < 4294967296) (w : World) :
    Calls Tryd.prog 43 #[.int .u32 a] w fun e w' => e = .returned (str (textL a)) ∧ w.grownBy w' none := by
  obtain ⟨b0, e0⟩ : ∃ b, b = UInt8.ofNat (a / 16777216 % 256) := ⟨_, rfl⟩
  obtain ⟨b1, e1⟩ : ∃ b, b = UInt8.ofNat (a / 65536 % 256) := ⟨_, rfl⟩
  obtain ⟨b2, e2⟩ : ∃ b, b = UInt8.ofNat (a / 256 % 256) := ⟨_, rfl⟩
  obtain ⟨b3, e3⟩ : ∃ b, b = UInt8.ofNat (a % 256) := ⟨_, rfl⟩
  have q0 : bits .and .i64 ((a : Int) / 16777216) 255 = (b0.toNat : Int) := by rw [i64_and255, e0]; simp <;> omega
  have q1 : bits .and .i64 ((a : Int) / 65536) 255 = (b1.toNat : Int) := by rw [i64_and255, e1]; simp <;> omega
  have q2 : bits .and .i64 ((a : Int) / 256) 255 = (b2.toNat : Int) := by rw [i64_and255, e2]; simp <;> omega
  have q3 : bits .and .i64 (a : Int) 255 = (b3.toNat : Int) := by rw [i64_and255, e3]; simp <;> omega
  have hT : textL a = digL b0 ++ 46 :: (digL b1 ++ 46 :: (digL b2 ++ 46 :: digL b3)) := by
    unfold textL; rw [beL4, ← e0, ← e1, ← e2, ← e3]; exact join4 _ _ _ _
  rw [hT]
  have s0 := digL_size b0
  have t0 := (digL_len b0).1
  have s1 := digL_size b1
  have t1 := (digL_len b1).1
  have s2 := digL_size b2
  have t2 := (digL_len b2).1
  have s3 := digL_size b3
  have t3 := (digL_len b3).1
  have D0 := hid (fun W => rdigits b0 W)
  have D1 := hid (fun W => rdigits b1 W)
  have D2 := hid (fun W => rdigits b2 W)
  have D3 := hid (fun W => rdigits b3 W)
  generalize digL b0 = l0 at *
  generalize digL b1 = l1 at *
  generalize digL b2 = l2 at *
  generalize digL b3 = l3 at *
  clear hT e0 e1 e2 e3
  have sd : (ByteArray.mk #[46]).size ≤ 1 := Nat.le_refl _
  go_enter Tryd.func43, Tryd.ntmps43
  go_wp2_with fail
  refine (D0.out _).mono ?_
  rintro e w1 ⟨rfl, g1⟩
  unfold str
  go_wp2_with fail
  refine (D1.out _).mono ?_
  rintro e w2 ⟨rfl, g2⟩
  unfold str
  go_wp2_with fail
  refine (D2.out _).mono ?_
  rintro e w3 ⟨rfl, g3⟩
  unfold str
  go_wp2_with fail
  refine (D3.out _).mono ?_
  rintro e w4 ⟨rfl, g4⟩
  unfold str
  go_wp2
  go_ret
  refine ⟨?_, gr_trans (gr_trans (gr_trans g1 g2) g3) g4⟩
  show Ending.returned (.string (ByteArray.mk l0.toArray ++ ByteArray.mk #[46] ++ ByteArray.mk l1.toArray ++ ByteArray.mk #[46] ++ ByteArray.mk l2.toArray ++ ByteArray.mk #[46] ++ ByteArray.mk l3.toArray)) = _
  simp only [ByteArray.mk_append_mk]
  simp [str]
end Go.Proofs.YtnapfecalckajaaDoor
