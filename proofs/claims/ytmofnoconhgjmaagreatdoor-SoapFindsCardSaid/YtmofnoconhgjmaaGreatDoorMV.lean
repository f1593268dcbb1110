/- Texts of one proof, put together: Val1, Val2, Val3, Val4. -/
import Derived.Test.YtmofnoconhgjmaaGreatDoorUint
import Derived.Lib.ItoaLen
/- hearthref19.Text; value.Yes, Way, Flag, Proto and the references' kin. -/
namespace Go.Proofs.YtmofnoconhgjmaaGreatDoor
open Go.RowKit

theorem dd_small {m : Nat} (h : m < 10) : Lib.decDigits m = [UInt8.ofNat (48 + m)] := by rw [Lib.decDigits, dif_pos h]
theorem dd_big {m : Nat} (h : ¬ m < 10) : Lib.decDigits m = Lib.decDigits (m / 10) ++ [UInt8.ofNat (48 + m % 10)] := by rw [Lib.decDigits, dif_neg h]
theorem bytes_one (w : World) (t : TypeId) (c : UInt8) : Bytes (w.alloc (.cells #[.int .u8 (c.toNat : Int)] t)) (.slice (some ⟨w.heap.size, 0, none⟩) 1 1) [c] :=
  ⟨_, 1, rfl, by simp, by simp [maxLen], fun _ => ⟨_, 0, rfl, fun i hi => by
    obtain rfl : i = 0 := by simpa using hi
    exact (cell_of_block (heap_alloc_new w _) 0).trans rfl⟩⟩
set_option maxRecDepth 20000 in
set_option maxHeartbeats 2000000 in
theorem rtext_any (n : Nat) (hn : n < 18446744073709551616) (w : World) :
    Calls Tryz.prog 88 #[.int .u64 n] w fun e w' => e = .returned (str (Lib.decDigits n)) ∧ w.grownBy w' none := by
  have hlen : (Lib.decDigits n).length ≤ 20 := by
    rw [Lib.decDigits_length]
    by_cases h : 1 ≤ n
    · have := Lib.numDigits_eq n h hn; split at this <;> omega
    · obtain rfl : n = 0 := by omega
      decide +kernel
  go_enter Tryz.func88, Tryz.ntmps88
  go_wp2_with fail
  go_loopw [0, 3] (fun vn vo wr => ∃ (m : Nat) (o : List UInt8), m ≤ n ∧ vn = .int .u64 m ∧ vo = .string ⟨o.toArray⟩ ∧ w.grownBy wr none ∧ Hid (Lib.decDigits n = Lib.decDigits m ++ o)) (fun vn _ _ => (intOf vn).toNat)
  case atStart => exact ⟨n, [], Nat.le_refl _, rfl, rfl, gr_refl _ _, by show _ = _; simp⟩
  case round =>
    obtain ⟨m, o, hm, rfl, rfl, gw, hd⟩ := hrel
    have hol : (ByteArray.mk o.toArray).size ≤ 20 := by
      have := congrArg List.length hd.out
      rw [List.length_append] at this
      rw [Lib.size_eq]; simp; omega
    obtain ⟨c, hc⟩ : ∃ c : UInt8, c = UInt8.ofNat (48 + m % 10) := ⟨_, rfl⟩
    have hcn : (c.toNat : Int) = 48 + (m : Int) % 10 := by rw [hc]; simp; omega
    have hcn' : (48 : Int) + (m : Int) % 10 = (c.toNat : Int) := hcn.symm
    have Hc := hid hc
    have Hcn := hid hcn'
    clear hc hcn hcn'
    have hb : Bytes (wr.alloc (.cells #[.int .u8 (48 + (m : Int) % 10)] 5)) (.slice (some ⟨wr.heap.size, 0, none⟩) 1 1) [c] := by
      rw [Hcn.out]; exact bytes_one wr _ c
    have happ : Value.string (ByteArray.mk #[c] ++ ByteArray.mk o.toArray) = .string ⟨(c :: o).toArray⟩ := by
      rw [ByteArray.mk_append_mk]; simp
    have hc1 : (ByteArray.mk #[c]).size ≤ 1 := Nat.le_refl _
    have Happ := hid happ
    clear happ
    by_cases h10 : m < 10
    · have R := hid (show Lib.decDigits n = c :: o by rw [hd.out, dd_small h10, Hc.out, Nat.mod_eq_of_lt h10]; rfl)
      have hz : (((m : Int) / 10) == 0) = true := by simp; omega
      go_wp2_with (refine wpl_b2s rfl 30 9 5 _ rfl Tryz.underlying30 Tryz.underlying5 Tryz.underlying9 _ [c] rfl hb ?_; unfold str)
      go_ret
      refine ⟨?_, by (repeat (first | exact gr_refl _ _ | assumption | refine gr_drew ?_ | refine gr_drewN _ ?_ | refine gr_alloc ?_ _ | refine gr_set ?_ | refine gr_set_new ?_ (by first | omega | (simp; omega))))⟩
      rw [R.out]
      exact congrArg Ending.returned Happ.out
    · have R := hid (show Lib.decDigits n = Lib.decDigits (m / 10) ++ (c :: o) by rw [hd.out, dd_big h10, Hc.out]; simp)
      have hz : (((m : Int) / 10) == 0) = false := by simp; omega
      go_wp2_with (refine wpl_b2s rfl 30 9 5 _ rfl Tryz.underlying30 Tryz.underlying5 Tryz.underlying9 _ [c] rfl hb ?_; unfold str)
      go_roundw
      case rel => exact ⟨m / 10, c :: o, by omega, by rfl, Happ.out, by (repeat (first | exact gr_refl _ _ | assumption | refine gr_drew ?_ | refine gr_drewN _ ?_ | refine gr_alloc ?_ _ | refine gr_set ?_ | refine gr_set_new ?_ (by first | omega | (simp; omega)))), R⟩
      case measure => simp [intOf]; omega
end Go.Proofs.YtmofnoconhgjmaaGreatDoor
/- value.Flag, Proto, Yes, Way and the references' kin. -/
namespace Go.Proofs.YtmofnoconhgjmaaGreatDoor
open Go.RowKit

def flagR (l : List UInt8) : Bool × Bool :=
  if l = [49] ∨ l = [116, 114, 117, 101] ∨ l = [121, 101, 115] then (true, true) else if l = [48] ∨ l = [102, 97, 108, 115, 101] ∨ l = [110, 111] then (false, true) else (false, false)
def protoR (l : List UInt8) : Int × Bool := if l = [84, 67, 80] then (6, true) else if l = [85, 68, 80] then (17, true) else (0, false)
def yesR (b : Bool) : List UInt8 := if b then [49] else [48]
def wayR (p : Int) : List UInt8 := if p = 6 then [84, 67, 80] else if p = 17 then [85, 68, 80] else []
set_option maxHeartbeats 1000000 in
theorem flag_any (s : ByteArray) (w : World) :
    Calls Tryz.prog 171 #[.string s] w fun e w' => e = .returned (.tuple #[.bool (flagR s.data.toList).1, .bool (flagR s.data.toList).2]) ∧ w = w' := by
  have hl := Lib.toList_data s
  generalize s.data.toList = l at *
  by_cases h0 : l = [49]
  · have e0 : (s.toList == [49]) = true := by rw [hl]; simpa using h0
    have R := hid (show flagR l = (true, true) by rw [h0]; rfl)
    clear hl h0
    go_enter Tryz.func171, Tryz.ntmps171
    go_wp2
    go_ret2
    exact ⟨by rw [R.out]; rfl, rfl⟩
  have e0 : (s.toList == [49]) = false := by rw [hl]; simpa using h0
  by_cases h1 : l = [116, 114, 117, 101]
  · have e1 : (s.toList == [116, 114, 117, 101]) = true := by rw [hl]; simpa using h1
    have R := hid (show flagR l = (true, true) by rw [h1]; rfl)
    clear hl h0 h1
    go_enter Tryz.func171, Tryz.ntmps171
    go_wp2
    go_ret2
    exact ⟨by rw [R.out]; rfl, rfl⟩
  have e1 : (s.toList == [116, 114, 117, 101]) = false := by rw [hl]; simpa using h1
  by_cases h2 : l = [121, 101, 115]
  · have e2 : (s.toList == [121, 101, 115]) = true := by rw [hl]; simpa using h2
    have R := hid (show flagR l = (true, true) by rw [h2]; rfl)
    clear hl h0 h1 h2
    go_enter Tryz.func171, Tryz.ntmps171
    go_wp2
    go_ret2
    exact ⟨by rw [R.out]; rfl, rfl⟩
  have e2 : (s.toList == [121, 101, 115]) = false := by rw [hl]; simpa using h2
  by_cases h3 : l = [48]
  · have e3 : (s.toList == [48]) = true := by rw [hl]; simpa using h3
    have R := hid (show flagR l = (false, true) by rw [h3]; rfl)
    clear hl h0 h1 h2 h3
    go_enter Tryz.func171, Tryz.ntmps171
    go_wp2
    go_ret2
    exact ⟨by rw [R.out]; rfl, rfl⟩
  have e3 : (s.toList == [48]) = false := by rw [hl]; simpa using h3
  by_cases h4 : l = [102, 97, 108, 115, 101]
  · have e4 : (s.toList == [102, 97, 108, 115, 101]) = true := by rw [hl]; simpa using h4
    have R := hid (show flagR l = (false, true) by rw [h4]; rfl)
    clear hl h0 h1 h2 h3 h4
    go_enter Tryz.func171, Tryz.ntmps171
    go_wp2
    go_ret2
    exact ⟨by rw [R.out]; rfl, rfl⟩
  have e4 : (s.toList == [102, 97, 108, 115, 101]) = false := by rw [hl]; simpa using h4
  by_cases h5 : l = [110, 111]
  · have e5 : (s.toList == [110, 111]) = true := by rw [hl]; simpa using h5
    have R := hid (show flagR l = (false, true) by rw [h5]; rfl)
    clear hl h0 h1 h2 h3 h4 h5
    go_enter Tryz.func171, Tryz.ntmps171
    go_wp2
    go_ret2
    exact ⟨by rw [R.out]; rfl, rfl⟩
  have e5 : (s.toList == [110, 111]) = false := by rw [hl]; simpa using h5
  have R := hid (show flagR l = (false, false) by simp [flagR, h0, h1, h2, h3, h4, h5])
  clear hl h0 h1 h2 h3 h4 h5
  go_enter Tryz.func171, Tryz.ntmps171
  go_wp2
  go_ret2
  exact ⟨by rw [R.out]; rfl, rfl⟩
set_option maxHeartbeats 1000000 in
theorem proto_any (s : ByteArray) (w : World) :
    Calls Tryz.prog 170 #[.string s] w fun e w' => e = .returned (.tuple #[.int .u8 (protoR s.data.toList).1, .bool (protoR s.data.toList).2]) ∧ w = w' := by
  have hl := Lib.toList_data s
  generalize s.data.toList = l at *
  by_cases h0 : l = [84, 67, 80]
  · have e0 : (s.toList == [84, 67, 80]) = true := by rw [hl]; simpa using h0
    have R := hid (show protoR l = (6, true) by rw [h0]; rfl)
    clear hl h0
    go_enter Tryz.func170, Tryz.ntmps170
    go_wp2
    go_ret2
    exact ⟨by rw [R.out]; rfl, rfl⟩
  have e0 : (s.toList == [84, 67, 80]) = false := by rw [hl]; simpa using h0
  by_cases h1 : l = [85, 68, 80]
  · have e1 : (s.toList == [85, 68, 80]) = true := by rw [hl]; simpa using h1
    have R := hid (show protoR l = (17, true) by rw [h1]; rfl)
    clear hl h0 h1
    go_enter Tryz.func170, Tryz.ntmps170
    go_wp2
    go_ret2
    exact ⟨by rw [R.out]; rfl, rfl⟩
  have e1 : (s.toList == [85, 68, 80]) = false := by rw [hl]; simpa using h1
  have R := hid (show protoR l = (0, false) by simp [protoR, h0, h1])
  clear hl h0 h1
  go_enter Tryz.func170, Tryz.ntmps170
  go_wp2
  go_ret2
  exact ⟨by rw [R.out]; rfl, rfl⟩
theorem yes_any (b : Bool) (w : World) : Calls Tryz.prog 228 #[.bool b] w fun e w' => e = .returned (str (yesR b)) ∧ w = w' := by
  cases b
  all_goals
    go_enter Tryz.func228, Tryz.ntmps228
    go_wp2
    go_ret
    exact ⟨rfl, rfl⟩
theorem ryes_any (b : Bool) (w : World) : Calls Tryz.prog 201 #[.bool b] w fun e w' => e = .returned (str (yesR b)) ∧ w = w' := by
  cases b
  all_goals
    go_enter Tryz.func201, Tryz.ntmps201
    go_wp2
    go_ret
    exact ⟨rfl, rfl⟩
theorem way_any (p : Int) (w : World) : Calls Tryz.prog 227 #[.int .u8 p] w fun e w' => e = .returned (str (wayR p)) ∧ w = w' := by
  by_cases h1 : p = 6
  · subst h1
    go_enter Tryz.func227, Tryz.ntmps227
    go_wp2
    go_ret
    exact ⟨rfl, rfl⟩
  · have e1 : (p == 6) = false := by simpa using h1
    by_cases h2 : p = 17
    · subst h2
      go_enter Tryz.func227, Tryz.ntmps227
      go_wp2
      go_ret
      exact ⟨rfl, rfl⟩
    · have e2 : (p == 17) = false := by simpa using h2
      have R := hid (show wayR p = [] by simp [wayR, h1, h2])
      clear h1 h2
      go_enter Tryz.func227, Tryz.ntmps227
      go_wp2
      go_ret
      exact ⟨by rw [R.out]; rfl, rfl⟩
theorem rway_any (p : Int) (w : World) : Calls Tryz.prog 200 #[.int .u8 p] w fun e w' => e = .returned (str (wayR p)) ∧ w = w' := by
  by_cases h1 : p = 6
  · subst h1
    go_enter Tryz.func200, Tryz.ntmps200
    go_wp2
    go_ret
    exact ⟨rfl, rfl⟩
  · have e1 : (p == 6) = false := by simpa using h1
    by_cases h2 : p = 17
    · subst h2
      go_enter Tryz.func200, Tryz.ntmps200
      go_wp2
      go_ret
      exact ⟨rfl, rfl⟩
    · have e2 : (p == 17) = false := by simpa using h2
      have R := hid (show wayR p = [] by simp [wayR, h1, h2])
      clear h1 h2
      go_enter Tryz.func200, Tryz.ntmps200
      go_wp2
      go_ret
      exact ⟨by rw [R.out]; rfl, rfl⟩
end Go.Proofs.YtmofnoconhgjmaaGreatDoor
/- value.Num; what it makes of a number's own digits. -/
namespace Go.Proofs.YtmofnoconhgjmaaGreatDoor
open Go.RowKit

def dgB (c : UInt8) : Bool := decide ((48 : Int) ≤ (c.toNat : Int)) && decide ((c.toNat : Int) ≤ 57)
/-- The number of decimal digits, from n on; none: something else is there. -/
def dgo : Int → List UInt8 → Option Int
  | n, [] => some n
  | n, c :: l => if dgB c then dgo (n * 10 + ((c.toNat : Int) - 48)) l else none
def dFin (most : Int) : Option Int → Int × Bool
  | none => (0, false)
  | some n => if most < n then (0, false) else (n, true)
def vnum (most : Int) (l : List UInt8) : Int × Bool := if l = [] ∨ 10 < l.length then (0, false) else dFin most (dgo 0 l)
theorem dgo_drop {n : Int} {l : List UInt8} {k : Nat} (hk : k < l.length) : dgo n (l.drop k) = if dgB (l.getD k 0) then dgo (n * 10 + (((l.getD k 0).toNat : Int) - 48)) (l.drop (k + 1)) else none := by
  rw [List.drop_eq_getElem_cons hk]
  rw [show l.getD k 0 = l[k] by rw [List.getD_eq_getElem?_getD, List.getElem?_eq_getElem hk]; rfl]
  rfl
theorem dgo_append (a b : List UInt8) : ∀ n, dgo n (a ++ b) = (dgo n a).bind fun m => dgo m b := by
  induction a with
  | nil => intro n; rfl
  | cons c a ih =>
    intro n
    simp only [List.cons_append, dgo]
    split
    · exact ih _
    · rfl
theorem dgo_digits (n : Nat) : dgo 0 (Lib.decDigits n) = some (n : Int) := by
  induction n using Nat.strongRecOn with
  | _ n ih =>
    by_cases h : n < 10
    · rw [dd_small h]
      have hd : ((UInt8.ofNat (48 + n)).toNat : Int) = 48 + n := by simp; omega
      simp only [dgo, dgB, hd]
      rw [if_pos (by simp; omega)]
      congr 1; omega
    · rw [dd_big h, dgo_append, ih (n / 10) (by omega)]
      have hd : ((UInt8.ofNat (48 + n % 10)).toNat : Int) = 48 + (n % 10 : Nat) := by simp; omega
      simp only [Option.bind_some, dgo, dgB, hd]
      rw [if_pos (by simp; omega)]
      congr 1; omega
/-- A bound of what k digits make. -/
def pt : Nat → Int
  | 0 => 1
  | k + 1 => 10 * pt k
theorem pt_le : ∀ k, k ≤ 10 → 1 ≤ pt k ∧ pt k ≤ 10000000000 := by decide
def mostI : Int := 18446744073709551615
set_option maxRecDepth 20000 in
set_option maxHeartbeats 2000000 in
theorem num_any (s : ByteArray) (most : Int) (w : World) (hs : s.size ≤ 9223372036854775807) :
    Calls Tryz.prog 168 #[.string s, .int .u64 most] w fun e w' =>
      e = .returned (.tuple #[.int .u64 (vnum most s.data.toList).1, .bool (vnum most s.data.toList).2]) ∧ w.grownBy w' none := by
  obtain ⟨l, hl⟩ : ∃ l, l = s.data.toList := ⟨_, rfl⟩
  have hlen : s.size = l.length := by rw [hl, ← Lib.size_eq]
  have hemp : s.toList.isEmpty = decide (l = []) := by rw [Lib.toList_data, ← hl]; cases l <;> rfl
  rw [← hl]
  have Hl := hid hl
  have Hlen := hid hlen
  clear hl hlen
  by_cases h10 : 10 < s.size
  · have R := hid (show vnum most l = (0, false) by rw [vnum, if_pos (.inr (by rw [← Hlen.out]; exact h10))])
    rw [R.out]
    clear hemp
    go_enter Tryz.func168, Tryz.ntmps168
    go_wp2_with (refine wpl_s2b rfl 9 30 5 _ rfl Tryz.underlying9 Tryz.underlying30 Tryz.underlying5 s rfl (by unfold maxLen; omega) ?_; intro g cap w1 hg hrow gw)
    rw [← Hl.out] at hrow
    refine wp_loop_rounds 1 ?_
    rw [rounds_succ]
    have hc := hrow.cell (i := 0) (by rw [← Hlen.out]; omega)
    have hlt : (0 : Int) < s.size := by omega
    generalize l.getD 0 0 = c at hc
    by_cases c1 : (c.toNat : Int) < 48
    · go_wp2
      go_ret2
      exact ⟨rfl, gw⟩
    · by_cases c2 : (57 : Int) < (c.toNat : Int)
      · go_wp2
        go_ret2
        exact ⟨rfl, gw⟩
      · go_wp2
        go_ret2
        exact ⟨rfl, gw⟩
  · have h10' : s.size ≤ 10 := by omega
    by_cases h0 : l = []
    · have R := hid (show vnum most l = (0, false) by rw [vnum, if_pos (.inl h0)])
      rw [R.out]
      have e0 : s.toList.isEmpty = true := by rw [hemp]; simpa using h0
      have hz : s.size = 0 := by rw [Hlen.out, h0]; rfl
      have hz' : s.size ≤ 0 := by omega
      have Hz := hid hz
      clear hemp h0 hz h10
      go_enter Tryz.func168, Tryz.ntmps168
      go_wp2_with (refine wpl_s2b rfl 9 30 5 _ rfl Tryz.underlying9 Tryz.underlying30 Tryz.underlying5 s rfl (by unfold maxLen; omega) ?_; intro g cap w1 hg hrow gw)
      refine wp_loop_rounds 1 ?_
      rw [rounds_succ]
      go_wp2
      go_ret2
      exact ⟨rfl, gw⟩
    · have e0 : s.toList.isEmpty = false := by rw [hemp]; simpa using h0
      have R := hid (show vnum most l = dFin most (dgo 0 l) by rw [vnum, if_neg (by rintro (h | h); exact h0 h; rw [← Hlen.out] at h; omega)])
      rw [R.out]
      clear hemp h0 h10
      go_enter Tryz.func168, Tryz.ntmps168
      go_wp2_with (refine wpl_s2b rfl 9 30 5 _ rfl Tryz.underlying9 Tryz.underlying30 Tryz.underlying5 s rfl (by unfold maxLen; omega) ?_; intro g cap w1 hg hrow gw)
      rw [← Hl.out] at hrow
      go_loop [4, 11] (fun vn vk => ∃ (k : Nat) (n : Int), k ≤ s.size ∧ vk = .int .i64 k ∧ vn = .int .u64 n ∧ 0 ≤ n ∧ n + 1 ≤ pt k ∧ Hid (dgo 0 l = dgo n (l.drop k))) (fun _ vk => s.size - (intOf vk).toNat)
      case atStart => exact ⟨0, 0, Nat.zero_le _, rfl, rfl, by omega, by decide, rfl⟩
      case round =>
        obtain ⟨k, n, hk, rfl, rfl, n0, n1, hgo⟩ := hrel
        have pk := pt_le k (by omega)
        by_cases hlt : k < s.size
        · have hc := hrow.cell (i := k) (by rw [← Hlen.out]; exact hlt)
          have hd := hid (dgo_drop (n := n) (l := l) (k := k) (by rw [← Hlen.out]; exact hlt))
          generalize l.getD k 0 = c at hc hd
          have hpk : pt (k + 1) = 10 * pt k := rfl
          generalize hp1 : pt (k + 1) = p1 at *
          have P1 := hid hp1
          clear hp1
          generalize pt k = p0 at *
          by_cases c1 : (c.toNat : Int) < 48
          · have R2 := hid (show dgo 0 l = none by rw [hgo.out, hd.out, dgB, decide_eq_false (by omega)]; rfl)
            clear hpk
            go_wp2
            go_ret2
            exact ⟨by rw [R2.out]; rfl, gw⟩
          · by_cases c2 : (57 : Int) < (c.toNat : Int)
            · have R2 := hid (show dgo 0 l = none by rw [hgo.out, hd.out, dgB, decide_eq_false (p := (c.toNat : Int) ≤ 57) (by omega)]; simp)
              clear hpk
              go_wp2
              go_ret2
              exact ⟨by rw [R2.out]; rfl, gw⟩
            · have hgo' := hid (show dgo 0 l = dgo (n * 10 + ((c.toNat : Int) - 48)) (l.drop (k + 1)) by rw [hgo.out, hd.out, dgB, decide_eq_true (by omega), decide_eq_true (by omega)]; rfl)
              have n2 : n * 10 + ((c.toNat : Int) - 48) + 1 ≤ p1 := by omega
              clear hpk hgo
              go_wp2
              go_round
              case rel => exact ⟨k + 1, _, by omega, by go_num, rfl, by omega, by rw [P1.out]; exact n2, hgo'⟩
              case measure => simp [intOf]; omega
        · have hke : k = l.length := by have := Hlen.out; omega
          have R2 := hid (show dgo 0 l = some n by rw [hgo.out, hke]; simp [dgo])
          clear hke
          by_cases hm : most < n
          · have R3 := hid (show dFin most (some n) = (0, false) by rw [dFin, if_pos hm])
            go_wp2
            go_ret2
            exact ⟨by rw [R2.out, R3.out]; rfl, gw⟩
          · have R3 := hid (show dFin most (some n) = (n, true) by rw [dFin, if_neg hm])
            go_wp2
            go_ret2
            exact ⟨by rw [R2.out, R3.out]; rfl, gw⟩
end Go.Proofs.YtmofnoconhgjmaaGreatDoor
/- The walk of ValueWrites. -/
namespace Go.Proofs.YtmofnoconhgjmaaGreatDoor
open Go.RowKit

theorem flag_yes (b : Bool) : flagR (yesR b) = (b, true) := by cases b <;> decide
theorem proto_way (p : Int) : protoR (wayR p) = (if p = 6 then (6, true) else if p = 17 then (17, true) else (0, false)) := by
  unfold wayR
  split
  · decide
  · split <;> decide
def P10 (w : World) : Prop := Lib.TabIs Tryz.prog w "internal/strconv.uint64pow10" .u64 Lib.pow10Tab
theorem P10.grown {w w' : World} (h : P10 w) (g : w.grownBy w' none) : P10 w' := by
  unfold P10 Lib.TabIs World.var? at *
  cases hg : Tryz.prog.globalNamed "internal/strconv.uint64pow10" with
  | none => simp [hg] at h
  | some i =>
    simp only [hg, Option.bind_some] at h ⊢
    have hlt : i < w.heap.size := by
      rcases Nat.lt_or_ge i w.heap.size with h' | h'
      · exact h'
      · simp [Array.getElem?_eq_none h'] at h
    rw [g.block i hlt (by simp)]
    exact h
theorem bnat (n : Nat) (hn : n < 18446744073709551616) : (n : Int) ≤ mostI := by unfold mostI; omega
theorem pow_nd (n : Nat) : 1 ≤ n → 10 ^ (Lib.nDigits n - 1) ≤ n := by
  induction n using Nat.strongRecOn with
  | _ n ih =>
    intro h
    by_cases h10 : n < 10
    · rw [Lib.nDigits_small h10]; exact h
    · have := ih (n / 10) (by omega) (by omega)
      have hp := Lib.nDigits_pos (n / 10)
      rw [Lib.nDigits_big h10, Nat.add_sub_cancel]
      obtain ⟨j, hj⟩ : ∃ j, Lib.nDigits (n / 10) = j + 1 := ⟨Lib.nDigits (n / 10) - 1, by omega⟩
      rw [hj] at this ⊢
      rw [Nat.add_sub_cancel] at this
      rw [Nat.pow_succ]; omega
theorem vnum_own (n : Nat) (hn : n < 18446744073709551616) : vnum mostI (Lib.decDigits n) = if n < 10000000000 then ((n : Int), true) else (0, false) := by
  have hne : Lib.decDigits n ≠ [] := by
    by_cases h : n < 10
    · rw [dd_small h]; simp
    · rw [dd_big h]; simp
  have hlen : (Lib.decDigits n).length ≤ 10 ↔ n < 10000000000 := by
    rw [Lib.decDigits_length]
    constructor
    · intro h
      have h2 := Lib.lt_pow_nDigits n
      have h3 : 10 ^ Lib.nDigits n ≤ 10 ^ 10 := Nat.pow_le_pow_right (by omega) h
      omega
    · intro h
      by_cases h1 : 1 ≤ n
      · have := pow_nd n h1
        rcases Nat.lt_or_ge 10 (Lib.nDigits n) with h4 | h4
        · have h3 : 10 ^ 10 ≤ 10 ^ (Lib.nDigits n - 1) := Nat.pow_le_pow_right (by omega) (by omega)
          omega
        · exact h4
      · obtain rfl : n = 0 := by omega
        decide +kernel
  unfold vnum
  by_cases h : n < 10000000000
  · rw [if_neg (by rintro (h' | h'); exact hne h'; have := hlen.2 h; omega), dgo_digits, if_pos h, dFin, if_neg (by have := bnat n hn; omega)]
  · rw [if_pos (.inr (by rcases Nat.lt_or_ge 10 (Lib.decDigits n).length with h' | h'; exact h'; exact absurd (hlen.1 h') h)), if_neg h]
end Go.Proofs.YtmofnoconhgjmaaGreatDoor
