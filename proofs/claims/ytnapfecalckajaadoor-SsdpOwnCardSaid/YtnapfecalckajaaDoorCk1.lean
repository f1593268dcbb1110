/- hearthref09.inner, .Host, .UUID: what is needed of them. -/
import Derived.Test.YtnapfecalckajaaDoorTx
import Derived.Test.YtnapfecalckajaaDoorSs3
namespace Go.Proofs.YtnapfecalckajaaDoor
open Go.RowKit

/-- How many bits count. -/
def bitsN (b : Int) : Nat := (min (max b 0) 32).toNat
def withinB (a n : Nat) (b : Int) : Bool := decide (a / 2 ^ (32 - bitsN b) = n / 2 ^ (32 - bitsN b))
theorem bit_of (a k : Nat) (ha : a < 4294967296) : bits .and .u32 ((a : Int) / 2 ^ k) 1 = ((a / 2 ^ k % 2 : Nat) : Int) := by
  have e : (a : Int) / 2 ^ k = ((a / 2 ^ k : Nat) : Int) := by simp
  have h := u32_and_nat (a / 2 ^ k) 1 (Nat.lt_of_le_of_lt (Nat.div_le_self _ _) ha) (by omega)
  rw [e]
  rw [show ((1 : Int)) = ((1 : Nat) : Int) from rfl, h, nat_mask1]
theorem div_step (a i : Nat) (hi : i < 32) : a / 2 ^ (31 - i) = 2 * (a / 2 ^ (32 - i)) + a / 2 ^ (31 - i) % 2 := by
  have e : 32 - i = (31 - i) + 1 := by omega
  rw [e, Nat.pow_succ, ← Nat.div_div_eq_div_mul]
  omega
theorem div_more (a n j k : Nat) (h : a / 2 ^ j = n / 2 ^ j) (hj : j ≤ k) : a / 2 ^ k = n / 2 ^ k := by
  obtain ⟨d, rfl⟩ : ∃ d, k = j + d := ⟨k - j, by omega⟩
  rw [Nat.pow_add, ← Nat.div_div_eq_div_mul, ← Nat.div_div_eq_div_mul, h]
set_option maxHeartbeats 2000000 in
theorem rwithin_any (a n : Nat) (ha : a < 4294967296) (hn : n < 4294967296) (b : Int) (w : World) :
    Calls Tryd.prog 27 #[.int .u32 a, .int .u32 n, .int .i64 b] w fun e w' => e = .returned (.bool (withinB a n b)) ∧ w = w' := by
  have Ha := hid ha
  have Hn := hid hn
  clear ha hn
  go_enter Tryd.func27, Tryd.ntmps27
  go_wp2_with fail
  go_loop [7] (fun vi => ∃ i : Nat, i ≤ bitsN b ∧ vi = .int .i64 i ∧ Hid (a / 2 ^ (32 - i) = n / 2 ^ (32 - i))) (fun vi => 33 - (intOf vi).toNat)
  case atStart =>
    refine ⟨0, Nat.zero_le _, rfl, ?_⟩
    show _ = _
    have h1 := Ha.out
    have h2 := Hn.out
    rw [Nat.div_eq_of_lt (by omega), Nat.div_eq_of_lt (by omega)]
  case round =>
    obtain ⟨i, hi, rfl, he⟩ := hrel
    by_cases hc : i < bitsN b
    · have hi32 : i < 32 := by unfold bitsN at hc; omega
      have hib : (i : Int) < b := by unfold bitsN at hc; omega
      have b1 := bit_of a (31 - i) Ha.out
      have b2 := bit_of n (31 - i) Hn.out
      have s1 := hid (div_step a i hi32)
      have s2 := hid (div_step n i hi32)
      have hk : (31 - (i : Int)).toNat = 31 - i := by omega
      by_cases hb : a / 2 ^ (31 - i) % 2 = n / 2 ^ (31 - i) % 2
      · have R := hid (show a / 2 ^ (32 - (i + 1)) = n / 2 ^ (32 - (i + 1)) by
          rw [show 32 - (i + 1) = 31 - i by omega, s1.out, s2.out, he.out, hb])
        rw [hb] at b1
        generalize n / 2 ^ (31 - i) % 2 = q at b1 b2
        clear hb hk
        go_wp2
        go_round
        case rel => exact ⟨i + 1, by omega, by go_num, R⟩
        case measure => simp [intOf]; omega
      · have R := hid (show withinB a n b = false by
          unfold withinB
          rw [decide_eq_false_iff_not]
          intro h
          exact hb (by rw [div_more a n _ (31 - i) h (by omega)]))
        have hne : (((a / 2 ^ (31 - i) % 2 : Nat) : Int) != ((n / 2 ^ (31 - i) % 2 : Nat) : Int)) = true := by simp only [bne_iff_ne, ne_eq]; omega
        generalize a / 2 ^ (31 - i) % 2 = p at b1 hne
        generalize n / 2 ^ (31 - i) % 2 = q at b2 hne
        clear hb hk
        go_wp2
        go_ret
        exact ⟨by rw [R.out]; rfl, rfl⟩
    · have R := hid (show withinB a n b = true by
        unfold withinB
        obtain rfl : i = bitsN b := by omega
        rw [he.out]; simp)
      have hcc : ¬ (i : Int) < 32 ∨ ((i : Int) < 32 ∧ ¬ (i : Int) < b) := by unfold bitsN at hc hi; omega
      rcases hcc with h1 | ⟨h0, h1⟩
      · go_wp2
        go_ret
        exact ⟨by rw [R.out]; rfl, rfl⟩
      · go_wp2
        go_ret
        exact ⟨by rw [R.out]; rfl, rfl⟩

/-- What is read of a configuration. -/
structure Cfv where
  (m1 m2 m3 lan wan dmz : Nat) (bits n1 n2 n3 n4 : Int) (fa : Option Addr) (fl fc : Nat) (u : List UInt8)
structure CfAll (cs : Array Value) (x : Cfv) : Prop where
  sz : cs.size = 28
  c0 : cs[0]? = some (.int .u8 (x.m1 : Int))
  c6 : cs[6]? = some (.int .u8 (x.m2 : Int))
  c12 : cs[12]? = some (.int .u8 (x.m3 : Int))
  c18 : cs[18]? = some (.int .u32 (x.lan : Int))
  c19 : cs[19]? = some (.int .u32 (x.wan : Int))
  c20 : cs[20]? = some (.int .i64 x.bits)
  c21 : cs[21]? = some (.int .i64 x.n1)
  c22 : cs[22]? = some (.int .i64 x.n2)
  c23 : cs[23]? = some (.int .i64 x.n3)
  c24 : cs[24]? = some (.int .i64 x.n4)
  c25 : cs[25]? = some (.slice x.fa x.fl x.fc)
  c26 : cs[26]? = some (.int .u32 (x.dmz : Int))
  c27 : cs[27]? = some (.string ⟨x.u.toArray⟩)
  h1 : x.m1 < 256
  h2 : x.m2 < 256
  h3 : x.m3 < 256
  hl : x.lan < 4294967296
  hw : x.wan < 4294967296
  hd : x.dmz < 4294967296
theorem CfAll.ok {cs : Array Value} {x : Cfv} (h : CfAll cs x) : CfOk cs x.lan x.u := ⟨h.sz, h.c18, h.c27, h.hl⟩
/-- The forwards. -/
def FwAt (w : World) (fa : Option Addr) (fl : Nat) : Prop :=
  fl = 0 ∨ ∃ b o, fa = some ⟨b, o, none⟩ ∧ ∀ i, i < fl → ∃ p q r h : Nat, w.cell? ⟨b, o + i * 4, none⟩ = some (.int .u8 (p : Int)) ∧ w.cell? ⟨b, o + i * 4 + 1, none⟩ = some (.int .u16 (q : Int)) ∧ w.cell? ⟨b, o + i * 4 + 2, none⟩ = some (.int .u16 (r : Int)) ∧ w.cell? ⟨b, o + i * 4 + 3, none⟩ = some (.int .u32 (h : Int)) ∧ h < 4294967296
theorem FwAt.grow {w w' : World} {fa : Option Addr} {fl : Nat} (h : FwAt w fa fl) (g : w.grownBy w' none) : FwAt w' fa fl := by
  rcases h with h | ⟨b, o, rfl, h⟩
  · exact .inl h
  · refine .inr ⟨b, o, rfl, fun i hi => ?_⟩
    obtain ⟨p, q, r, a, e1, e2, e3, e4, e5⟩ := h i hi
    exact ⟨p, q, r, a, g.cell e1 (by simp), g.cell e2 (by simp), g.cell e3 (by simp), g.cell e4 (by simp), e5⟩
def SomeB (w : World) (e : Ending) (w' : World) : Prop := ∃ b, e = .returned (.bool b) ∧ w = w'
def InI (v5 v6 v7 v8 : Value) : Prop := ∃ (i n : Nat) (a b : Bool), i ≤ 32 ∧ n ≤ i ∧ v5 = .int .i64 (n : Int) ∧ v6 = .bool a ∧ v7 = .bool b ∧ v8 = .int .i64 (i : Int)
set_option maxHeartbeats 2000000 in
theorem inner_any (a : Nat) (ha : a < 4294967296) (b : Int) (w : World) : Calls Tryd.prog 26 #[.int .u32 a, .int .i64 b] w (SomeB w) := by
  have Ha := hid ha
  clear ha
  go_enter Tryd.func26, Tryd.ntmps26
  go_wp2_with fail
  go_loop [5, 6, 7, 8] (fun v5 v6 v7 v8 => InI v5 v6 v7 v8) (fun _ _ _ v8 => 33 - (intOf v8).toNat)
  case atStart => exact ⟨0, 0, true, true, by omega, by omega, rfl, rfl, rfl, rfl⟩
  case round =>
    obtain ⟨i, n, x, y, hi, hn, rfl, rfl, rfl, rfl⟩ := hrel
    by_cases hlt : i < 32
    · by_cases hb : (i : Int) < b
      · go_wp2
        go_round
        case rel => exact ⟨i + 1, n, x, y, by omega, by omega, rfl, rfl, rfl, by go_num⟩
        case measure => simp [intOf]; omega
      · have b1 := bit_of a (31 - i) Ha.out
        have hk : (31 - (i : Int)).toNat = 31 - i := by omega
        obtain ⟨q, hq⟩ : ∃ q, q = a / 2 ^ (31 - i) % 2 := ⟨_, rfl⟩
        rw [← hq] at b1
        by_cases hq1 : q = 1
        · subst hq1
          clear hq hk
          go_wp2
          go_round
          case rel => exact ⟨i + 1, n + 1, false, y, by omega, by omega, by go_num, rfl, rfl, by go_num⟩
          case measure => simp [intOf]; omega
        · have hne : (((q : Nat) : Int) == 1) = false := by rw [beq_eq_false_iff_ne]; omega
          clear hq hk
          go_wp2
          go_round
          case rel => exact ⟨i + 1, n + 1, x, false, by omega, by omega, by go_num, rfl, rfl, by go_num⟩
          case measure => simp [intOf]; omega
    · go_wp2
      all_goals
        go_ret
        exact ⟨_, rfl, rfl⟩
def SomeC (w : World) (e : Ending) (w' : World) : Prop := ∃ b, e = .returned (.bool b) ∧ w.grownBy w' none
set_option maxHeartbeats 2000000 in
theorem host_any (cs : Array Value) (x : Cfv) (a : Nat) (ha : a < 4294967296) (hc : CfAll cs x) (w : World) : Calls Tryd.prog 28 #[.agg cs, .int .u32 a] w (SomeC w) := by
  have h18 := hc.c18
  have h20 := hc.c20
  have hl := hc.hl
  clear hc
  go_enter Tryd.func28, Tryd.ntmps28
  go_wp2_with fail
  refine (rwithin_any a x.lan ha hl x.bits _).mono ?_
  rintro e w' ⟨rfl, rfl⟩
  cases withinB a x.lan x.bits with
  | false =>
    go_wp2
    go_ret
    exact ⟨_, rfl, World.grownBy_alloc w _ none⟩
  | true =>
    by_cases hne : (a : Int) = (x.lan : Int)
    · have hne2 : ((a : Int) != (x.lan : Int)) = false := by simpa using hne
      clear hne
      go_wp2
      go_ret
      exact ⟨_, rfl, World.grownBy_alloc w _ none⟩
    · have hne2 : ((a : Int) != (x.lan : Int)) = true := by simpa using hne
      clear hne
      go_wp2_with fail
      refine (inner_any a ha x.bits _).mono ?_
      rintro e w' ⟨b, rfl, rfl⟩
      go_wp2
      go_ret
      exact ⟨_, rfl, World.grownBy_alloc w _ none⟩
def UuB (w : World) (s : List UInt8) (e : Ending) (w' : World) : Prop := ∃ b, e = .returned (.bool b) ∧ w = w' ∧ (b = true → s.length = 36 ∧ ∀ c ∈ s, 33 ≤ c.toNat ∧ c.toNat ≤ 126)
def UuI (s : List UInt8) (v3 : Value) : Prop := ∃ k : Nat, k ≤ 36 ∧ v3 = .int .i64 (k : Int) ∧ ∀ c ∈ s.take k, 33 ≤ c.toNat ∧ c.toNat ≤ 126
theorem uu_next {s : List UInt8} {k : Nat} (h : ∀ c ∈ s.take k, 33 ≤ c.toNat ∧ c.toNat ≤ 126) (hk : k < s.length) (hc : 33 ≤ (s.getD k 0).toNat ∧ (s.getD k 0).toNat ≤ 126) : ∀ c ∈ s.take (k + 1), 33 ≤ c.toNat ∧ c.toNat ≤ 126 := by
  intro c hm
  rw [List.take_add_one, List.getElem?_eq_getElem hk] at hm
  rcases List.mem_append.1 hm with hm | hm
  · exact h c hm
  · simp at hm
    rw [List.getD_eq_getElem?_getD, List.getElem?_eq_getElem hk] at hc
    rw [hm]; exact hc
set_option maxRecDepth 20000 in
set_option maxHeartbeats 4000000 in
theorem uuid_any (s : ByteArray) (w : World) (hs : s.size ≤ 9223372036854775807) : Calls Tryd.prog 29 #[.string s] w (UuB w s.data.toList) := by
  obtain ⟨t, ht⟩ : ∃ t, s.data.toList = t := ⟨_, rfl⟩
  have hlen : s.size = t.length := by rw [← ht, ← Lib.size_eq]
  have HSTR := hid (show ∀ k (h : k < s.size), s[k]'h = t.getD k 0 by rw [← ht]; exact strAt s)
  rw [ht]
  clear ht
  by_cases h36 : s.size = 36
  · have H36 := hid (show t.length = 36 by omega)
    have hz1 : ((s.size : Int) != 36) = false := by simp; omega
    have hle : 36 ≤ s.size := by omega
    have HLE := hid h36
    clear h36 hlen
    go_enter Tryd.func29, Tryd.ntmps29
    go_wp2_with fail
    go_loop [3] (fun v3 => UuI t v3) (fun v3 => 37 - (intOf v3).toNat)
    case atStart => exact ⟨0, by omega, rfl, fun c h => by simp at h⟩
    case round =>
      obtain ⟨k, hk, rfl, hv⟩ := hrel
      have HV := hid hv
      clear hv
      by_cases hlt : k < 36
      · have hc : s[k]'(by omega) = t.getD k 0 := HSTR.out k (by omega)
        have HNX := hid (fun h => uu_next HV.out (by rw [H36.out]; exact hlt) h)
        obtain ⟨c, hcd⟩ : ∃ c, c = t.getD k 0 := ⟨_, rfl⟩
        rw [← hcd] at hc HNX
        clear hcd
        have hc8 := UInt8.toNat_lt c
        by_cases hd : k = 8 ∨ k = 13 ∨ k = 18 ∨ k = 23
        · by_cases h45 : (c.toNat : Int) = 45
          · have e45 : ((c.toNat : Int) == 45) = true := by simpa using h45
            rcases hd with rfl | rfl | rfl | rfl
            all_goals
              go_wp2
              all_goals
                go_round
                case rel => exact ⟨_, by omega, by first | rfl | go_num, HNX.out (by omega)⟩
                case measure => simp [intOf]
          · have e45 : ((c.toNat : Int) == 45) = false := by simpa using h45
            rcases hd with rfl | rfl | rfl | rfl
            all_goals
              go_wp2
              all_goals
                go_ret
                exact ⟨false, rfl, rfl, fun h => by cases h⟩
        · have n8 : ((k : Int) == 8) = false := by rw [beq_eq_false_iff_ne]; omega
          have n13 : ((k : Int) == 13) = false := by rw [beq_eq_false_iff_ne]; omega
          have n18 : ((k : Int) == 18) = false := by rw [beq_eq_false_iff_ne]; omega
          have n23 : ((k : Int) == 23) = false := by rw [beq_eq_false_iff_ne]; omega
          clear hd
          by_cases h45 : (c.toNat : Int) = 45
          · have e45 : ((c.toNat : Int) == 45) = true := by simpa using h45
            go_wp2
            all_goals
              go_ret
              exact ⟨false, rfl, rfl, fun h => by cases h⟩
          · have e45 : ((c.toNat : Int) == 45) = false := by simpa using h45
            clear HV H36 HLE HSTR
            go_wp2
            all_goals first
              | (go_ret; exact ⟨false, rfl, rfl, fun h => by cases h⟩)
              | (go_round
                 case rel => exact ⟨k + 1, by omega, by go_num, HNX.out (by first | omega | (simp_all; omega))⟩
                 case measure => simp [intOf]; omega)
      · obtain rfl : k = 36 := by omega
        have HT := hid (show t.take 36 = t from List.take_of_length_le (by rw [H36.out]; exact Nat.le_refl _))
        go_wp2
        go_ret
        exact ⟨true, rfl, rfl, fun _ => ⟨H36.out, fun c hc => HV.out c (by rw [HT.out]; exact hc)⟩⟩
  · have hz1 : ((s.size : Int) != 36) = true := by simp; omega
    clear hlen
    go_enter Tryd.func29, Tryd.ntmps29
    go_wp2
    go_ret
    exact ⟨false, rfl, rfl, fun h => by cases h⟩
end Go.Proofs.YtnapfecalckajaaDoor
