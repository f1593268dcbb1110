/- Texts of one proof, put together: Ck3, Ck4, Igw, ArJ. -/
import Derived.Test.YtmofnoconhgjmaaGreatDoorPl1
import Derived.Test.YtmofnoconhgjmaaGreatDoorMH
import Derived.BigQuiet
import Derived.Deep.QuietTactic
import Derived.Test.YtmofnoconhgjmaaGreatDoorMO
import Derived.Test.YtmofnoconhgjmaaGreatDoorM2
import Derived.Test.YtmofnoconhgjmaaGreatDoorMN
import Derived.Test.YtmofnoconhgjmaaGreatDoorMR
import Derived.Test.YtmofnoconhgjmaaGreatDoorMA
/- hearthref09.inner, .Host, .UUID: what is needed of them. -/
namespace Go.Proofs.YtmofnoconhgjmaaGreatDoor
open Go.RowKit

/-- How many bits count. -/
def bitsN (b : Int) : Nat := (min (max b 0) 32).toNat
def withinB (a n : Nat) (b : Int) : Bool := decide (a / 2 ^ (32 - bitsN b) = n / 2 ^ (32 - bitsN b))
theorem bit_of (a k : Nat) (ha : a < 4294967296) : bits .and .u32 ((a : Int) / 2 ^ k) 1 = ((a / 2 ^ k % 2 : Nat) : Int) := by
  have e : (a : Int) / 2 ^ k = ((a / 2 ^ k : Nat) : Int) := by simp
  have h := u32_and_nat (a / 2 ^ k) 1 (Nat.lt_of_le_of_lt (Nat.div_le_self _ _) ha) (by omega)
  rw [e]
  rw [show ((1 : Int)) = ((1 : Nat) : Int) from rfl, h, nat_mask1]
theorem div_step (a i : Nat) (hi : i < 32) : a / 2 ^ (31 - i) = 2 * (a / 2 ^ (32 - i)) + a / 2 ^ (31 - i) % 2 := by
  have e : 32 - i = (31 - i) + 1 := by omega
  rw [e, Nat.pow_succ, ← Nat.div_div_eq_div_mul]
  omega
theorem div_more (a n j k : Nat) (h : a / 2 ^ j = n / 2 ^ j) (hj : j ≤ k) : a / 2 ^ k = n / 2 ^ k := by
  obtain ⟨d, rfl⟩ : ∃ d, k = j + d := ⟨k - j, by omega⟩
  rw [Nat.pow_add, ← Nat.div_div_eq_div_mul, ← Nat.div_div_eq_div_mul, h]
set_option maxHeartbeats 2000000 in
theorem ckwithin_any (a n : Nat) (ha : a < 4294967296) (hn : n < 4294967296) (b : Int) (w : World) :
    Calls Tryz.prog 69 #[.int .u32 a, .int .u32 n, .int .i64 b] w fun e w' => e = .returned (.bool (withinB a n b)) ∧ w = w' := by
  have Ha := hid ha
  have Hn := hid hn
  clear ha hn
  go_enter Tryz.func69, Tryz.ntmps69
  go_wp2_with fail
  go_loop [7] (fun vi => ∃ i : Nat, i ≤ bitsN b ∧ vi = .int .i64 i ∧ Hid (a / 2 ^ (32 - i) = n / 2 ^ (32 - i))) (fun vi => 33 - (intOf vi).toNat)
  case atStart =>
    refine ⟨0, Nat.zero_le _, rfl, ?_⟩
    show _ = _
    have h1 := Ha.out
    have h2 := Hn.out
    rw [Nat.div_eq_of_lt (by omega), Nat.div_eq_of_lt (by omega)]
  case round =>
    obtain ⟨i, hi, rfl, he⟩ := hrel
    by_cases hc : i < bitsN b
    · have hi32 : i < 32 := by unfold bitsN at hc; omega
      have hib : (i : Int) < b := by unfold bitsN at hc; omega
      have b1 := bit_of a (31 - i) Ha.out
      have b2 := bit_of n (31 - i) Hn.out
      have s1 := hid (div_step a i hi32)
      have s2 := hid (div_step n i hi32)
      have hk : (31 - (i : Int)).toNat = 31 - i := by omega
      by_cases hb : a / 2 ^ (31 - i) % 2 = n / 2 ^ (31 - i) % 2
      · have R := hid (show a / 2 ^ (32 - (i + 1)) = n / 2 ^ (32 - (i + 1)) by
          rw [show 32 - (i + 1) = 31 - i by omega, s1.out, s2.out, he.out, hb])
        rw [hb] at b1
        generalize n / 2 ^ (31 - i) % 2 = q at b1 b2
        clear hb hk
        go_wp2
        go_round
        case rel => exact ⟨i + 1, by omega, by go_num, R⟩
        case measure => simp [intOf]; omega
      · have R := hid (show withinB a n b = false by
          unfold withinB
          rw [decide_eq_false_iff_not]
          intro h
          exact hb (by rw [div_more a n _ (31 - i) h (by omega)]))
        have hne : (((a / 2 ^ (31 - i) % 2 : Nat) : Int) != ((n / 2 ^ (31 - i) % 2 : Nat) : Int)) = true := by simp only [bne_iff_ne, ne_eq]; omega
        generalize a / 2 ^ (31 - i) % 2 = p at b1 hne
        generalize n / 2 ^ (31 - i) % 2 = q at b2 hne
        clear hb hk
        go_wp2
        go_ret
        exact ⟨by rw [R.out]; rfl, rfl⟩
    · have R := hid (show withinB a n b = true by
        unfold withinB
        obtain rfl : i = bitsN b := by omega
        rw [he.out]; simp)
      have hcc : ¬ (i : Int) < 32 ∨ ((i : Int) < 32 ∧ ¬ (i : Int) < b) := by unfold bitsN at hc hi; omega
      rcases hcc with h1 | ⟨h0, h1⟩
      · go_wp2
        go_ret
        exact ⟨by rw [R.out]; rfl, rfl⟩
      · go_wp2
        go_ret
        exact ⟨by rw [R.out]; rfl, rfl⟩

/-- What is read of a configuration. -/
structure Cfv where
  (m1 m2 m3 lan wan dmz : Nat) (bits n1 n2 n3 n4 : Int) (fa : Option Addr) (fl fc : Nat) (u : List UInt8)
structure CfAll (cs : Array Value) (x : Cfv) : Prop where
  sz : cs.size = 28
  c0 : cs[0]? = some (.int .u8 (x.m1 : Int))
  c6 : cs[6]? = some (.int .u8 (x.m2 : Int))
  c12 : cs[12]? = some (.int .u8 (x.m3 : Int))
  c18 : cs[18]? = some (.int .u32 (x.lan : Int))
  c19 : cs[19]? = some (.int .u32 (x.wan : Int))
  c20 : cs[20]? = some (.int .i64 x.bits)
  c21 : cs[21]? = some (.int .i64 x.n1)
  c22 : cs[22]? = some (.int .i64 x.n2)
  c23 : cs[23]? = some (.int .i64 x.n3)
  c24 : cs[24]? = some (.int .i64 x.n4)
  c25 : cs[25]? = some (.slice x.fa x.fl x.fc)
  c26 : cs[26]? = some (.int .u32 (x.dmz : Int))
  c27 : cs[27]? = some (.string ⟨x.u.toArray⟩)
  h1 : x.m1 < 256
  h2 : x.m2 < 256
  h3 : x.m3 < 256
  hl : x.lan < 4294967296
  hw : x.wan < 4294967296
  hd : x.dmz < 4294967296
/-- The forwards. -/
def FwK (w : World) (fa : Option Addr) (fl : Nat) : Prop :=
  fl = 0 ∨ ∃ b o, fa = some ⟨b, o, none⟩ ∧ ∀ i, i < fl → ∃ p q r h : Nat, w.cell? ⟨b, o + i * 4, none⟩ = some (.int .u8 (p : Int)) ∧ w.cell? ⟨b, o + i * 4 + 1, none⟩ = some (.int .u16 (q : Int)) ∧ w.cell? ⟨b, o + i * 4 + 2, none⟩ = some (.int .u16 (r : Int)) ∧ w.cell? ⟨b, o + i * 4 + 3, none⟩ = some (.int .u32 (h : Int)) ∧ h < 4294967296
theorem FwK.grow {w w' : World} {fa : Option Addr} {fl : Nat} (h : FwK w fa fl) (g : w.grownBy w' none) : FwK w' fa fl := by
  rcases h with h | ⟨b, o, rfl, h⟩
  · exact .inl h
  · refine .inr ⟨b, o, rfl, fun i hi => ?_⟩
    obtain ⟨p, q, r, a, e1, e2, e3, e4, e5⟩ := h i hi
    exact ⟨p, q, r, a, g.cell e1 (by simp), g.cell e2 (by simp), g.cell e3 (by simp), g.cell e4 (by simp), e5⟩
def SomeB (w : World) (e : Ending) (w' : World) : Prop := ∃ b, e = .returned (.bool b) ∧ w = w'
def InI (v5 v6 v7 v8 : Value) : Prop := ∃ (i n : Nat) (a b : Bool), i ≤ 32 ∧ n ≤ i ∧ v5 = .int .i64 (n : Int) ∧ v6 = .bool a ∧ v7 = .bool b ∧ v8 = .int .i64 (i : Int)
set_option maxHeartbeats 2000000 in
theorem inner_any (a : Nat) (ha : a < 4294967296) (b : Int) (w : World) : Calls Tryz.prog 68 #[.int .u32 a, .int .i64 b] w (SomeB w) := by
  have Ha := hid ha
  clear ha
  go_enter Tryz.func68, Tryz.ntmps68
  go_wp2_with fail
  go_loop [5, 6, 7, 8] (fun v5 v6 v7 v8 => InI v5 v6 v7 v8) (fun _ _ _ v8 => 33 - (intOf v8).toNat)
  case atStart => exact ⟨0, 0, true, true, by omega, by omega, rfl, rfl, rfl, rfl⟩
  case round =>
    obtain ⟨i, n, x, y, hi, hn, rfl, rfl, rfl, rfl⟩ := hrel
    by_cases hlt : i < 32
    · by_cases hb : (i : Int) < b
      · go_wp2
        go_round
        case rel => exact ⟨i + 1, n, x, y, by omega, by omega, rfl, rfl, rfl, by go_num⟩
        case measure => simp [intOf]; omega
      · have b1 := bit_of a (31 - i) Ha.out
        have hk : (31 - (i : Int)).toNat = 31 - i := by omega
        obtain ⟨q, hq⟩ : ∃ q, q = a / 2 ^ (31 - i) % 2 := ⟨_, rfl⟩
        rw [← hq] at b1
        by_cases hq1 : q = 1
        · subst hq1
          clear hq hk
          go_wp2
          go_round
          case rel => exact ⟨i + 1, n + 1, false, y, by omega, by omega, by go_num, rfl, rfl, by go_num⟩
          case measure => simp [intOf]; omega
        · have hne : (((q : Nat) : Int) == 1) = false := by rw [beq_eq_false_iff_ne]; omega
          clear hq hk
          go_wp2
          go_round
          case rel => exact ⟨i + 1, n + 1, x, false, by omega, by omega, by go_num, rfl, rfl, by go_num⟩
          case measure => simp [intOf]; omega
    · go_wp2
      all_goals
        go_ret
        exact ⟨_, rfl, rfl⟩
def SomeC (w : World) (e : Ending) (w' : World) : Prop := ∃ b, e = .returned (.bool b) ∧ w.grownBy w' none
set_option maxHeartbeats 2000000 in
theorem host_any (cs : Array Value) (x : Cfv) (a : Nat) (ha : a < 4294967296) (hc : CfAll cs x) (w : World) : Calls Tryz.prog 70 #[.agg cs, .int .u32 a] w (SomeC w) := by
  have h18 := hc.c18
  have h20 := hc.c20
  have hl := hc.hl
  clear hc
  go_enter Tryz.func70, Tryz.ntmps70
  go_wp2_with fail
  refine (ckwithin_any a x.lan ha hl x.bits _).mono ?_
  rintro e w' ⟨rfl, rfl⟩
  cases withinB a x.lan x.bits with
  | false =>
    go_wp2
    go_ret
    exact ⟨_, rfl, World.grownBy_alloc w _ none⟩
  | true =>
    by_cases hne : (a : Int) = (x.lan : Int)
    · have hne2 : ((a : Int) != (x.lan : Int)) = false := by simpa using hne
      clear hne
      go_wp2
      go_ret
      exact ⟨_, rfl, World.grownBy_alloc w _ none⟩
    · have hne2 : ((a : Int) != (x.lan : Int)) = true := by simpa using hne
      clear hne
      go_wp2_with fail
      refine (inner_any a ha x.bits _).mono ?_
      rintro e w' ⟨b, rfl, rfl⟩
      go_wp2
      go_ret
      exact ⟨_, rfl, World.grownBy_alloc w _ none⟩
def UuB (w : World) (s : List UInt8) (e : Ending) (w' : World) : Prop := ∃ b, e = .returned (.bool b) ∧ w = w' ∧ (b = true → s.length = 36 ∧ ∀ c ∈ s, 33 ≤ c.toNat ∧ c.toNat ≤ 126)
def UuI (s : List UInt8) (v3 : Value) : Prop := ∃ k : Nat, k ≤ 36 ∧ v3 = .int .i64 (k : Int) ∧ ∀ c ∈ s.take k, 33 ≤ c.toNat ∧ c.toNat ≤ 126
theorem uu_next {s : List UInt8} {k : Nat} (h : ∀ c ∈ s.take k, 33 ≤ c.toNat ∧ c.toNat ≤ 126) (hk : k < s.length) (hc : 33 ≤ (s.getD k 0).toNat ∧ (s.getD k 0).toNat ≤ 126) : ∀ c ∈ s.take (k + 1), 33 ≤ c.toNat ∧ c.toNat ≤ 126 := by
  intro c hm
  rw [List.take_add_one, List.getElem?_eq_getElem hk] at hm
  rcases List.mem_append.1 hm with hm | hm
  · exact h c hm
  · simp at hm
    rw [List.getD_eq_getElem?_getD, List.getElem?_eq_getElem hk] at hc
    rw [hm]; exact hc
set_option maxRecDepth 20000 in
set_option maxHeartbeats 4000000 in
theorem uuid_any (s : ByteArray) (w : World) (hs : s.size ≤ 9223372036854775807) : Calls Tryz.prog 71 #[.string s] w (UuB w s.data.toList) := by
  obtain ⟨t, ht⟩ : ∃ t, s.data.toList = t := ⟨_, rfl⟩
  have hlen : s.size = t.length := by rw [← ht, ← Lib.size_eq]
  have HSTR := hid (show ∀ k (h : k < s.size), s[k]'h = t.getD k 0 by rw [← ht]; exact strAt s)
  rw [ht]
  clear ht
  by_cases h36 : s.size = 36
  · have H36 := hid (show t.length = 36 by omega)
    have hz1 : ((s.size : Int) != 36) = false := by simp; omega
    have hle : 36 ≤ s.size := by omega
    have HLE := hid h36
    clear h36 hlen
    go_enter Tryz.func71, Tryz.ntmps71
    go_wp2_with fail
    go_loop [3] (fun v3 => UuI t v3) (fun v3 => 37 - (intOf v3).toNat)
    case atStart => exact ⟨0, by omega, rfl, fun c h => by simp at h⟩
    case round =>
      obtain ⟨k, hk, rfl, hv⟩ := hrel
      have HV := hid hv
      clear hv
      by_cases hlt : k < 36
      · have hc : s[k]'(by omega) = t.getD k 0 := HSTR.out k (by omega)
        have HNX := hid (fun h => uu_next HV.out (by rw [H36.out]; exact hlt) h)
        obtain ⟨c, hcd⟩ : ∃ c, c = t.getD k 0 := ⟨_, rfl⟩
        rw [← hcd] at hc HNX
        clear hcd
        have hc8 := UInt8.toNat_lt c
        by_cases hd : k = 8 ∨ k = 13 ∨ k = 18 ∨ k = 23
        · by_cases h45 : (c.toNat : Int) = 45
          · have e45 : ((c.toNat : Int) == 45) = true := by simpa using h45
            rcases hd with rfl | rfl | rfl | rfl
            all_goals
              go_wp2
              all_goals
                go_round
                case rel => exact ⟨_, by omega, by first | rfl | go_num, HNX.out (by omega)⟩
                case measure => simp [intOf]
          · have e45 : ((c.toNat : Int) == 45) = false := by simpa using h45
            rcases hd with rfl | rfl | rfl | rfl
            all_goals
              go_wp2
              all_goals
                go_ret
                exact ⟨false, rfl, rfl, fun h => by cases h⟩
        · have n8 : ((k : Int) == 8) = false := by rw [beq_eq_false_iff_ne]; omega
          have n13 : ((k : Int) == 13) = false := by rw [beq_eq_false_iff_ne]; omega
          have n18 : ((k : Int) == 18) = false := by rw [beq_eq_false_iff_ne]; omega
          have n23 : ((k : Int) == 23) = false := by rw [beq_eq_false_iff_ne]; omega
          clear hd
          by_cases h45 : (c.toNat : Int) = 45
          · have e45 : ((c.toNat : Int) == 45) = true := by simpa using h45
            go_wp2
            all_goals
              go_ret
              exact ⟨false, rfl, rfl, fun h => by cases h⟩
          · have e45 : ((c.toNat : Int) == 45) = false := by simpa using h45
            clear HV H36 HLE HSTR
            go_wp2
            all_goals first
              | (go_ret; exact ⟨false, rfl, rfl, fun h => by cases h⟩)
              | (go_round
                 case rel => exact ⟨k + 1, by omega, by go_num, HNX.out (by first | omega | (simp_all; omega))⟩
                 case measure => simp [intOf]; omega)
      · obtain rfl : k = 36 := by omega
        have HT := hid (show t.take 36 = t from List.take_of_length_le (by rw [H36.out]; exact Nat.le_refl _))
        go_wp2
        go_ret
        exact ⟨true, rfl, rfl, fun _ => ⟨H36.out, fun c hc => HV.out c (by rw [HT.out]; exact hc)⟩⟩
  · have hz1 : ((s.size : Int) != 36) = true := by simp; omega
    clear hlen
    go_enter Tryz.func71, Tryz.ntmps71
    go_wp2
    go_ret
    exact ⟨false, rfl, rfl, fun h => by cases h⟩
end Go.Proofs.YtmofnoconhgjmaaGreatDoor
/- hearthref09.Check: 0 tells that the UUID is one. -/
namespace Go.Proofs.YtmofnoconhgjmaaGreatDoor
open Go.RowKit

def CheckPost (w : World) (u : List UInt8) (e : Ending) (w' : World) : Prop :=
  ∃ r, e = .returned (.int .i64 r) ∧ (r = 0 → u.length = 36 ∧ ∀ c ∈ u, 33 ≤ c.toNat ∧ c.toNat ≤ 126) ∧ w.grownBy w' none
theorem check_no {w w' : World} {u : List UInt8} (g : w.grownBy w' none) : CheckPost w u (.returned (.int .i64 40)) w' := ⟨40, rfl, (fun h => absurd h (by decide)), g⟩
def CkI (w : World) (bc : Nat) (cs : Array Value) (fa : Option Addr) (fl : Nat) (v3 : Value) (wr : World) : Prop :=
  ∃ i : Nat, i ≤ fl ∧ v3 = .int .i64 (i : Int) ∧ w.grownBy wr none ∧ wr.heap[bc]? = some (.cells cs 51 (0, 0)) ∧ FwK wr fa fl
def CkJ (w5 : World) (i : Nat) (v5 : Value) (wx : World) : Prop := ∃ k : Nat, k ≤ i ∧ v5 = .int .i64 (k : Int) ∧ w5.grownBy wx none
section
variable {P : Program} {ops : Array Oper} {rest : List Oper} {o : Oper} {a : Act} {w : World} {Q : Exit → Act → World → Prop}
/-- A whole struct is read, behind a guard. -/
theorem wpl_load_row_g (ty : TypeId) (x : Operand) (ho : o.op = .load ty x) (hw : Region.wanted o (yielded ops a.tmps) = true)
    (g : Nat) (hx : a.eval x = .pointer (some ⟨g, 0, none⟩)) (t : TypeId) (cs : Array Value) (fr : Nat × Nat) (d : TypeDesc) (hg : w.heap[g]? = some (.cells cs t fr))
    (hu : P.underlying ty = some d) (hd : (match d with | .struct _ | .array _ _ => true | _ => false) = true) (hi : (P.info? ty).map (·.size) = some cs.size)
    (h : wpList P ops Q rest (a.put o.dst (.agg cs)) w) : wpList P ops Q (o :: rest) a w := by
  show (if Region.wanted o (yielded ops a.tmps) then o.wp P a w (wpList P ops Q rest) Q ∨ (o.asks P a w ∧ LetsOut Q) else wpList P ops Q rest (a.put o.dst undef) w)
  rw [if_pos hw]
  exact .inl (wp_load_row ty x ho g hx t cs fr d hg hu hd hi h)
end
set_option maxRecDepth 100000 in
set_option maxHeartbeats 8000000 in
theorem check_any (cs : Array Value) (x : Cfv) (w : World) (hc : CfAll cs x) (hf : FwK w x.fa x.fl) (hu : x.u.length ≤ 9223372036854775807) :
    Calls Tryz.prog 33 #[.agg cs] w (CheckPost w x.u) := by
  obtain ⟨m1, m2, m3, lan, wan, dmz, bits, n1, n2, n3, n4, fa, fl, fc, u⟩ := x
  have HC := hid hc
  have HF := hid hf
  have hl : lan < 4294967296 := hc.hl
  have hw : wan < 4294967296 := hc.hw
  have hd : dmz < 4294967296 := hc.hd
  have HL := hid hl
  have HW := hid hw
  have HD := hid hd
  have c0 : cs[0]? = some (.int .u8 (m1 : Int)) := hc.c0
  have c6 : cs[6]? = some (.int .u8 (m2 : Int)) := hc.c6
  have c12 : cs[12]? = some (.int .u8 (m3 : Int)) := hc.c12
  have c18 : cs[18]? = some (.int .u32 (lan : Int)) := hc.c18
  have c19 : cs[19]? = some (.int .u32 (wan : Int)) := hc.c19
  have c20 : cs[20]? = some (.int .i64 bits) := hc.c20
  have c21 : cs[21]? = some (.int .i64 n1) := hc.c21
  have c22 : cs[22]? = some (.int .i64 n2) := hc.c22
  have c23 : cs[23]? = some (.int .i64 n3) := hc.c23
  have c24 : cs[24]? = some (.int .i64 n4) := hc.c24
  have G0 := hid (World.grownBy_alloc w (.cells cs 51) none)
  clear hc hf hl hw hd
  dsimp only at hu ⊢
  go_enter Tryz.func33, Tryz.ntmps33
  go_upto_region 9 with (first
    | ((with_reducible refine (inner_any lan HL.out bits _).mono ?_); rintro e w' ⟨b1, rfl, rfl⟩)
    | ((with_reducible refine (ckwithin_any wan lan HW.out HL.out bits _).mono ?_); rintro e w' ⟨rfl, rfl⟩))
  all_goals first
    | (go_ret; exact check_no G0.out)
    | skip
  clear c0 c6 c12 c18 c19 c20 c21 c22 c23 c24
  obtain ⟨w1, hw1⟩ : ∃ x, w.alloc (.cells cs 51) = x := ⟨_, rfl⟩
  have hcb : w1.heap[w.heap.size]? = some (.cells cs 51 (0, 0)) := by rw [← hw1]; exact heap_alloc_new w _
  rw [hw1] at G0 ⊢
  obtain ⟨bc, hbc⟩ : ∃ x, x = w.heap.size := ⟨_, rfl⟩
  rw [← hbc] at hcb ⊢
  clear hw1 hbc
  have HCB := hid hcb
  have q25 := (cell_of_block hcb 25).trans HC.out.c25
  have q26 := (cell_of_block hcb 26).trans HC.out.c26
  have q27 := (cell_of_block hcb 27).trans HC.out.c27
  have HF1 := hid (HF.out.grow G0.out)
  have HSZ28 := hid (show (Tryz.prog.info? 51).map (·.size) = some cs.size by rw [HC.out.sz]; kernel_rfl)
  dsimp only at q25 q26 q27 HF1
  clear hcb
  by_cases h32 : (fl : Int) ≤ 32
  · by_cases hdz : (dmz : Int) = 0
    · have hdz2 : ((dmz : Int) != 0) = false := by simpa using hdz
      clear hdz
      obtain ⟨w2, rfl⟩ : ∃ w2, w2 = w1 := ⟨_, rfl⟩
      have HCB2 := HCB
      have G2 := G0
      go_wp2_with ((with_reducible refine (uuid_any ⟨u.toArray⟩ _ (by rw [Lib.size_eq]; simpa using hu)).mono ?_); rintro e w' ⟨b3, rfl, rfl, hb3⟩; have HB3 := hid hb3; clear hb3)
      all_goals first
        | (go_ret; exact check_no G2.out)
        | skip
      clear HF1 q26 q27 hdz2
      have HF2 := hid (HF.out.grow G2.out)
      try dsimp only at HF2
      have hbt : b3 = true := by cases b3 <;> simp_all
      have HB5 := hid (HB3.out hbt)
      clear HB3
      subst hbt
      rw [Bool.not_true]
      repeat rw [Bool.or_false]
      go_loopw [3] (fun v3 wr => CkI w bc cs fa fl v3 wr) (fun v3 _ => fl - (intOf v3).toNat)
      case atStart => exact ⟨0, Nat.zero_le _, rfl, G2.out, HCB2.out, HF2.out⟩
      case round =>
        obtain ⟨i, hi, rfl, gw, hcb3, hf3⟩ := hrel
        have q25' := (cell_of_block hcb3 25).trans HC.out.c25
        try dsimp only at q25'
        clear q25
        have HCB3 := hid hcb3
        have GW := hid gw
        by_cases hlt : i < fl
        · rcases hf3 with h0 | ⟨b, o, rfl, hfw⟩
          · omega
          obtain ⟨p, q, r, h, e1, e2, e3, e4, e5⟩ := hfw i hlt
          have HFW := hid hfw
          have HFL := hid hlt
          have HE5 := hid e5
          have hii : (i : Int) < (fl : Int) := by omega
          have hcb4 := hid (fun o => gr_keep (World.grownBy_alloc wr o none) HCB3.out (by simp))
          clear hfw hcb3 gw hi HF2 HF e5
          by_cases hp6 : (p : Int) = 6
          · have hp7 : ((p : Int) != 6) = false := by simpa using hp6
            clear hp6
            by_cases hq0 : (q : Int) = 0
            · have hq1 : ((q : Int) == 0) = true := by simpa using hq0
              clear hq0
              go_wp2_with fail
              go_ret
              exact check_no (gr_alloc GW.out _)
            · have hq1 : ((q : Int) == 0) = false := by simpa using hq0
              clear hq0
              by_cases hr0 : (r : Int) = 0
              · have hr1 : ((r : Int) == 0) = true := by simpa using hr0
                clear hr0
                go_wp2_with fail
                go_ret
                exact check_no (gr_alloc GW.out _)
              · have hr1 : ((r : Int) == 0) = false := by simpa using hr0
                clear hr0
                go_wp2_with (first
                  | ((with_reducible refine wpl_load_row_g (o := ⟨some 149, _, _, _, _, _⟩) 51 (.tmp 1) rfl ?hwlx bc ?hxlx 51 cs (0, 0) _ (hcb4.out _) Tryz.underlying51 ?hdlx HSZ28.out ?hmlx); (case hwlx => rfl); (case hxlx => rfl); (case hdlx => rfl))
                  | ((with_reducible refine (host_any cs _ h HE5.out HC.out _).mono ?_); rintro e w5 ⟨b4, rfl, g5⟩; have G5 := hid g5; clear g5))
                all_goals first
                  | (go_ret; exact check_no (gr_trans (gr_alloc GW.out _) G5.out))
                  | skip
                have hfb := gr_keep G5.out (heap_alloc_new wr (.cells #[.int .u8 (p : Int), .int .u16 (q : Int), .int .u16 (r : Int), .int .u32 (h : Int)] 148)) (by simp)
                have HFB := hid hfb
                have HCB5 := hid (gr_keep G5.out (hcb4.out (.cells #[.int .u8 (p : Int), .int .u16 (q : Int), .int .u16 (r : Int), .int .u32 (h : Int)] 148)) (by simp))
                have G6 := hid (gr_trans (gr_alloc GW.out (.cells #[.int .u8 (p : Int), .int .u16 (q : Int), .int .u16 (r : Int), .int .u32 (h : Int)] 148)) G5.out)
                have HFW5 := hid (fun j (hj : j < fl) => (HFW.out j hj).imp fun p1 h1 => h1.imp fun q1 h2 => h2.imp fun r1 h3 => h3.imp fun a1 h4 => (⟨G5.out.cell ((World.grownBy_alloc wr _ none).cell h4.1 (by simp)) (by simp), G5.out.cell ((World.grownBy_alloc wr _ none).cell h4.2.1 (by simp)) (by simp)⟩ : w5.cell? ⟨b, o + j * 4, none⟩ = some (.int .u8 (p1 : Int)) ∧ w5.cell? ⟨b, o + j * 4 + 1, none⟩ = some (.int .u16 (q1 : Int))))
                have HFX := hid (((show FwK wr (some ⟨b, o, none⟩) fl from .inr ⟨b, o, rfl, HFW.out⟩).grow (World.grownBy_alloc wr (.cells #[.int .u8 (p : Int), .int .u16 (q : Int), .int .u16 (r : Int), .int .u32 (h : Int)] 148) none)).grow G5.out)
                obtain ⟨bf, hbf⟩ : ∃ x, x = wr.heap.size := ⟨_, rfl⟩
                rw [← hbf] at HFB ⊢
                clear hfb hbf e1 e2 e3 e4 q25'
                have hi9 : i ≤ 32 := by omega
                go_loopw [5] (fun v5 wx => CkJ w5 i v5 wx) (fun v5 _ => i - (intOf v5).toNat)
                case atStart => exact ⟨0, Nat.zero_le _, rfl, gr_refl _ _⟩
                case round =>
                  obtain ⟨k, hk, rfl, gx⟩ := hrel
                  by_cases hkl : k < i
                  · obtain ⟨p1, q1, r1, a1, e1, e2⟩ := HFW5.out k (by have := HFL.out; omega)
                    have d1 := gx.cell e1 (by simp)
                    have d2 := gx.cell e2 (by simp)
                    have f0 := (cell_of_block (gr_keep gx HFB.out (by simp)) 0).trans (show _ = some (Value.int .u8 (p : Int)) from rfl)
                    have f1 := (cell_of_block (gr_keep gx HFB.out (by simp)) 1).trans (show _ = some (Value.int .u16 (q : Int)) from rfl)
                    have q25x := (cell_of_block (gr_keep gx HCB5.out (by simp)) 25).trans HC.out.c25
                    try dsimp only at q25x
                    have GX := hid gx
                    have hki : (k : Int) < (fl : Int) := by have := HFL.out; omega
                    have hkn : k < fl := by have := HFL.out; omega
                    clear e1 e2 gx
                    by_cases hpp : (p1 : Int) = (p : Int)
                    · have hpe : ((p1 : Int) == (p : Int)) = true := by simpa using hpp
                      clear hpp
                      by_cases hqq : (q1 : Int) = (q : Int)
                      · have hqe : ((q1 : Int) == (q : Int)) = true := by simpa using hqq
                        clear hqq
                        go_wp2_with fail
                        go_quiet (fail)
                        go_wp2_with fail
                        go_ret
                        exact check_no (gr_trans G6.out (gr_drewN _ GX.out))
                      · have hqe : ((q1 : Int) == (q : Int)) = false := by simpa using hqq
                        clear hqq
                        go_wp2_with fail
                        go_quiet (fail)
                        go_wp2_with fail
                        go_roundw
                        case rel => exact ⟨k + 1, by omega, by go_num, gr_drewN _ GX.out⟩
                        case measure => simp [intOf]; omega
                    · have hpe : ((p1 : Int) == (p : Int)) = false := by simpa using hpp
                      clear hpp
                      go_wp2_with fail
                      go_quiet (fail)
                      go_wp2_with fail
                      go_roundw
                      case rel => exact ⟨k + 1, by omega, by go_num, gr_drewN _ GX.out⟩
                      case measure => simp [intOf]; omega
                  · obtain rfl : k = i := by omega
                    have hcx := gr_keep gx HCB5.out (by simp)
                    have G7 := hid (gr_trans G6.out gx)
                    go_wp2_with fail
                    go_roundw
                    case rel => first
                      | exact ⟨k + 1, by have := HFL.out; omega, by go_num, G7.out, hcx, HFX.out.grow gx⟩
                      | ((repeat apply Exists.intro); exact ⟨⟨k + 1, by have := HFL.out; omega, by go_num, G7.out, hcx, HFX.out.grow gx⟩, rfl⟩)
                    case measure => simp [intOf]; omega
          · have hp7 : ((p : Int) != 6) = true := by simpa using hp6
            clear hp6
            by_cases hp17 : (p : Int) = 17
            · have hp18 : ((p : Int) != 17) = false := by simpa using hp17
              clear hp17
              by_cases hq0 : (q : Int) = 0
              · have hq1 : ((q : Int) == 0) = true := by simpa using hq0
                clear hq0
                go_wp2_with fail
                go_ret
                exact check_no (gr_alloc GW.out _)
              · have hq1 : ((q : Int) == 0) = false := by simpa using hq0
                clear hq0
                by_cases hr0 : (r : Int) = 0
                · have hr1 : ((r : Int) == 0) = true := by simpa using hr0
                  clear hr0
                  go_wp2_with fail
                  go_ret
                  exact check_no (gr_alloc GW.out _)
                · have hr1 : ((r : Int) == 0) = false := by simpa using hr0
                  clear hr0
                  go_wp2_with (first
                    | ((with_reducible refine wpl_load_row_g (o := ⟨some 149, _, _, _, _, _⟩) 51 (.tmp 1) rfl ?hwly bc ?hxly 51 cs (0, 0) _ (hcb4.out _) Tryz.underlying51 ?hdly HSZ28.out ?hmly); (case hwly => rfl); (case hxly => rfl); (case hdly => rfl))
                    | ((with_reducible refine (host_any cs _ h HE5.out HC.out _).mono ?_); rintro e w5 ⟨b4, rfl, g5⟩; have G5 := hid g5; clear g5))
                  all_goals first
                    | (go_ret; exact check_no (gr_trans (gr_alloc GW.out _) G5.out))
                    | skip
                  have hfb := gr_keep G5.out (heap_alloc_new wr (.cells #[.int .u8 (p : Int), .int .u16 (q : Int), .int .u16 (r : Int), .int .u32 (h : Int)] 148)) (by simp)
                  have HFB := hid hfb
                  have HCB5 := hid (gr_keep G5.out (hcb4.out (.cells #[.int .u8 (p : Int), .int .u16 (q : Int), .int .u16 (r : Int), .int .u32 (h : Int)] 148)) (by simp))
                  have G6 := hid (gr_trans (gr_alloc GW.out (.cells #[.int .u8 (p : Int), .int .u16 (q : Int), .int .u16 (r : Int), .int .u32 (h : Int)] 148)) G5.out)
                  have HFW5 := hid (fun j (hj : j < fl) => (HFW.out j hj).imp fun p1 h1 => h1.imp fun q1 h2 => h2.imp fun r1 h3 => h3.imp fun a1 h4 => (⟨G5.out.cell ((World.grownBy_alloc wr _ none).cell h4.1 (by simp)) (by simp), G5.out.cell ((World.grownBy_alloc wr _ none).cell h4.2.1 (by simp)) (by simp)⟩ : w5.cell? ⟨b, o + j * 4, none⟩ = some (.int .u8 (p1 : Int)) ∧ w5.cell? ⟨b, o + j * 4 + 1, none⟩ = some (.int .u16 (q1 : Int))))
                  have HFX := hid (((show FwK wr (some ⟨b, o, none⟩) fl from .inr ⟨b, o, rfl, HFW.out⟩).grow (World.grownBy_alloc wr (.cells #[.int .u8 (p : Int), .int .u16 (q : Int), .int .u16 (r : Int), .int .u32 (h : Int)] 148) none)).grow G5.out)
                  obtain ⟨bf, hbf⟩ : ∃ x, x = wr.heap.size := ⟨_, rfl⟩
                  rw [← hbf] at HFB ⊢
                  clear hfb hbf e1 e2 e3 e4 q25'
                  have hi9 : i ≤ 32 := by omega
                  go_loopw [5] (fun v5 wx => CkJ w5 i v5 wx) (fun v5 _ => i - (intOf v5).toNat)
                  case atStart => exact ⟨0, Nat.zero_le _, rfl, gr_refl _ _⟩
                  case round =>
                    obtain ⟨k, hk, rfl, gx⟩ := hrel
                    by_cases hkl : k < i
                    · obtain ⟨p1, q1, r1, a1, e1, e2⟩ := HFW5.out k (by have := HFL.out; omega)
                      have d1 := gx.cell e1 (by simp)
                      have d2 := gx.cell e2 (by simp)
                      have f0 := (cell_of_block (gr_keep gx HFB.out (by simp)) 0).trans (show _ = some (Value.int .u8 (p : Int)) from rfl)
                      have f1 := (cell_of_block (gr_keep gx HFB.out (by simp)) 1).trans (show _ = some (Value.int .u16 (q : Int)) from rfl)
                      have q25x := (cell_of_block (gr_keep gx HCB5.out (by simp)) 25).trans HC.out.c25
                      try dsimp only at q25x
                      have GX := hid gx
                      have hki : (k : Int) < (fl : Int) := by have := HFL.out; omega
                      have hkn : k < fl := by have := HFL.out; omega
                      clear e1 e2 gx
                      by_cases hpp : (p1 : Int) = (p : Int)
                      · have hpe : ((p1 : Int) == (p : Int)) = true := by simpa using hpp
                        clear hpp
                        by_cases hqq : (q1 : Int) = (q : Int)
                        · have hqe : ((q1 : Int) == (q : Int)) = true := by simpa using hqq
                          clear hqq
                          go_wp2_with fail
                          go_quiet (fail)
                          go_wp2_with fail
                          go_ret
                          exact check_no (gr_trans G6.out (gr_drewN _ GX.out))
                        · have hqe : ((q1 : Int) == (q : Int)) = false := by simpa using hqq
                          clear hqq
                          go_wp2_with fail
                          go_quiet (fail)
                          go_wp2_with fail
                          go_roundw
                          case rel => exact ⟨k + 1, by omega, by go_num, gr_drewN _ GX.out⟩
                          case measure => simp [intOf]; omega
                      · have hpe : ((p1 : Int) == (p : Int)) = false := by simpa using hpp
                        clear hpp
                        go_wp2_with fail
                        go_quiet (fail)
                        go_wp2_with fail
                        go_roundw
                        case rel => exact ⟨k + 1, by omega, by go_num, gr_drewN _ GX.out⟩
                        case measure => simp [intOf]; omega
                    · obtain rfl : k = i := by omega
                      have hcx := gr_keep gx HCB5.out (by simp)
                      have G7 := hid (gr_trans G6.out gx)
                      go_wp2_with fail
                      go_roundw
                      case rel => first
                        | exact ⟨k + 1, by have := HFL.out; omega, by go_num, G7.out, hcx, HFX.out.grow gx⟩
                        | ((repeat apply Exists.intro); exact ⟨⟨k + 1, by have := HFL.out; omega, by go_num, G7.out, hcx, HFX.out.grow gx⟩, rfl⟩)
                      case measure => simp [intOf]; omega
            · have hp18 : ((p : Int) != 17) = true := by simpa using hp17
              clear hp17
              go_wp2_with fail
              go_ret
              exact check_no (gr_alloc GW.out _)
        · obtain rfl : i = fl := by omega
          go_wp2_with fail
          go_ret
          exact ⟨0, rfl, (fun _ => HB5.out), GW.out⟩
    · have hdz2 : ((dmz : Int) != 0) = true := by simpa using hdz
      clear hdz
      go_wp2_with (first
        | ((with_reducible refine wpl_load_row_g (o := ⟨some 105, _, _, _, _, _⟩) 51 (.tmp 1) rfl ?hwz bc ?hxz 51 cs (0, 0) _ HCB.out Tryz.underlying51 ?hdz9 HSZ28.out ?hmz); (case hwz => rfl); (case hxz => rfl); (case hdz9 => rfl))
        | ((with_reducible refine (host_any cs _ dmz HD.out HC.out _).mono ?_); rintro e w2 ⟨b4, rfl, g2⟩; have hcb2 := gr_keep g2 HCB.out (by simp); have q27x := (cell_of_block hcb2 27).trans HC.out.c27; (try dsimp only at q27x); have G2 := hid (gr_trans G0.out g2); have HCB2 := hid hcb2; clear hcb2 g2)
        | ((with_reducible refine (uuid_any ⟨u.toArray⟩ _ (by rw [Lib.size_eq]; simpa using hu)).mono ?_); rintro e w' ⟨b3, rfl, rfl, hb3⟩; have HB3 := hid hb3; clear hb3))
      all_goals first
        | (go_ret; exact check_no G2.out)
        | skip
      have hb4t : b4 = true := by cases b4 <;> simp_all
      subst hb4t
      clear q27x
      clear HF1 q26 q27 hdz2
      have HF2 := hid (HF.out.grow G2.out)
      try dsimp only at HF2
      have hbt : b3 = true := by cases b3 <;> simp_all
      have HB5 := hid (HB3.out hbt)
      clear HB3
      subst hbt
      rw [Bool.not_true]
      repeat rw [Bool.or_false]
      go_loopw [3] (fun v3 wr => CkI w bc cs fa fl v3 wr) (fun v3 _ => fl - (intOf v3).toNat)
      case atStart => exact ⟨0, Nat.zero_le _, rfl, G2.out, HCB2.out, HF2.out⟩
      case round =>
        obtain ⟨i, hi, rfl, gw, hcb3, hf3⟩ := hrel
        have q25' := (cell_of_block hcb3 25).trans HC.out.c25
        try dsimp only at q25'
        clear q25
        have HCB3 := hid hcb3
        have GW := hid gw
        by_cases hlt : i < fl
        · rcases hf3 with h0 | ⟨b, o, rfl, hfw⟩
          · omega
          obtain ⟨p, q, r, h, e1, e2, e3, e4, e5⟩ := hfw i hlt
          have HFW := hid hfw
          have HFL := hid hlt
          have HE5 := hid e5
          have hii : (i : Int) < (fl : Int) := by omega
          have hcb4 := hid (fun o => gr_keep (World.grownBy_alloc wr o none) HCB3.out (by simp))
          clear hfw hcb3 gw hi HF2 HF e5
          by_cases hp6 : (p : Int) = 6
          · have hp7 : ((p : Int) != 6) = false := by simpa using hp6
            clear hp6
            by_cases hq0 : (q : Int) = 0
            · have hq1 : ((q : Int) == 0) = true := by simpa using hq0
              clear hq0
              go_wp2_with fail
              go_ret
              exact check_no (gr_alloc GW.out _)
            · have hq1 : ((q : Int) == 0) = false := by simpa using hq0
              clear hq0
              by_cases hr0 : (r : Int) = 0
              · have hr1 : ((r : Int) == 0) = true := by simpa using hr0
                clear hr0
                go_wp2_with fail
                go_ret
                exact check_no (gr_alloc GW.out _)
              · have hr1 : ((r : Int) == 0) = false := by simpa using hr0
                clear hr0
                go_wp2_with (first
                  | ((with_reducible refine wpl_load_row_g (o := ⟨some 149, _, _, _, _, _⟩) 51 (.tmp 1) rfl ?hwmx bc ?hxmx 51 cs (0, 0) _ (hcb4.out _) Tryz.underlying51 ?hdmx HSZ28.out ?hmmx); (case hwmx => rfl); (case hxmx => rfl); (case hdmx => rfl))
                  | ((with_reducible refine (host_any cs _ h HE5.out HC.out _).mono ?_); rintro e w5 ⟨b4, rfl, g5⟩; have G5 := hid g5; clear g5))
                all_goals first
                  | (go_ret; exact check_no (gr_trans (gr_alloc GW.out _) G5.out))
                  | skip
                have hfb := gr_keep G5.out (heap_alloc_new wr (.cells #[.int .u8 (p : Int), .int .u16 (q : Int), .int .u16 (r : Int), .int .u32 (h : Int)] 148)) (by simp)
                have HFB := hid hfb
                have HCB5 := hid (gr_keep G5.out (hcb4.out (.cells #[.int .u8 (p : Int), .int .u16 (q : Int), .int .u16 (r : Int), .int .u32 (h : Int)] 148)) (by simp))
                have G6 := hid (gr_trans (gr_alloc GW.out (.cells #[.int .u8 (p : Int), .int .u16 (q : Int), .int .u16 (r : Int), .int .u32 (h : Int)] 148)) G5.out)
                have HFW5 := hid (fun j (hj : j < fl) => (HFW.out j hj).imp fun p1 h1 => h1.imp fun q1 h2 => h2.imp fun r1 h3 => h3.imp fun a1 h4 => (⟨G5.out.cell ((World.grownBy_alloc wr _ none).cell h4.1 (by simp)) (by simp), G5.out.cell ((World.grownBy_alloc wr _ none).cell h4.2.1 (by simp)) (by simp)⟩ : w5.cell? ⟨b, o + j * 4, none⟩ = some (.int .u8 (p1 : Int)) ∧ w5.cell? ⟨b, o + j * 4 + 1, none⟩ = some (.int .u16 (q1 : Int))))
                have HFX := hid (((show FwK wr (some ⟨b, o, none⟩) fl from .inr ⟨b, o, rfl, HFW.out⟩).grow (World.grownBy_alloc wr (.cells #[.int .u8 (p : Int), .int .u16 (q : Int), .int .u16 (r : Int), .int .u32 (h : Int)] 148) none)).grow G5.out)
                obtain ⟨bf, hbf⟩ : ∃ x, x = wr.heap.size := ⟨_, rfl⟩
                rw [← hbf] at HFB ⊢
                clear hfb hbf e1 e2 e3 e4 q25'
                have hi9 : i ≤ 32 := by omega
                go_loopw [5] (fun v5 wx => CkJ w5 i v5 wx) (fun v5 _ => i - (intOf v5).toNat)
                case atStart => exact ⟨0, Nat.zero_le _, rfl, gr_refl _ _⟩
                case round =>
                  obtain ⟨k, hk, rfl, gx⟩ := hrel
                  by_cases hkl : k < i
                  · obtain ⟨p1, q1, r1, a1, e1, e2⟩ := HFW5.out k (by have := HFL.out; omega)
                    have d1 := gx.cell e1 (by simp)
                    have d2 := gx.cell e2 (by simp)
                    have f0 := (cell_of_block (gr_keep gx HFB.out (by simp)) 0).trans (show _ = some (Value.int .u8 (p : Int)) from rfl)
                    have f1 := (cell_of_block (gr_keep gx HFB.out (by simp)) 1).trans (show _ = some (Value.int .u16 (q : Int)) from rfl)
                    have q25x := (cell_of_block (gr_keep gx HCB5.out (by simp)) 25).trans HC.out.c25
                    try dsimp only at q25x
                    have GX := hid gx
                    have hki : (k : Int) < (fl : Int) := by have := HFL.out; omega
                    have hkn : k < fl := by have := HFL.out; omega
                    clear e1 e2 gx
                    by_cases hpp : (p1 : Int) = (p : Int)
                    · have hpe : ((p1 : Int) == (p : Int)) = true := by simpa using hpp
                      clear hpp
                      by_cases hqq : (q1 : Int) = (q : Int)
                      · have hqe : ((q1 : Int) == (q : Int)) = true := by simpa using hqq
                        clear hqq
                        go_wp2_with fail
                        go_quiet (fail)
                        go_wp2_with fail
                        go_ret
                        exact check_no (gr_trans G6.out (gr_drewN _ GX.out))
                      · have hqe : ((q1 : Int) == (q : Int)) = false := by simpa using hqq
                        clear hqq
                        go_wp2_with fail
                        go_quiet (fail)
                        go_wp2_with fail
                        go_roundw
                        case rel => exact ⟨k + 1, by omega, by go_num, gr_drewN _ GX.out⟩
                        case measure => simp [intOf]; omega
                    · have hpe : ((p1 : Int) == (p : Int)) = false := by simpa using hpp
                      clear hpp
                      go_wp2_with fail
                      go_quiet (fail)
                      go_wp2_with fail
                      go_roundw
                      case rel => exact ⟨k + 1, by omega, by go_num, gr_drewN _ GX.out⟩
                      case measure => simp [intOf]; omega
                  · obtain rfl : k = i := by omega
                    have hcx := gr_keep gx HCB5.out (by simp)
                    have G7 := hid (gr_trans G6.out gx)
                    go_wp2_with fail
                    go_roundw
                    case rel => first
                      | exact ⟨k + 1, by have := HFL.out; omega, by go_num, G7.out, hcx, HFX.out.grow gx⟩
                      | ((repeat apply Exists.intro); exact ⟨⟨k + 1, by have := HFL.out; omega, by go_num, G7.out, hcx, HFX.out.grow gx⟩, rfl⟩)
                    case measure => simp [intOf]; omega
          · have hp7 : ((p : Int) != 6) = true := by simpa using hp6
            clear hp6
            by_cases hp17 : (p : Int) = 17
            · have hp18 : ((p : Int) != 17) = false := by simpa using hp17
              clear hp17
              by_cases hq0 : (q : Int) = 0
              · have hq1 : ((q : Int) == 0) = true := by simpa using hq0
                clear hq0
                go_wp2_with fail
                go_ret
                exact check_no (gr_alloc GW.out _)
              · have hq1 : ((q : Int) == 0) = false := by simpa using hq0
                clear hq0
                by_cases hr0 : (r : Int) = 0
                · have hr1 : ((r : Int) == 0) = true := by simpa using hr0
                  clear hr0
                  go_wp2_with fail
                  go_ret
                  exact check_no (gr_alloc GW.out _)
                · have hr1 : ((r : Int) == 0) = false := by simpa using hr0
                  clear hr0
                  go_wp2_with (first
                    | ((with_reducible refine wpl_load_row_g (o := ⟨some 149, _, _, _, _, _⟩) 51 (.tmp 1) rfl ?hwmy bc ?hxmy 51 cs (0, 0) _ (hcb4.out _) Tryz.underlying51 ?hdmy HSZ28.out ?hmmy); (case hwmy => rfl); (case hxmy => rfl); (case hdmy => rfl))
                    | ((with_reducible refine (host_any cs _ h HE5.out HC.out _).mono ?_); rintro e w5 ⟨b4, rfl, g5⟩; have G5 := hid g5; clear g5))
                  all_goals first
                    | (go_ret; exact check_no (gr_trans (gr_alloc GW.out _) G5.out))
                    | skip
                  have hfb := gr_keep G5.out (heap_alloc_new wr (.cells #[.int .u8 (p : Int), .int .u16 (q : Int), .int .u16 (r : Int), .int .u32 (h : Int)] 148)) (by simp)
                  have HFB := hid hfb
                  have HCB5 := hid (gr_keep G5.out (hcb4.out (.cells #[.int .u8 (p : Int), .int .u16 (q : Int), .int .u16 (r : Int), .int .u32 (h : Int)] 148)) (by simp))
                  have G6 := hid (gr_trans (gr_alloc GW.out (.cells #[.int .u8 (p : Int), .int .u16 (q : Int), .int .u16 (r : Int), .int .u32 (h : Int)] 148)) G5.out)
                  have HFW5 := hid (fun j (hj : j < fl) => (HFW.out j hj).imp fun p1 h1 => h1.imp fun q1 h2 => h2.imp fun r1 h3 => h3.imp fun a1 h4 => (⟨G5.out.cell ((World.grownBy_alloc wr _ none).cell h4.1 (by simp)) (by simp), G5.out.cell ((World.grownBy_alloc wr _ none).cell h4.2.1 (by simp)) (by simp)⟩ : w5.cell? ⟨b, o + j * 4, none⟩ = some (.int .u8 (p1 : Int)) ∧ w5.cell? ⟨b, o + j * 4 + 1, none⟩ = some (.int .u16 (q1 : Int))))
                  have HFX := hid (((show FwK wr (some ⟨b, o, none⟩) fl from .inr ⟨b, o, rfl, HFW.out⟩).grow (World.grownBy_alloc wr (.cells #[.int .u8 (p : Int), .int .u16 (q : Int), .int .u16 (r : Int), .int .u32 (h : Int)] 148) none)).grow G5.out)
                  obtain ⟨bf, hbf⟩ : ∃ x, x = wr.heap.size := ⟨_, rfl⟩
                  rw [← hbf] at HFB ⊢
                  clear hfb hbf e1 e2 e3 e4 q25'
                  have hi9 : i ≤ 32 := by omega
                  go_loopw [5] (fun v5 wx => CkJ w5 i v5 wx) (fun v5 _ => i - (intOf v5).toNat)
                  case atStart => exact ⟨0, Nat.zero_le _, rfl, gr_refl _ _⟩
                  case round =>
                    obtain ⟨k, hk, rfl, gx⟩ := hrel
                    by_cases hkl : k < i
                    · obtain ⟨p1, q1, r1, a1, e1, e2⟩ := HFW5.out k (by have := HFL.out; omega)
                      have d1 := gx.cell e1 (by simp)
                      have d2 := gx.cell e2 (by simp)
                      have f0 := (cell_of_block (gr_keep gx HFB.out (by simp)) 0).trans (show _ = some (Value.int .u8 (p : Int)) from rfl)
                      have f1 := (cell_of_block (gr_keep gx HFB.out (by simp)) 1).trans (show _ = some (Value.int .u16 (q : Int)) from rfl)
                      have q25x := (cell_of_block (gr_keep gx HCB5.out (by simp)) 25).trans HC.out.c25
                      try dsimp only at q25x
                      have GX := hid gx
                      have hki : (k : Int) < (fl : Int) := by have := HFL.out; omega
                      have hkn : k < fl := by have := HFL.out; omega
                      clear e1 e2 gx
                      by_cases hpp : (p1 : Int) = (p : Int)
                      · have hpe : ((p1 : Int) == (p : Int)) = true := by simpa using hpp
                        clear hpp
                        by_cases hqq : (q1 : Int) = (q : Int)
                        · have hqe : ((q1 : Int) == (q : Int)) = true := by simpa using hqq
                          clear hqq
                          go_wp2_with fail
                          go_quiet (fail)
                          go_wp2_with fail
                          go_ret
                          exact check_no (gr_trans G6.out (gr_drewN _ GX.out))
                        · have hqe : ((q1 : Int) == (q : Int)) = false := by simpa using hqq
                          clear hqq
                          go_wp2_with fail
                          go_quiet (fail)
                          go_wp2_with fail
                          go_roundw
                          case rel => exact ⟨k + 1, by omega, by go_num, gr_drewN _ GX.out⟩
                          case measure => simp [intOf]; omega
                      · have hpe : ((p1 : Int) == (p : Int)) = false := by simpa using hpp
                        clear hpp
                        go_wp2_with fail
                        go_quiet (fail)
                        go_wp2_with fail
                        go_roundw
                        case rel => exact ⟨k + 1, by omega, by go_num, gr_drewN _ GX.out⟩
                        case measure => simp [intOf]; omega
                    · obtain rfl : k = i := by omega
                      have hcx := gr_keep gx HCB5.out (by simp)
                      have G7 := hid (gr_trans G6.out gx)
                      go_wp2_with fail
                      go_roundw
                      case rel => first
                        | exact ⟨k + 1, by have := HFL.out; omega, by go_num, G7.out, hcx, HFX.out.grow gx⟩
                        | ((repeat apply Exists.intro); exact ⟨⟨k + 1, by have := HFL.out; omega, by go_num, G7.out, hcx, HFX.out.grow gx⟩, rfl⟩)
                      case measure => simp [intOf]; omega
            · have hp18 : ((p : Int) != 17) = true := by simpa using hp17
              clear hp17
              go_wp2_with fail
              go_ret
              exact check_no (gr_alloc GW.out _)
        · obtain rfl : i = fl := by omega
          go_wp2_with fail
          go_ret
          exact ⟨0, rfl, (fun _ => HB5.out), GW.out⟩
  · go_wp2_with fail
    go_ret
    exact check_no G0.out
end Go.Proofs.YtmofnoconhgjmaaGreatDoor
/- hearthlaw21.IgdTells: the walk. -/
namespace Go.Proofs.YtmofnoconhgjmaaGreatDoor
open Go.RowKit
set_option linter.unusedVariables false
set_option linter.unusedSimpArgs false

/-- A whole struct is read. -/
theorem wpl_load_row {P : Program} {ops : Array Oper} {rest : List Oper} {o : Oper} {a : Act} {w : World} {Q : Exit → Act → World → Prop} (hgd : o.guard = none) (ty : TypeId) (x : Operand) (ho : o.op = .load ty x)
    (g : Nat) (hx : a.eval x = .pointer (some ⟨g, 0, none⟩)) (t : TypeId) (cs : Array Value) (fr : Nat × Nat) (d : TypeDesc) (hg : w.heap[g]? = some (.cells cs t fr))
    (hu : P.underlying ty = some d) (hd : (match d with | .struct _ | .array _ _ => true | _ => false) = true) (hi : (P.info? ty).map (·.size) = some cs.size)
    (h : wpList P ops Q rest (a.put o.dst (.agg cs)) w) : wpList P ops Q (o :: rest) a w :=
  wpList_plain hgd fun _ hK => wp_load_row ty x ho g hx t cs fr d hg hu hd hi (hK _ _ h)
def wantC (z : Bs) : Array Value := #[.string ⟨#[85, 68, 78]⟩, .string ⟨z.toArray⟩, .string ⟨#[115, 101, 114, 118, 105, 99, 101, 84, 121, 112, 101]⟩, .string ⟨#[117, 114, 110, 58, 115, 99, 104, 101, 109, 97, 115, 45, 117, 112, 110, 112, 45, 111, 114, 103, 58, 115, 101, 114, 118, 105, 99, 101, 58, 87, 65, 78, 73, 80, 67, 111, 110, 110, 101, 99, 116, 105, 111, 110, 58, 50]⟩, .string ⟨#[83, 67, 80, 68, 85, 82, 76]⟩, .string ⟨#[47, 105, 112, 99, 46, 120, 109, 108]⟩, .string ⟨#[99, 111, 110, 116, 114, 111, 108, 85, 82, 76]⟩, .string ⟨#[47, 99, 116, 108, 47, 105, 112, 99]⟩, .string ⟨#[101, 118, 101, 110, 116, 83, 117, 98, 85, 82, 76]⟩, .string ⟨#[47, 101, 118, 116, 47, 105, 112, 99]⟩]
def wn (k : Nat) : Bs := [[85, 68, 78], [115, 101, 114, 118, 105, 99, 101, 84, 121, 112, 101], [83, 67, 80, 68, 85, 82, 76], [99, 111, 110, 116, 114, 111, 108, 85, 82, 76], [101, 118, 101, 110, 116, 83, 117, 98, 85, 82, 76]].getD k []
def wt (z : Bs) (k : Nat) : Bs := [z, [117, 114, 110, 58, 115, 99, 104, 101, 109, 97, 115, 45, 117, 112, 110, 112, 45, 111, 114, 103, 58, 115, 101, 114, 118, 105, 99, 101, 58, 87, 65, 78, 73, 80, 67, 111, 110, 110, 101, 99, 116, 105, 111, 110, 58, 50], [47, 105, 112, 99, 46, 120, 109, 108], [47, 99, 116, 108, 47, 105, 112, 99], [47, 101, 118, 116, 47, 105, 112, 99]].getD k []
theorem want_rows (z : Bs) : ∀ k, k < 5 → (wantC z)[2 * k]? = some (.string ⟨(wn k).toArray⟩) ∧ (wantC z)[2 * k + 1]? = some (.string ⟨(wt z k).toArray⟩)
  | 0, _ => ⟨rfl, rfl⟩
  | 1, _ => ⟨rfl, rfl⟩
  | 2, _ => ⟨rfl, rfl⟩
  | 3, _ => ⟨rfl, rfl⟩
  | 4, _ => ⟨rfl, rfl⟩
  | k + 5, h => absurd h (by omega)
theorem tx_rows (u z : Bs) (hz : z = [117, 117, 105, 100, 58] ++ u) : ∀ k, k < 5 → txL (wn k) (devE u) = [wt z k]
  | 0, _ => by rw [hz]; exact tx_udn u
  | 1, _ => tx_typ u
  | 2, _ => tx_scpd u
  | 3, _ => tx_ctl u
  | 4, _ => tx_evt u
  | k + 5, h => absurd h (by omega)
theorem dev_sz (u : Bs) : (devE u).kids.sz ≤ 20000 := by show (devF u).sz ≤ 20000; rw [show (devF u).sz = (devF []).sz from rfl]; decide +kernel
theorem dev_cnt (u : Bs) : (devE u).cnt ≤ 64 := by rw [show (devE u).cnt = (devE []).cnt from rfl]; decide +kernel
theorem own_cells {w : World} {N n : Nat} {t : TypeId} {v : Value} {xs : List Value} (h : w.ownsRow N t 1 v n xs) (hn : 0 < n) : ∃ g c, v = .slice (some ⟨g, 0, none⟩) n c ∧ n ≤ c ∧ ∀ j u, xs[j]? = some u → w.cell? ⟨g, j, none⟩ = some u := by
  rcases h.2 with ⟨-, h0⟩ | ⟨g, cap, cur, e, -, -, hc, -⟩
  · omega
  · subst e
    refine ⟨g, cap, rfl, hc, fun j u hj => ?_⟩
    have := h.cells (g := g) rfl j u hj
    rw [Go.WideShapes.add_plain, Nat.zero_add] at this
    exact this
theorem u_plain (u : Bs) (h : ∀ c ∈ u, 33 ≤ c.toNat ∧ c.toNat ≤ 126) : plainB u = true := by
  unfold plainB
  rw [List.all_eq_true]
  intro c hc
  have := h c hc
  unfold ctlB
  rw [decide_eq_false (show ¬ ((c.toNat : Int) < 32) by omega)]
  rfl
set_option maxRecDepth 100000 in
set_option maxHeartbeats 20000000 in
theorem igd_tells_walk (cs : Array Value) (x : Cfv) (w : World) (hc : CfAll cs x) (hf : FwK w x.fa x.fl) (hu : x.u.length ≤ 9223372036854775807) :
    Calls Tryz.prog 8 #[.agg cs] w fun e w' => e = .returned (.bool true) ∧ w.grownBy w' none := by
  have n1 := heap_alloc_new w (.cells cs 51)
  have g1 := gr_alloc (gr_refl w none) (.cells cs 51)
  obtain ⟨w1, hw1⟩ : ∃ x, x = w.alloc (.cells cs 51) := ⟨_, rfl⟩
  obtain ⟨b, hb⟩ : ∃ x, x = w.heap.size := ⟨_, rfl⟩
  rw [← hw1] at n1 g1
  rw [← hb] at n1
  have HC := hid hc
  have HF := hid (hf.grow g1)
  have HU := hid hu
  have N1 := hid n1
  have G1 := hid g1
  have HW1 := hid hw1
  have HB := hid hb
  have HSZ := hid (show (Tryz.prog.info? 51).map (·.size) = some cs.size by rw [hc.sz]; kernel_rfl)
  clear n1 g1 hw1 hb hc hf hu
  go_enter Tryz.func8, Tryz.ntmps8
  go_upto_region 1 with fail
  rw [← HW1.out, ← HB.out]
  clear HW1
  go_wp2_with fail
  refine (igd_speaks w1).mono ?_
  rintro e w2 ⟨rfl, g2⟩
  have G2 := hid (gr_trans G1.out g2)
  have N2 := hid (gr_keep g2 N1.out (by simp))
  have HF2 := hid (HF.out.grow g2)
  clear g2 HF N1 G1
  have c25 : w2.cell? ⟨b, 25, none⟩ = some (.slice x.fa x.fl x.fc) := (cell_of_block N2.out 25).trans HC.out.c25
  by_cases hl : 40 < (x.fl : Int)
  · have hd : decide (40 < (x.fl : Int)) = true := decide_eq_true hl
    clear hl
    go_wp2_with fail
    go_ret
    exact ⟨rfl, G2.out⟩
  have hd : decide (40 < (x.fl : Int)) = false := decide_eq_false hl
  clear hl
  go_wp2_with (first
    | ((with_reducible refine wpl_load_row_g (o := ⟨some 24, _, _, _, _, _⟩) 51 (.tmp 1) rfl ?hwz b ?hxz 51 cs (0, 0) _ N2.out Tryz.underlying51 ?hdz9 HSZ.out ?hmz); (case hwz => rfl); (case hxz => rfl); (case hdz9 => rfl))
    | fail)
  refine (check_any cs x w2 HC.out HF2.out HU.out).mono ?_
  rintro e w3 ⟨r, rfl, hr, g3⟩
  have G3 := hid (gr_trans G2.out g3)
  have N3 := hid (gr_keep g3 N2.out (by simp))
  clear c25 g3 G2 N2 HF2 hd
  by_cases h0 : r = 0
  rotate_left
  · have hd : (r != 0) = true := by simpa using h0
    clear h0 hr
    go_wp2_with fail
    go_ret
    exact ⟨rfl, G3.out⟩
  subst h0
  obtain ⟨hul, hub⟩ := hr rfl
  have HP := hid (u_plain x.u hub)
  have HUL := hid hul
  clear hr hub hul HU
  have DV := hid (device_any w3 cs x.u HC.out.sz HC.out.c27 (by have := HUL.out; omega) (by have := HUL.out; have := esc_len6 x.u; omega))
  have HDL := hid (devT_len x.u (by have := HUL.out; omega))
  have HDP := hid (dev_parse x.u (by have := HUL.out; omega) HP.out)
  obtain ⟨dt, hdt⟩ : ∃ y, y = devT x.u := ⟨_, rfl⟩
  rw [← hdt] at DV HDL HDP
  clear hdt
  go_wp2_with (first
    | (with_reducible refine wpl_load_row (o := ⟨some 29, _, _, _, _, _⟩) rfl 51 (.tmp 1) rfl b rfl 51 cs (0, 0) _ N3.out Tryz.underlying51 rfl HSZ.out ?_)
    | ((with_reducible refine DV.out.mono ?_); rintro e w4 ⟨g4, dv, rfl, hbv⟩; have G4 := hid (gr_trans G3.out g4); have N4 := hid (gr_keep g4 N3.out (by simp)); have HBV := hid hbv; obtain ⟨da, dc, rfl, -⟩ := hbv; clear g4)
    | (refine wpl_b2s rfl 30 9 5 _ rfl Tryz.underlying30 Tryz.underlying5 Tryz.underlying9 _ dt rfl HBV.out ?_; unfold str))
  have HPR := hid (rparse_r w4 dt (by have := HDL.out; omega))
  rw [HDP.out] at HPR
  refine HPR.out.mono ?_
  rintro e w5 ⟨g5, v5, rfl, hel⟩
  have HEL := hid hel
  obtain ⟨av, kv, hv, ⟨aa, ac, rfl, -⟩, ⟨ka, kc, rfl, -⟩⟩ := hel
  have hv' : v5 = .agg #[.string ⟨#[117, 114, 110, 58, 115, 99, 104, 101, 109, 97, 115, 45, 117, 112, 110, 112, 45, 111, 114, 103, 58, 100, 101, 118, 105, 99, 101, 45, 49, 45, 48]⟩, .string ⟨#[114, 111, 111, 116]⟩, .slice aa 0 ac, .string ⟨#[]⟩, .slice ka 2 kc] := hv
  clear hv
  subst hv'
  have G5 := hid (gr_trans G4.out g5)
  have N5 := hid (gr_keep g5 N4.out (by simp))
  have n6 := heap_alloc_new w5 (.cells #[.string ⟨#[117, 114, 110, 58, 115, 99, 104, 101, 109, 97, 115, 45, 117, 112, 110, 112, 45, 111, 114, 103, 58, 100, 101, 118, 105, 99, 101, 45, 49, 45, 48]⟩, .string ⟨#[114, 111, 111, 116]⟩, .slice aa 0 ac, .string ⟨#[]⟩, .slice ka 2 kc] 25)
  have g6 := gr_alloc (gr_refl w5 none) (.cells #[.string ⟨#[117, 114, 110, 58, 115, 99, 104, 101, 109, 97, 115, 45, 117, 112, 110, 112, 45, 111, 114, 103, 58, 100, 101, 118, 105, 99, 101, 45, 49, 45, 48]⟩, .string ⟨#[114, 111, 111, 116]⟩, .slice aa 0 ac, .string ⟨#[]⟩, .slice ka 2 kc] 25)
  clear g5 DV HBV HPR HDP HDL N4 G4 N3 G3
  go_upto_region 6 with fail
  obtain ⟨w6, hw6⟩ : ∃ y, y = w5.alloc (.cells #[.string ⟨#[117, 114, 110, 58, 115, 99, 104, 101, 109, 97, 115, 45, 117, 112, 110, 112, 45, 111, 114, 103, 58, 100, 101, 118, 105, 99, 101, 45, 49, 45, 48]⟩, .string ⟨#[114, 111, 111, 116]⟩, .slice aa 0 ac, .string ⟨#[]⟩, .slice ka 2 kc] 25) := ⟨_, rfl⟩
  obtain ⟨b3, hb3⟩ : ∃ y, y = w5.heap.size := ⟨_, rfl⟩
  rw [← hw6] at n6 g6 ⊢
  rw [← hb3] at n6 ⊢
  clear hw6 hb3
  have N6 := hid n6
  have G6 := hid (gr_trans G5.out g6)
  have C6 := hid (gr_keep g6 N5.out (by simp))
  have HE6 := hid (HEL.out.keep g6)
  have r0 : w6.cell? ⟨b3, 0, none⟩ = some (.string ⟨#[117, 114, 110, 58, 115, 99, 104, 101, 109, 97, 115, 45, 117, 112, 110, 112, 45, 111, 114, 103, 58, 100, 101, 118, 105, 99, 101, 45, 49, 45, 48]⟩) := cell_of_block n6 0
  have r1 : w6.cell? ⟨b3, 1, none⟩ = some (.string ⟨#[114, 111, 111, 116]⟩) := cell_of_block n6 1
  have c27 : w6.cell? ⟨b, 27, none⟩ = some (.string ⟨x.u.toArray⟩) := (cell_of_block C6.out 27).trans HC.out.c27
  obtain ⟨z, hz⟩ : ∃ y, y = [117, 117, 105, 100, 58] ++ x.u := ⟨_, rfl⟩
  have eu : ((⟨#[117, 117, 105, 100, 58]⟩ : ByteArray) ++ ⟨x.u.toArray⟩) = ⟨z.toArray⟩ := by rw [hz]; exact ba_ap _ x.u
  have zu : ¬ 9223372036854775807 < 5 + x.u.length := by have := HUL.out; omega
  have HZ := hid hz
  clear hz n6 g6 N5 G5 HEL
  go_upto_region 10 with fail
  have n7 := heap_alloc_new w6 (.cells (wantC z) 9)
  have g7 := gr_alloc (gr_refl w6 none) (.cells (wantC z) 9)
  obtain ⟨w7, hw7⟩ : ∃ y, y = w6.alloc (.cells (wantC z) 9) := ⟨_, rfl⟩
  obtain ⟨b5, hb5⟩ : ∃ y, y = w6.heap.size := ⟨_, rfl⟩
  have HW7 := hid (show w6.alloc (.cells (wantC z) 9) = w7 from hw7.symm)
  rw [← hw7] at n7 g7
  rw [← hb5] at n7 ⊢
  unfold wantC at HW7
  rw [HW7.out]
  clear HW7 hw7 hb5
  have N7 := hid n7
  have G7 := hid (gr_trans G6.out g7)
  have E7 := hid (gr_keep g7 N6.out (by simp))
  have HE7 := hid (HE6.out.keep g7)
  have HTR := hid (tx_rows x.u z HZ.out)
  clear n7 g7 r0 r1 c27 eu zu N6 G6 C6 HE6
  go_loopw [6] (fun v6 wr => ∃ k i : Nat, v6 = .int .i64 (i : Int) ∧ Hid (i = 2 * k) ∧ i ≤ 10 ∧ Hid (w7.grownBy wr none)) (fun v6 _ => 10 - (intOf v6).toNat)
  case atStart => exact ⟨0, 0, rfl, hid rfl, by omega, hid (gr_refl _ _)⟩
  case round =>
    obtain ⟨k, i, rfl, hik, hi, gr⟩ := hrel
    by_cases hlt : i < 10
    · have hk5 : k < 5 := by have := hik.out; omega
      obtain ⟨q0, q1⟩ := want_rows z k hk5
      have m0 : wr.cell? ⟨b5, i, none⟩ = some (.string ⟨(wn k).toArray⟩) := gr.out.cell ((cell_of_block N7.out i).trans (by rw [hik.out]; exact q0)) (by simp)
      have m1 := hid (show wr.cell? ⟨b5, i + 1, none⟩ = some (.string ⟨(wt z k).toArray⟩) from gr.out.cell ((cell_of_block N7.out (i + 1)).trans (by rw [hik.out]; exact q1)) (by simp))
      have ER := hid (gr_keep gr.out E7.out (by simp))
      have r0 : wr.cell? ⟨b3, 0, none⟩ = some (.string ⟨#[117, 114, 110, 58, 115, 99, 104, 101, 109, 97, 115, 45, 117, 112, 110, 112, 45, 111, 114, 103, 58, 100, 101, 118, 105, 99, 101, 45, 49, 45, 48]⟩) := cell_of_block ER.out 0
      have r1 : wr.cell? ⟨b3, 1, none⟩ = some (.string ⟨#[114, 111, 111, 116]⟩) := cell_of_block ER.out 1
      have r2 : wr.cell? ⟨b3, 2, none⟩ = some (.slice aa 0 ac) := cell_of_block ER.out 2
      have r3 : wr.cell? ⟨b3, 3, none⟩ = some (.string ⟨#[]⟩) := cell_of_block ER.out 3
      have r4 : wr.cell? ⟨b3, 4, none⟩ = some (.slice ka 2 kc) := cell_of_block ER.out 4
      have HTX0 := hid (HTR.out k hk5)
      have HTX := hid (fun (W : World) (g : wr.grownBy W none) => (show Calls Tryz.prog 36 #[.agg #[.string ⟨#[117, 114, 110, 58, 115, 99, 104, 101, 109, 97, 115, 45, 117, 112, 110, 112, 45, 111, 114, 103, 58, 100, 101, 118, 105, 99, 101, 45, 49, 45, 48]⟩, .string ⟨#[114, 111, 111, 116]⟩, .slice aa 0 ac, .string ⟨#[]⟩, .slice ka 2 kc], .string ⟨(wn k).toArray⟩] W (StQ W [wt z k]) from by
        rw [← HTX0.out]
        exact texts_any W _ (devE x.u) (wn k) _ ((HE7.out.keep gr.out).keep g) (dev_sz x.u) (dev_cnt x.u)))
      have GR := hid (gr_trans G7.out gr.out)
      have GR7 := hid gr.out
      clear q0 q1 HTX0 ER gr
      generalize wn k = nm at *
      generalize wt z k = tx at *
      obtain ⟨w0, hw0⟩ : ∃ y, y = wr := ⟨_, rfl⟩
      rw [← hw0] at m0 m1 r0 r1 r2 r3 r4 HTX GR GR7 ⊢
      clear hw0
      have hi10 : (i : Int) < 10 := by omega
      have hi0 : (0 : Int) ≤ (i : Int) := by omega
      have hi9 : (i : Int) + 1 < 10 := by have := hik.out; omega
      have hi8 : ¬ (i : Int) + 1 < 0 := by omega
      have hi7 : ¬ 9223372036854775807 < (i : Int) + 1 := by omega
      go_upto_region 12 with fail
      refine wp_region_spec3 6 7 none (by kernel_rfl) (by kernel_rfl) (by kernel_rfl) (by kernel_rfl) (by kernel_rfl) (by kernel_rfl) [some 57, some 58, some 59, some 60, some 61, some 62] (by kernel_rfl) _ (fun u => (by simp only [fill, List.zipIdx_cons, List.zipIdx_nil, List.foldl_cons, List.foldl_nil, Act.put, List.setIfInBounds_toArray, List.set_cons_zero, List.set_cons_succ, Nat.zero_add, Nat.reduceAdd]; exact rfl)) (by kernel_rfl)
        (all_succ (all_succ (all_succ (all_succ (all_succ (all_succ (all_zero _) (fun u v => by kernel_rfl)) (fun u v => by kernel_rfl)) (fun u v => by kernel_rfl)) (fun u v => by kernel_rfl)) (fun u v => by kernel_rfl)) (fun u v => by kernel_rfl))
        (fun ri v w => match ri with | 0 => v = .agg #[.string ⟨#[117, 114, 110, 58, 115, 99, 104, 101, 109, 97, 115, 45, 117, 112, 110, 112, 45, 111, 114, 103, 58, 100, 101, 118, 105, 99, 101, 45, 49, 45, 48]⟩, .string ⟨#[114, 111, 111, 116]⟩, .slice aa 0 ac, .string ⟨#[]⟩, .slice ka 2 kc] | 1 => v = .slice (some ⟨b5, 0, none⟩) 10 10 | 2 => v = .int .i64 (i : Int) | 3 => v = .pointer (some ⟨b5, i, none⟩) | 4 => v = .string ⟨nm.toArray⟩ | 5 => ∃ ga tc, v = .slice (some ⟨ga, 0, none⟩) 1 tc ∧ 1 ≤ tc ∧ w.cell? ⟨ga, 0, none⟩ = some (.string ⟨tx.toArray⟩) | _ => True)
        (all_succ (all_succ (all_succ (all_succ (all_succ (all_succ (all_zero _) ?qm0) ?qm1) ?qm2) ?qm3) ?qm4) ?qm5)
        [[], [], [], [1, 2], [3], [0, 4]] (by kernel_rfl)
        ⟨?qo0, ?qo1, ?qo2, ?qo3, ?qo4, ?qo5, trivial⟩ ?qdone
      case qm0 => intro v w w' h g; first | exact h | (obtain ⟨ga, tc, e, h1, h2⟩ := h; exact ⟨ga, tc, e, h1, g.cell h2 (by simp)⟩)
      case qm1 => intro v w w' h g; first | exact h | (obtain ⟨ga, tc, e, h1, h2⟩ := h; exact ⟨ga, tc, e, h1, g.cell h2 (by simp)⟩)
      case qm2 => intro v w w' h g; first | exact h | (obtain ⟨ga, tc, e, h1, h2⟩ := h; exact ⟨ga, tc, e, h1, g.cell h2 (by simp)⟩)
      case qm3 => intro v w w' h g; first | exact h | (obtain ⟨ga, tc, e, h1, h2⟩ := h; exact ⟨ga, tc, e, h1, g.cell h2 (by simp)⟩)
      case qm4 => intro v w w' h g; first | exact h | (obtain ⟨ga, tc, e, h1, h2⟩ := h; exact ⟨ga, tc, e, h1, g.cell h2 (by simp)⟩)
      case qm5 => intro v w w' h g; first | exact h | (obtain ⟨ga, tc, e, h1, h2⟩ := h; exact ⟨ga, tc, e, h1, g.cell h2 (by simp)⟩)
      case qo0 =>
        intro u w g hd K hK
        replace g : w0.grownBy w (none) := g
        clear hd
        simp only [Act.put, List.setIfInBounds_toArray, List.set_cons_zero, List.set_cons_succ] at hK
        have c0 := g.cell r0 (by simp)
        have c1 := g.cell r1 (by simp)
        have c2 := g.cell r2 (by simp)
        have c3 := g.cell r3 (by simp)
        have c4 := g.cell r4 (by simp)
        go_simp
        exact hK _ _ rfl (gr_refl _ _)
      case qo1 =>
        intro u w g hd K hK
        replace g : w0.grownBy w (none) := g
        clear hd
        simp only [Act.put, List.setIfInBounds_toArray, List.set_cons_zero, List.set_cons_succ] at hK
        go_simp
        exact hK _ _ rfl (gr_refl _ _)
      case qo2 =>
        intro u w g hd K hK
        replace g : w0.grownBy w (none) := g
        clear hd
        simp only [Act.put, List.setIfInBounds_toArray, List.set_cons_zero, List.set_cons_succ] at hK
        go_simp
        exact hK _ _ rfl (gr_refl _ _)
      case qo3 =>
        intro u w g hd K hK
        replace g : w0.grownBy w (none) := g
        have h1 : (u 1) = .slice (some ⟨b5, 0, none⟩) 10 10 := hd 1 (by simp)
        have h2 : (u 2) = .int .i64 (i : Int) := hd 2 (by simp)
        clear hd
        simp only [Act.put, List.setIfInBounds_toArray, List.set_cons_zero, List.set_cons_succ] at hK
        simp only [h1, h2] at hK ⊢
        go_simp
        exact hK _ _ rfl (gr_refl _ _)
      case qo4 =>
        intro u w g hd K hK
        replace g : w0.grownBy w (none) := g
        have h3 : (u 3) = .pointer (some ⟨b5, i, none⟩) := hd 3 (by simp)
        clear hd
        simp only [Act.put, List.setIfInBounds_toArray, List.set_cons_zero, List.set_cons_succ] at hK
        have c := g.cell m0 (by simp)
        simp only [h3] at hK ⊢
        go_simp
        exact hK _ _ rfl (gr_refl _ _)
      case qo5 =>
        intro u w g hd K hK
        replace g : w0.grownBy w (none) := g
        have h0 : (u 0) = .agg #[.string ⟨#[117, 114, 110, 58, 115, 99, 104, 101, 109, 97, 115, 45, 117, 112, 110, 112, 45, 111, 114, 103, 58, 100, 101, 118, 105, 99, 101, 45, 49, 45, 48]⟩, .string ⟨#[114, 111, 111, 116]⟩, .slice aa 0 ac, .string ⟨#[]⟩, .slice ka 2 kc] := hd 0 (by simp)
        have h4 : (u 4) = .string ⟨nm.toArray⟩ := hd 4 (by simp)
        clear hd
        simp only [Act.put, List.setIfInBounds_toArray, List.set_cons_zero, List.set_cons_succ] at hK
        simp only [h0, h4] at hK ⊢
        go_simp
        refine (HTX.out w g).mono ?_
        rintro e w' ⟨g', v, rfl, ho⟩
        obtain ⟨ga, tc, rfl, h1, h2⟩ := own_cells ho (by simp)
        exact hK _ _ ⟨ga, tc, rfl, h1, h2 0 _ rfl⟩ g'
      intro u w hS g
      have s0 : (u 0) = .agg #[.string ⟨#[117, 114, 110, 58, 115, 99, 104, 101, 109, 97, 115, 45, 117, 112, 110, 112, 45, 111, 114, 103, 58, 100, 101, 118, 105, 99, 101, 45, 49, 45, 48]⟩, .string ⟨#[114, 111, 111, 116]⟩, .slice aa 0 ac, .string ⟨#[]⟩, .slice ka 2 kc] := hS 0 (by decide)
      have s1 : (u 1) = .slice (some ⟨b5, 0, none⟩) 10 10 := hS 1 (by decide)
      have s2 : (u 2) = .int .i64 (i : Int) := hS 2 (by decide)
      have s3 : (u 3) = .pointer (some ⟨b5, i, none⟩) := hS 3 (by decide)
      have s4 : (u 4) = .string ⟨nm.toArray⟩ := hS 4 (by decide)
      have s5 : ∃ ga tc, (u 5) = .slice (some ⟨ga, 0, none⟩) 1 tc ∧ 1 ≤ tc ∧ w.cell? ⟨ga, 0, none⟩ = some (.string ⟨tx.toArray⟩) := hS 5 (by decide)
      clear hS
      obtain ⟨ga, tc, e5, htc, hcl⟩ := s5
      have GY := hid g
      have HTC := hid htc
      have HCL := hid hcl
      clear s0 s1 s2 s3 s4 g htc hcl
      generalize u 0 = y0 at *
      generalize u 1 = y1 at *
      generalize u 2 = y2 at *
      generalize u 3 = y3 at *
      generalize u 4 = y4 at *
      generalize u 5 = y5 at *
      obtain rfl := e5
      have GN := hid (gr_trans GR7.out GY.out)
      have m1' := GY.out.cell m1.out (by simp)
      have m2 := HCL.out
      have htc := HTC.out
      clear m0 m1 r0 r1 r2 r3 r4 HTX GR GR7 GY HCL HTC
      go_upto_region 13 with fail
      go_quiet (fail)
      have GD := hid (gr_drewN nq GN.out)
      obtain ⟨wq, hwq⟩ : ∃ y, y = w.drewN nq := ⟨_, rfl⟩
      rw [← hwq] at GD ⊢
      clear hwq GN m1' m2 htc
      go_wp2_with fail
      go_roundw
      case rel => exact ⟨k + 1, i + 2, by go_num, hid (by have := hik.out; omega), by omega, GD⟩
      case measure => simp [intOf]; omega
    · have hi10 : ¬ (i : Int) < 10 := by omega
      have GR := hid (gr_trans G7.out gr.out)
      clear gr hik hi E7 N7 HE7 HTR G7
      obtain ⟨w8, hw8⟩ : ∃ y, y = wr := ⟨_, rfl⟩
      rw [← hw8] at GR ⊢
      clear hw8
      go_upto_region 15 with fail
      have AL : actT.length ≤ 8192 := by decide +kernel
      have AP := act_parse
      have DV := hid (actionsD_any w8)
      obtain ⟨dt, hdt⟩ : ∃ y, y = actT := ⟨_, rfl⟩
      rw [← hdt] at AL AP DV
      have HDL := hid AL
      have HDP := hid AP
      clear hdt AL AP
      go_wp2_with (first
        | ((with_reducible refine DV.out.mono ?_); rintro e w9 ⟨g9, dv, rfl, hbv⟩; have G9 := hid (gr_trans GR.out g9); have HBV := hid hbv; obtain ⟨da2, dc2, rfl, -⟩ := hbv; clear g9)
        | (refine wpl_b2s rfl 30 9 5 _ rfl Tryz.underlying30 Tryz.underlying5 Tryz.underlying9 _ dt rfl HBV.out ?_; unfold str))
      have HPR := hid (rparse_r w9 dt (by have := HDL.out; omega))
      rw [HDP.out] at HPR
      refine HPR.out.mono ?_
      rintro e w10 ⟨g10, v10, rfl, hel⟩
      have HEL := hid hel
      obtain ⟨av, kv, hv, ⟨aa2, ac2, rfl, -⟩, ⟨ka2, kc2, rfl, -⟩⟩ := hel
      have hv' : v10 = .agg #[.string ⟨#[117, 114, 110, 58, 115, 99, 104, 101, 109, 97, 115, 45, 117, 112, 110, 112, 45, 111, 114, 103, 58, 115, 101, 114, 118, 105, 99, 101, 45, 49, 45, 48]⟩, .string ⟨#[115, 99, 112, 100]⟩, .slice aa2 0 ac2, .string ⟨#[]⟩, .slice ka2 2 kc2] := hv
      clear hv
      subst hv'
      have G10 := hid (gr_trans G9.out g10)
      have n11 := heap_alloc_new w10 (.cells #[.string ⟨#[117, 114, 110, 58, 115, 99, 104, 101, 109, 97, 115, 45, 117, 112, 110, 112, 45, 111, 114, 103, 58, 115, 101, 114, 118, 105, 99, 101, 45, 49, 45, 48]⟩, .string ⟨#[115, 99, 112, 100]⟩, .slice aa2 0 ac2, .string ⟨#[]⟩, .slice ka2 2 kc2] 25)
      have g11 := gr_alloc (gr_refl w10 none) (.cells #[.string ⟨#[117, 114, 110, 58, 115, 99, 104, 101, 109, 97, 115, 45, 117, 112, 110, 112, 45, 111, 114, 103, 58, 115, 101, 114, 118, 105, 99, 101, 45, 49, 45, 48]⟩, .string ⟨#[115, 99, 112, 100]⟩, .slice aa2 0 ac2, .string ⟨#[]⟩, .slice ka2 2 kc2] 25)
      clear g10 DV HBV HPR HDP HDL G9 GR
      go_upto_region 16 with fail
      obtain ⟨w11, hw11⟩ : ∃ y, y = w10.alloc (.cells #[.string ⟨#[117, 114, 110, 58, 115, 99, 104, 101, 109, 97, 115, 45, 117, 112, 110, 112, 45, 111, 114, 103, 58, 115, 101, 114, 118, 105, 99, 101, 45, 49, 45, 48]⟩, .string ⟨#[115, 99, 112, 100]⟩, .slice aa2 0 ac2, .string ⟨#[]⟩, .slice ka2 2 kc2] 25) := ⟨_, rfl⟩
      obtain ⟨b8, hb8⟩ : ∃ y, y = w10.heap.size := ⟨_, rfl⟩
      rw [← hw11] at n11 g11 ⊢
      rw [← hb8] at n11 ⊢
      clear hw11 hb8
      have N11 := hid n11
      have G11 := hid (gr_trans G10.out g11)
      have HE11 := hid (HEL.out.keep g11)
      clear n11 g11 G10 HEL
      have NM := hid (names_any w11)
      go_wp2_with fail
      refine NM.out.mono ?_
      rintro e w12 ⟨g12, nv, rfl, hnv⟩
      have HNM := hid hnv
      obtain ⟨nb, nc, rfl, hnc, hnames⟩ := own_cells hnv (by decide)
      have HNAMES := hid hnames
      have G12 := hid (gr_trans G11.out g12)
      have N12 := hid (gr_keep g12 N11.out (by simp))
      have HE12 := hid (HE11.out.keep g12)
      clear NM hnv hnames g12 G11 N11 HE11
      rw [show (List.map nmL (List.range 15)).length = 15 from rfl] at hnc ⊢
      have r0 : w12.cell? ⟨b8, 0, none⟩ = some (.string ⟨#[117, 114, 110, 58, 115, 99, 104, 101, 109, 97, 115, 45, 117, 112, 110, 112, 45, 111, 114, 103, 58, 115, 101, 114, 118, 105, 99, 101, 45, 49, 45, 48]⟩) := cell_of_block N12.out 0
      have r1 : w12.cell? ⟨b8, 1, none⟩ = some (.string ⟨#[115, 99, 112, 100]⟩) := cell_of_block N12.out 1
      have r2 : w12.cell? ⟨b8, 2, none⟩ = some (.slice aa2 0 ac2) := cell_of_block N12.out 2
      have r3 : w12.cell? ⟨b8, 3, none⟩ = some (.string ⟨#[]⟩) := cell_of_block N12.out 3
      have r4 : w12.cell? ⟨b8, 4, none⟩ = some (.slice ka2 2 kc2) := cell_of_block N12.out 4
      have TX := hid (texts_any w12 (.agg #[.string ⟨#[117, 114, 110, 58, 115, 99, 104, 101, 109, 97, 115, 45, 117, 112, 110, 112, 45, 111, 114, 103, 58, 115, 101, 114, 118, 105, 99, 101, 45, 49, 45, 48]⟩, .string ⟨#[115, 99, 112, 100]⟩, .slice aa2 0 ac2, .string ⟨#[]⟩, .slice ka2 2 kc2]) scpE [110, 97, 109, 101] _ HE12.out (by decide +kernel) (by decide +kernel))
      obtain ⟨tl, htl⟩ : ∃ y, y = txL [110, 97, 109, 101] scpE := ⟨_, rfl⟩
      have htl15 : tl.length = 15 := by rw [htl]; exact tx_names
      rw [← htl] at TX
      clear htl
      go_wp2_with fail
      refine TX.out.mono ?_
      rintro e w13 ⟨g13, tv, rfl, htv⟩
      obtain ⟨ta, tc, rfl, htc, -⟩ := own_cells htv (by rw [htl15]; decide)
      rw [htl15] at htc ⊢
      have G13 := hid (gr_trans G12.out g13)
      have N13 := hid (gr_keep g13 N12.out (by simp))
      have HE13 := hid (HE12.out.keep g13)
      have HG13 := hid g13
      clear TX htv htl15 g13 r0 r1 r2 r3 r4 G12 N12 HE12
      have r0 : w13.cell? ⟨b8, 0, none⟩ = some (.string ⟨#[117, 114, 110, 58, 115, 99, 104, 101, 109, 97, 115, 45, 117, 112, 110, 112, 45, 111, 114, 103, 58, 115, 101, 114, 118, 105, 99, 101, 45, 49, 45, 48]⟩) := cell_of_block N13.out 0
      have r1 : w13.cell? ⟨b8, 1, none⟩ = some (.string ⟨#[115, 99, 112, 100]⟩) := cell_of_block N13.out 1
      have r2 : w13.cell? ⟨b8, 2, none⟩ = some (.slice aa2 0 ac2) := cell_of_block N13.out 2
      have r3 : w13.cell? ⟨b8, 3, none⟩ = some (.string ⟨#[]⟩) := cell_of_block N13.out 3
      have r4 : w13.cell? ⟨b8, 4, none⟩ = some (.slice ka2 2 kc2) := cell_of_block N13.out 4
      go_upto_region 21 with fail
      have FL := hid (flat_el w13.heap.size (scpE.kids.sz + 1) scpE 0 _ w13 (Nat.lt_succ_self _) (by decide +kernel) (by decide +kernel) (Nat.le_refl _) (HE13.out.less (fun b h1 h2 => absurd h1 (Nat.not_lt.2 h2))))
      go_wp2_with fail
      refine FL.out.mono ?_
      rintro e w14 ⟨v1, v2, rfl, hfl⟩
      obtain ⟨a1, c1, a2, c2, rfl, rfl⟩ := hfl.shape
      have HFL := hid hfl
      have G14 := hid (gr_trans G13.out hfl.2.2)
      have HNM14 := hid (fun j u hj => hfl.2.2.cell (HG13.out.cell (HNAMES.out j u hj) (by simp)) (by simp))
      clear FL hfl r0 r1 r2 r3 r4 N13 HE13 G13 HG13 HNM HNAMES htc
      obtain ⟨L, hL⟩ : ∃ y, y = flatE 0 scpE := ⟨_, rfl⟩
      have hAR := act_rows
      have hL35 : L.length = 35 := by rw [hL]; exact act_len
      have hCA := cnt_all
      rw [← act_len] at hAR
      rw [← hL] at hAR hCA HFL ⊢
      have HAR := hid hAR
      have HL35 := hid hL35
      have HCA := hid hCA
      clear hL hL35 hAR hCA
      go_upto_region 23 with fail
      go_loopw [12, 112] (fun v12 v112 wr => ∃ j : Nat, v112 = .int .i64 (j : Int) ∧ j ≤ L.length ∧ v12 = .int .i64 ((cntA L j : Nat) : Int) ∧ Hid (w14.grownBy wr none)) (fun _ v112 _ => L.length - (intOf v112).toNat)
      case atStart => exact ⟨0, rfl, Nat.zero_le _, rfl, hid (gr_refl _ _)⟩
      case round =>
        obtain ⟨j, rfl, hj, rfl, gr⟩ := hrel
        have hj35 : (j : Int) ≤ 35 := by have := HL35.out; omega
        by_cases hlt : j < L.length
        · obtain ⟨g, xa, xk, rfl, hcap, m0, m1, m2, m3, m4, hxa, hxk⟩ := fl_cells (HFL.out.grow gr.out) hlt (0, scpE)
          have HX := hid (cntA_succ L j (L.getD j (0, scpE)) (by rw [List.getD_eq_getElem?_getD, List.getElem?_eq_getElem hlt]; rfl))
          have HR := hid (HAR.out j hlt)
          generalize (L.getD j (0, scpE)).2 = x at *
          obtain ⟨xs, xn, xat, xt, xkd⟩ := x
          obtain ⟨ya, yc, rfl, -⟩ := hxa
          obtain ⟨ya', yc', rfl, hxf⟩ := hxk
          simp only at m0 m1 m2 m3 m4 HX HR hxf
          have hii : (j : Int) < (L.length : Int) := by omega
          have hi0 : (0 : Int) ≤ (j : Int) := by omega
          generalize cntA L j = c at *
          have n15 := heap_alloc_new wr (.cells #[.string ⟨xs.toArray⟩, .string ⟨xn.toArray⟩, .slice ya xat.length yc, .string ⟨xt.toArray⟩, .slice ya' xkd.len yc'] 25)
          have g15 := gr_alloc (gr_refl wr none) (.cells #[.string ⟨xs.toArray⟩, .string ⟨xn.toArray⟩, .slice ya xat.length yc, .string ⟨xt.toArray⟩, .slice ya' xkd.len yc'] 25)
          have HXF := hid hxf
          clear hxf
          go_upto_region 25 with fail
          obtain ⟨w15, hw15⟩ : ∃ y, y = wr.alloc (.cells #[.string ⟨xs.toArray⟩, .string ⟨xn.toArray⟩, .slice ya xat.length yc, .string ⟨xt.toArray⟩, .slice ya' xkd.len yc'] 25) := ⟨_, rfl⟩
          obtain ⟨b15, hb15⟩ : ∃ y, y = wr.heap.size := ⟨_, rfl⟩
          rw [← hw15] at n15 g15 ⊢
          rw [← hb15] at n15 ⊢
          clear hw15 hb15
          have e1 : w15.cell? ⟨b15, 1, none⟩ = some (.string ⟨xn.toArray⟩) := cell_of_block n15 1
          have e4 : w15.cell? ⟨b15, 4, none⟩ = some (.slice ya' xkd.len yc') := cell_of_block n15 4
          have GN := hid (gr_trans gr.out g15)
          have HG15 := hid g15
          clear n15 g15 m0 m1 m2 m3 m4 gr
          by_cases hn : xn = [97, 99, 116, 105, 111, 110]
          · subst hn
            obtain ⟨hc15, hfk⟩ := HR.out rfl
            have HX1 := hid (show cntA L (j + 1) = c + 1 by rw [HX.out, if_pos rfl])
            clear HX HR
            cases xkd with
            | nil => cases hfk
            | cons ks kn kat kt kk knx =>
              unfold fstK at hfk
              simp only [Option.some.injEq, Prod.mk.injEq] at hfk
              obtain ⟨rfl, rfl⟩ := hfk
              obtain ⟨kb, ko, rfl, -, ⟨⟨-, k1, k3⟩, -⟩⟩ := HXF.out (by simp only [Fo.len]; omega)
              have q1 := HG15.out.cell k1 (by simp)
              have q3 := HG15.out.cell k3 (by simp)
              have q5 : w15.cell? ⟨nb, c, none⟩ = some (.string ⟨(nmL c).toArray⟩) := GN.out.cell (HNM14.out c _ (by unfold strV; rw [List.getElem?_map, List.getElem?_map, List.getElem?_range hc15]; rfl)) (by simp)
              clear HXF k1 k3 HG15
              generalize nmL c = nm at *
              rw [show Fo.len (Fo.cons ks [110, 97, 109, 101] kat nm kk knx) = knx.len + 1 from rfl] at e4
              generalize knx.len = kl at *
              have hd1 : decide ((15 : Int) ≤ (c : Int)) = false := decide_eq_false (by omega)
              have hd2 : (c : Int) < 15 := by omega
              have hd3 : (0 : Int) ≤ (c : Int) := by omega
              go_upto_region 26 with fail
              go_quiet (fail)
              have GD := hid (gr_drewN nq GN.out)
              obtain ⟨wq, hwq⟩ : ∃ y, y = w15.drewN nq := ⟨_, rfl⟩
              rw [← hwq] at GD ⊢
              clear hwq GN q1 q3 q5 e1 e4 hd1
              go_wp2_with fail
              go_roundw
              case rel => exact ⟨j + 1, by go_num, by omega, by rw [HX1.out]; go_num, GD⟩
              case measure => simp [intOf]; omega
          · have hne : (xn == [97, 99, 116, 105, 111, 110]) = false := by simpa using hn
            have HX1 := hid (show cntA L (j + 1) = c by rw [HX.out, if_neg hn, Nat.add_zero])
            clear HX HR hn HXF HG15
            go_wp2_with fail
            go_roundw
            case rel => exact ⟨j + 1, by go_num, by omega, by rw [HX1.out], GN⟩
            case measure => simp [intOf]; omega
        · obtain rfl : j = L.length := by omega
          have hca := HCA.out
          rw [hca]
          have GF := hid (gr_trans G14.out gr.out)
          clear gr
          go_wp2_with fail
          go_ret
          exact ⟨rfl, GF.out⟩
end Go.Proofs.YtmofnoconhgjmaaGreatDoor
/- An argument that is a configuration, whole. -/
namespace Go.Proofs.YtmofnoconhgjmaaGreatDoor
open Go.RowKit Go.Deep Go.ChangeShapes Go.WideShapes

theorem mac_first {H : Type} {enc : TypeId × Value → H} {P : Program} {W : World} {n : Nat} {t e : TypeId} {c0 c1 c2 c3 c4 c5 : Value} {y : DataW H × List MemPlace} (ht : P.underlying t = some (.array 6 e)) (he : P.underlying e = some (.int .u8)) (h1 : P.cellsOf e = 1)
    (h : DataW.trod enc P W 0 (fun _ => true) true n t [c0, c1, c2, c3, c4, c5] = some y) : ∃ m : Nat, c0 = .int .u8 (m : Int) ∧ m < 256 := by
  obtain ⟨ys, n', rfl, -, -, hyl, hfld⟩ := DataW.trod_array ht h
  have f0 := hfld 0 (by omega)
  rw [List.getElem?_eq_getElem (by omega), h1] at f0
  have g0 : DataW.trod enc P W 0 (fun _ => true) true n' e [c0] = some _ := f0
  obtain ⟨a, rfl, w0⟩ := fld_int he g0
  have b0 := bounds_u8 w0
  exact ⟨a.toNat, by rw [show ((a.toNat : Nat) : Int) = a by omega], by omega⟩
theorem fw_of {H : Type} {enc : TypeId × Value → H} {W : World} {a : Option Addr} {len cap : Nat} {d : DataW H} {p : List MemPlace}
    (h : DataW.Trod enc Tryz.prog W 0 (fun _ => true) true 49 (.slice a len cap) d p) : FwK W a len := by
  rcases struct_slice Tryz.underlying49 Tryz.underlying148 (by kernel_rfl) (by kernel_rfl) h with ⟨_, h0, _⟩ | ⟨x, rfl, hl, hm, hi⟩
  · exact .inl h0
  · rcases Nat.eq_zero_or_pos len with h0 | hp
    · exact .inl h0
    · obtain ⟨b, o, spot⟩ := x
      obtain ⟨v0, _, _, _, hc0, _⟩ := hi 0 hp 0 _ rfl
      obtain rfl : spot = none := by simpa [Addr.add] using World.cell?_spot hc0
      refine .inr ⟨b, o, rfl, fun i hil => ?_⟩
      obtain ⟨u0, d0, p0, n0, e0, t0⟩ := hi i hil 0 _ rfl
      obtain ⟨u1, d1, p1, n1, e1, t1⟩ := hi i hil 1 _ rfl
      obtain ⟨u2, d2, p2, n2, e2, t2⟩ := hi i hil 2 _ rfl
      obtain ⟨u3, d3, p3, n3, e3, t3⟩ := hi i hil 3 _ rfl
      obtain ⟨x0, rfl, w0⟩ := fld_int Tryz.underlying5 t0
      obtain ⟨x1, rfl, w1⟩ := fld_int Tryz.underlying121 t1
      obtain ⟨x2, rfl, w2⟩ := fld_int Tryz.underlying121 t2
      obtain ⟨x3, rfl, w3⟩ := fld_int Tryz.underlying39 t3
      have b0 := bounds_u8 w0
      have b1 := bounds_u16 w1
      have b2 := bounds_u16 w2
      have b3 := bounds_u32 w3
      rw [Go.WideShapes.add_plain] at e0 e1 e2 e3
      refine ⟨x0.toNat, x1.toNat, x2.toNat, x3.toNat, ?_, ?_, ?_, ?_, by omega⟩
      · rw [show ((x0.toNat : Nat) : Int) = x0 by omega]; exact e0
      · rw [show ((x1.toNat : Nat) : Int) = x1 by omega]; exact e1
      · rw [show ((x2.toNat : Nat) : Int) = x2 by omega]; exact e2
      · rw [show ((x3.toNat : Nat) : Int) = x3 by omega]; exact e3
set_option maxRecDepth 100000 in
theorem config_all {H : Type} {enc : TypeId × Value → H} {W : World} {base : Nat} {v : Value} {d : DataW H} {p : List MemPlace} (hval : Value.okWide Tryz.prog W .any base 51 v)
    (h : DataW.Trod enc Tryz.prog W 0 (fun _ => true) true 51 v d p) : ∃ (cs : Array Value) (x : Cfv), v = .agg cs ∧ CfAll cs x ∧ FwK W x.fa x.fl ∧ x.u.length ≤ 9223372036854775807 := by
  obtain ⟨cs, rfl, hsz⟩ := okWide_struct Tryz.underlying51 hval
  obtain ⟨m, hm⟩ := h
  have h28 : Tryz.prog.cellsOf 51 = 28 := by kernel_rfl
  rw [h28] at hsz
  obtain ⟨l⟩ := cs
  match l, hsz with
  | [c0, c1, c2, c3, c4, c5, c6, c7, c8, c9, c10, c11, c12, c13, c14, c15, c16, c17, c18, c19, c20, c21, c22, c23, c24, c25, c26, c27], _ =>
    obtain ⟨ys, n', rfl, -, -, hyl, hfld⟩ := DataW.trod_struct Tryz.underlying51 hm
    have hl : ys.length = 13 := hyl
    have f0 := hfld 0 _ rfl
    have f1 := hfld 1 _ rfl
    have f2 := hfld 2 _ rfl
    have f3 := hfld 3 _ rfl
    have f4 := hfld 4 _ rfl
    have f5 := hfld 5 _ rfl
    have f6 := hfld 6 _ rfl
    have f7 := hfld 7 _ rfl
    have f8 := hfld 8 _ rfl
    have f9 := hfld 9 _ rfl
    have f10 := hfld 10 _ rfl
    have f11 := hfld 11 _ rfl
    have f12 := hfld 12 _ rfl
    rw [List.getElem?_eq_getElem (by omega)] at f0 f1 f2 f3 f4 f5 f6 f7 f8 f9 f10 f11 f12
    have g0 : DataW.trod enc Tryz.prog W 0 (fun _ => true) true n' 48 [c0, c1, c2, c3, c4, c5] = some _ := f0
    have g1 : DataW.trod enc Tryz.prog W 0 (fun _ => true) true n' 48 [c6, c7, c8, c9, c10, c11] = some _ := f1
    have g2 : DataW.trod enc Tryz.prog W 0 (fun _ => true) true n' 48 [c12, c13, c14, c15, c16, c17] = some _ := f2
    have g3 : DataW.trod enc Tryz.prog W 0 (fun _ => true) true n' 39 [c18] = some _ := f3
    have g4 : DataW.trod enc Tryz.prog W 0 (fun _ => true) true n' 39 [c19] = some _ := f4
    have g5 : DataW.trod enc Tryz.prog W 0 (fun _ => true) true n' 3 [c20] = some _ := f5
    have g6 : DataW.trod enc Tryz.prog W 0 (fun _ => true) true n' 3 [c21] = some _ := f6
    have g7 : DataW.trod enc Tryz.prog W 0 (fun _ => true) true n' 3 [c22] = some _ := f7
    have g8 : DataW.trod enc Tryz.prog W 0 (fun _ => true) true n' 3 [c23] = some _ := f8
    have g9 : DataW.trod enc Tryz.prog W 0 (fun _ => true) true n' 3 [c24] = some _ := f9
    have g10 : DataW.trod enc Tryz.prog W 0 (fun _ => true) true n' 49 [c25] = some _ := f10
    have g11 : DataW.trod enc Tryz.prog W 0 (fun _ => true) true n' 39 [c26] = some _ := f11
    have g12 : DataW.trod enc Tryz.prog W 0 (fun _ => true) true n' 9 [c27] = some _ := f12
    obtain ⟨m0, rfl, b0⟩ := mac_first Tryz.underlying48 Tryz.underlying5 (by kernel_rfl) g0
    obtain ⟨m1, rfl, b1⟩ := mac_first Tryz.underlying48 Tryz.underlying5 (by kernel_rfl) g1
    obtain ⟨m2, rfl, b2⟩ := mac_first Tryz.underlying48 Tryz.underlying5 (by kernel_rfl) g2
    obtain ⟨n3, rfl, w3⟩ := fld_int Tryz.underlying39 g3
    have b3 := bounds_u32 w3
    obtain ⟨x3, rfl⟩ := Int.eq_ofNat_of_zero_le b3.1
    obtain ⟨n4, rfl, w4⟩ := fld_int Tryz.underlying39 g4
    have b4 := bounds_u32 w4
    obtain ⟨x4, rfl⟩ := Int.eq_ofNat_of_zero_le b4.1
    obtain ⟨n11, rfl, w11⟩ := fld_int Tryz.underlying39 g11
    have b11 := bounds_u32 w11
    obtain ⟨x11, rfl⟩ := Int.eq_ofNat_of_zero_le b11.1
    obtain ⟨x5, rfl, -⟩ := fld_int Tryz.underlying3 g5
    obtain ⟨x6, rfl, -⟩ := fld_int Tryz.underlying3 g6
    obtain ⟨x7, rfl, -⟩ := fld_int Tryz.underlying3 g7
    obtain ⟨x8, rfl, -⟩ := fld_int Tryz.underlying3 g8
    obtain ⟨x9, rfl, -⟩ := fld_int Tryz.underlying3 g9
    obtain ⟨a, len, cap, rfl, ht⟩ := fld_slice Tryz.underlying49 g10
    obtain ⟨u, rfl, hu⟩ := fld_string Tryz.underlying9 g12
    unfold maxLen at hu
    refine ⟨_, ⟨m0, m1, m2, x3, x4, x11, x5, x6, x7, x8, x9, a, len, cap, u.data.toList⟩, rfl, ?_, fw_of ht, ?_⟩
    · exact { sz := rfl, c0 := rfl, c6 := rfl, c12 := rfl, c18 := rfl, c19 := rfl, c20 := rfl, c21 := rfl, c22 := rfl, c23 := rfl, c24 := rfl, c25 := rfl, c26 := rfl, c27 := rfl, h1 := b0, h2 := b1, h3 := b2, hl := by show x3 < 4294967296; omega, hw := by show x4 < 4294967296; omega, hd := by show x11 < 4294967296; omega }
    · show u.data.toList.length ≤ _
      rw [← Lib.size_eq]; omega
end Go.Proofs.YtmofnoconhgjmaaGreatDoor
