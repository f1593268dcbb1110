/- Texts of one proof, put together: Head1, Head2, Head3. -/
import Derived.Test.YtmofnoconhgjmaaGreatDoorRows
import Derived.Test.YtmofnoconhgjmaaGreatDoorMA
import Derived.Laws.BitsAllLaws
import Derived.BigQuiet
import Derived.Deep.QuietTactic
/- head.letter, digit, value, Number: what they compute. -/
namespace Go.Proofs.YtmofnoconhgjmaaGreatDoor
open Go.RowKit

theorem or32 (c : UInt8) : bits BinOp.or IntKind.u8 (c.toNat : Int) 32 = ((c ||| 32).toNat : Int) := by
  have := u8_or_nat c.toNat 32 (UInt8.toNat_lt c) (by omega)
  rw [show ((32 : Int)) = ((32 : Nat) : Int) from rfl, this, UInt8.toNat_or]
  rfl
theorem all_bytes {p : UInt8 → Prop} (h : ∀ n : Fin 256, p (UInt8.ofNat n.val)) : ∀ c, p c := fun c => by
  have := h ⟨c.toNat, UInt8.toNat_lt c⟩
  simpa using this
theorem strAt (s : ByteArray) (k : Nat) (h : k < s.size) : s[k]'h = s.data.toList.getD k 0 := by
  rw [List.getD_eq_getElem?_getD, List.getElem?_eq_getElem (by simpa using h)]
  rfl
def letterB (c : UInt8) : Bool := decide ((97 : Int) ≤ ((c ||| 32).toNat : Int)) && decide (((c ||| 32).toNat : Int) ≤ 122)
def digitB (c : UInt8) : Bool := decide ((48 : Int) ≤ (c.toNat : Int)) && decide ((c.toNat : Int) ≤ 57)
theorem digit_any (c : UInt8) (w : World) :
    Calls Tryz.prog 321 #[.int .u8 (c.toNat : Int)] w fun e w' => e = .returned (.bool (digitB c)) ∧ w = w' := by
  unfold digitB
  go_enter Tryz.func321, Tryz.ntmps321
  go_wp2
  all_goals
    go_ret
    refine ⟨?_, rfl⟩
    simp_all <;> omega
/-- A digit's number; 64: it is none. -/
def valN (c : UInt8) : Int := if digitB c then (c.toNat : Int) - 48 else if (97 : Int) ≤ ((c ||| 32).toNat : Int) ∧ ((c ||| 32).toNat : Int) ≤ 102 then ((c ||| 32).toNat : Int) - 87 else 64
theorem valN_bd : ∀ c, 0 ≤ valN c ∧ valN c ≤ 64 := all_bytes (by decide +kernel)
theorem value_any (c : UInt8) (w : World) :
    Calls Tryz.prog 302 #[.int .u8 (c.toNat : Int)] w fun e w' => e = .returned (.int .i64 (valN c)) ∧ w = w' := by
  have h32 := or32 c
  have hb := UInt8.toNat_lt c
  have hd : digitB c = true → (48 : Int) ≤ (c.toNat : Int) ∧ (c.toNat : Int) ≤ 57 := by simp [digitB]
  unfold valN
  have hb2 := UInt8.toNat_lt (c ||| 32)
  generalize c ||| 32 = d at *
  generalize hx : digitB c = x at *
  have X := hid hx
  clear hx
  cases x
  · clear hd
    by_cases h1 : (97 : Int) ≤ (d.toNat : Int)
    · by_cases h2 : (d.toNat : Int) ≤ 102
      · go_enter Tryz.func302, Tryz.ntmps302
        go_wp2_with fail
        refine (digit_any c w).mono ?_
        rintro e w' ⟨rfl, rfl⟩
        rw [X.out]
        go_wp2
        go_ret
        refine ⟨?_, rfl⟩
        simp_all <;> go_arith
      · go_enter Tryz.func302, Tryz.ntmps302
        go_wp2_with fail
        refine (digit_any c w).mono ?_
        rintro e w' ⟨rfl, rfl⟩
        rw [X.out]
        go_wp2
        go_ret
        refine ⟨?_, rfl⟩
        simp_all <;> omega
    · go_enter Tryz.func302, Tryz.ntmps302
      go_wp2_with fail
      refine (digit_any c w).mono ?_
      rintro e w' ⟨rfl, rfl⟩
      rw [X.out]
      go_wp2
      go_ret
      refine ⟨?_, rfl⟩
      simp_all <;> omega
  · have hd' := hd rfl
    clear hd
    go_enter Tryz.func302, Tryz.ntmps302
    go_wp2_with fail
    refine (digit_any c w).mono ?_
    rintro e w' ⟨rfl, rfl⟩
    rw [X.out]
    go_wp2
    go_ret
    refine ⟨?_, rfl⟩
    simp
/-- The number of digits, from n on. -/
def numGo (base : Int) : Int → List UInt8 → Option Int
  | n, [] => some n
  | n, c :: l => if base ≤ valN c then none else numGo base (n * base + valN c) l
def numFin (most : Int) : Option Int → Int × Bool
  | none => (0, false)
  | some n => if most < n then (0, false) else (n, true)
def numR (base most : Int) (l : List UInt8) : Int × Bool :=
  if l = [] ∨ 7 < l.length ∨ (base ≠ 10 ∧ base ≠ 16) then (0, false) else numFin most (numGo base 0 l)
end Go.Proofs.YtmofnoconhgjmaaGreatDoor
/- head.Number, hearthref15.Number: both compute numR. -/
namespace Go.Proofs.YtmofnoconhgjmaaGreatDoor
open Go.RowKit

theorem numGo_drop {base n : Int} {l : List UInt8} {k : Nat} (hk : k < l.length) : numGo base n (l.drop k) = if base ≤ valN (l.getD k 0) then none else numGo base (n * base + valN (l.getD k 0)) (l.drop (k + 1)) := by
  rw [List.drop_eq_getElem_cons hk]
  rw [show l.getD k 0 = l[k] by rw [List.getD_eq_getElem?_getD, List.getElem?_eq_getElem hk]; rfl]
  rfl
/-- A bound of what k digits make. -/
def pw : Nat → Int
  | 0 => 1
  | k + 1 => 16 * pw k
theorem pw_le : ∀ k, k ≤ 7 → 1 ≤ pw k ∧ pw k ≤ 268435456 := by decide
set_option maxHeartbeats 1000000 in
theorem number_any (s : ByteArray) (base most : Int) (w : World) (hs : s.size ≤ 9223372036854775807) :
    Calls Tryz.prog 271 #[.string s, .int .i64 base, .int .i64 most] w fun e w' =>
      e = .returned (.tuple #[.int .i64 (numR base most s.data.toList).1, .bool (numR base most s.data.toList).2]) ∧ w.grownBy w' none := by
  obtain ⟨l, hl⟩ : ∃ l, l = s.data.toList := ⟨_, rfl⟩
  have hlen : s.size = l.length := by rw [hl, ← Lib.size_eq]
  rw [← hl]
  have Hl := hid hl
  clear hl
  have hemp : s.toList.isEmpty = decide (l = []) := by
    rw [Lib.toList_data, ← Hl.out]; cases l <;> rfl
  by_cases h2 : l = []
  · have R := hid (show numR base most l = (0, false) by rw [numR, if_pos (.inl h2)])
    rw [R.out]
    have hs0 : s.toList.isEmpty = true := by rw [hemp]; simpa using h2
    clear hemp h2
    go_enter Tryz.func271, Tryz.ntmps271
    go_wp2
    go_ret2
    exact ⟨rfl, by (repeat (first | exact gr_refl _ _ | assumption | refine gr_drew ?_ | refine gr_drewN _ ?_ | refine gr_alloc ?_ _ | refine gr_set ?_ | refine gr_set_new ?_ (by first | omega | (simp; omega))))⟩
  have hs0 : s.toList.isEmpty = false := by rw [hemp]; simpa using h2
  by_cases h3 : 7 < l.length
  · have R := hid (show numR base most l = (0, false) by rw [numR, if_pos (.inr (.inl h3))])
    rw [R.out]
    have h3' : 7 < s.size := by omega
    clear hemp h2 h3 hlen
    go_enter Tryz.func271, Tryz.ntmps271
    go_wp2
    go_ret2
    exact ⟨rfl, by (repeat (first | exact gr_refl _ _ | assumption | refine gr_drew ?_ | refine gr_drewN _ ?_ | refine gr_alloc ?_ _ | refine gr_set ?_ | refine gr_set_new ?_ (by first | omega | (simp; omega))))⟩
  by_cases h4 : base ≠ 10 ∧ base ≠ 16
  · have R := hid (show numR base most l = (0, false) by rw [numR, if_pos (.inr (.inr h4))])
    rw [R.out]
    have h3' : s.size ≤ 7 := by omega
    have b1 : (base != 10) = true := by simpa using h4.1
    have b2 : (base != 16) = true := by simpa using h4.2
    clear hemp h2 h3 hlen h4
    go_enter Tryz.func271, Tryz.ntmps271
    go_wp2
    go_ret2
    exact ⟨rfl, by (repeat (first | exact gr_refl _ _ | assumption | refine gr_drew ?_ | refine gr_drewN _ ?_ | refine gr_alloc ?_ _ | refine gr_set ?_ | refine gr_set_new ?_ (by first | omega | (simp; omega))))⟩
  have hb : base = 10 ∨ base = 16 := by omega
  have R := hid (show numR base most l = numFin most (numGo base 0 l) by rw [numR, if_neg (by rintro (h | h | h); exact h2 h; exact h3 h; exact h4 h)])
  rw [R.out]
  clear hemp h2 h4
  have h3' : s.size ≤ 7 := by omega
  have Hlen := hid hlen
  clear hlen h3
  rcases hb with rfl | rfl
  · go_enter Tryz.func271, Tryz.ntmps271
    go_wp2_with (refine wpl_s2b rfl 9 30 5 _ rfl Tryz.underlying9 Tryz.underlying30 Tryz.underlying5 s rfl (by unfold maxLen; omega) ?_; intro g cap w1 hg hrow gw)
    rw [← Hl.out] at hrow
    go_loop [6, 29] (fun vn vk => ∃ (k : Nat) (n : Int), k ≤ s.size ∧ vk = .int .i64 k ∧ vn = .int .i64 n ∧ 0 ≤ n ∧ n + 1 ≤ pw k ∧ Hid (numGo 10 0 l = numGo 10 n (l.drop k))) (fun _ vk => s.size - (intOf vk).toNat)
    case atStart => exact ⟨0, 0, Nat.zero_le _, rfl, rfl, by omega, by decide, rfl⟩
    case round =>
      obtain ⟨k, n, hk, rfl, rfl, n0, n1, hgo⟩ := hrel
      have pk := pw_le k (by omega)
      by_cases hlt : k < s.size
      · have hc := hrow.cell (i := k) (by rw [← Hlen.out]; exact hlt)
        have hd := hid (numGo_drop (base := 10) (n := n) (l := l) (k := k) (by rw [← Hlen.out]; exact hlt))
        generalize l.getD k 0 = c at hc hd
        have vb := valN_bd c
        obtain ⟨v, hv⟩ : ∃ v, v = valN c := ⟨_, rfl⟩
        have hva := value_any c w1
        rw [← hv] at vb hva
        have Hv := hid hv
        have Hva := hid hva
        clear hv hva
        go_wp2_with fail
        refine Hva.out.mono ?_
        rintro e w2 ⟨rfl, rfl⟩
        by_cases hvb : 10 ≤ v
        · have R2 := hid (show numGo 10 0 l = none by rw [hgo.out, hd.out, ← Hv.out, if_pos hvb])
          go_wp2
          go_ret2
          exact ⟨by rw [R2.out]; rfl, gw⟩
        · have hgo' := hid (show numGo 10 0 l = numGo 10 (n * 10 + v) (l.drop (k + 1)) by rw [hgo.out, hd.out, ← Hv.out, if_neg hvb])
          have hpk : pw (k + 1) = 16 * pw k := rfl
          generalize hp1 : pw (k + 1) = p1 at *
          have P1 := hid hp1
          clear hp1
          generalize pw k = p0 at *
          have n2 : n * 10 + v + 1 ≤ p1 := by omega
          clear hpk
          go_wp2
          go_round
          case rel => exact ⟨k + 1, n * 10 + v, by omega, by go_num, rfl, by omega, by rw [P1.out]; exact n2, hgo'⟩
          case measure => simp [intOf]; omega
      · have hke : k = l.length := by have := Hlen.out; omega
        have R2 := hid (show numGo 10 0 l = some n by rw [hgo.out, hke]; simp [numGo])
        clear hke
        by_cases hm : most < n
        · have R3 := hid (show numFin most (some n) = (0, false) by rw [numFin, if_pos hm])
          go_wp2
          go_ret2
          exact ⟨by rw [R2.out, R3.out]; rfl, gw⟩
        · have R3 := hid (show numFin most (some n) = (n, true) by rw [numFin, if_neg hm])
          go_wp2
          go_ret2
          exact ⟨by rw [R2.out, R3.out]; rfl, gw⟩
  · go_enter Tryz.func271, Tryz.ntmps271
    go_wp2_with (refine wpl_s2b rfl 9 30 5 _ rfl Tryz.underlying9 Tryz.underlying30 Tryz.underlying5 s rfl (by unfold maxLen; omega) ?_; intro g cap w1 hg hrow gw)
    rw [← Hl.out] at hrow
    go_loop [6, 29] (fun vn vk => ∃ (k : Nat) (n : Int), k ≤ s.size ∧ vk = .int .i64 k ∧ vn = .int .i64 n ∧ 0 ≤ n ∧ n + 1 ≤ pw k ∧ Hid (numGo 16 0 l = numGo 16 n (l.drop k))) (fun _ vk => s.size - (intOf vk).toNat)
    case atStart => exact ⟨0, 0, Nat.zero_le _, rfl, rfl, by omega, by decide, rfl⟩
    case round =>
      obtain ⟨k, n, hk, rfl, rfl, n0, n1, hgo⟩ := hrel
      have pk := pw_le k (by omega)
      by_cases hlt : k < s.size
      · have hc := hrow.cell (i := k) (by rw [← Hlen.out]; exact hlt)
        have hd := hid (numGo_drop (base := 16) (n := n) (l := l) (k := k) (by rw [← Hlen.out]; exact hlt))
        generalize l.getD k 0 = c at hc hd
        have vb := valN_bd c
        obtain ⟨v, hv⟩ : ∃ v, v = valN c := ⟨_, rfl⟩
        have hva := value_any c w1
        rw [← hv] at vb hva
        have Hv := hid hv
        have Hva := hid hva
        clear hv hva
        go_wp2_with fail
        refine Hva.out.mono ?_
        rintro e w2 ⟨rfl, rfl⟩
        by_cases hvb : 16 ≤ v
        · have R2 := hid (show numGo 16 0 l = none by rw [hgo.out, hd.out, ← Hv.out, if_pos hvb])
          go_wp2
          go_ret2
          exact ⟨by rw [R2.out]; rfl, gw⟩
        · have hgo' := hid (show numGo 16 0 l = numGo 16 (n * 16 + v) (l.drop (k + 1)) by rw [hgo.out, hd.out, ← Hv.out, if_neg hvb])
          have hpk : pw (k + 1) = 16 * pw k := rfl
          generalize hp1 : pw (k + 1) = p1 at *
          have P1 := hid hp1
          clear hp1
          generalize pw k = p0 at *
          have n2 : n * 16 + v + 1 ≤ p1 := by omega
          clear hpk
          go_wp2
          go_round
          case rel => exact ⟨k + 1, n * 16 + v, by omega, by go_num, rfl, by omega, by rw [P1.out]; exact n2, hgo'⟩
          case measure => simp [intOf]; omega
      · have hke : k = l.length := by have := Hlen.out; omega
        have R2 := hid (show numGo 16 0 l = some n by rw [hgo.out, hke]; simp [numGo])
        clear hke
        by_cases hm : most < n
        · have R3 := hid (show numFin most (some n) = (0, false) by rw [numFin, if_pos hm])
          go_wp2
          go_ret2
          exact ⟨by rw [R2.out, R3.out]; rfl, gw⟩
        · have R3 := hid (show numFin most (some n) = (n, true) by rw [numFin, if_neg hm])
          go_wp2
          go_ret2
          exact ⟨by rw [R2.out, R3.out]; rfl, gw⟩
end Go.Proofs.YtmofnoconhgjmaaGreatDoor
/- hearthref15.Number: it computes numR too. -/
namespace Go.Proofs.YtmofnoconhgjmaaGreatDoor
open Go.RowKit

/-- A byte as a small letter. -/
def smI (c : UInt8) : Int := if (65 : Int) ≤ (c.toNat : Int) ∧ (c.toNat : Int) ≤ 90 then (c.toNat : Int) + 32 else (c.toNat : Int)
theorem small_any (c : UInt8) (w : World) :
    Calls Tryz.prog 294 #[.int .u8 (c.toNat : Int)] w fun e w' => e = .returned (.int .u8 (smI c)) ∧ w = w' := by
  have hb := UInt8.toNat_lt c
  unfold smI
  by_cases h1 : (65 : Int) ≤ (c.toNat : Int)
  · by_cases h2 : (c.toNat : Int) ≤ 90
    · rw [if_pos ⟨h1, h2⟩]
      go_enter Tryz.func294, Tryz.ntmps294
      go_wp2
      go_ret
      exact ⟨rfl, rfl⟩
    · rw [if_neg (by omega)]
      go_enter Tryz.func294, Tryz.ntmps294
      go_wp2
      go_ret
      exact ⟨rfl, rfl⟩
  · rw [if_neg (by omega)]
    go_enter Tryz.func294, Tryz.ntmps294
    go_wp2
    go_ret
    exact ⟨rfl, rfl⟩
theorem smI_bd : ∀ c, 0 ≤ smI c ∧ smI c ≤ 255 := all_bytes (by decide +kernel)
theorem val10 : ∀ c, (48 ≤ smI c ∧ smI c ≤ 57 ∧ valN c = smI c - 48) ∨ (¬ (48 ≤ smI c ∧ smI c ≤ 57) ∧ 10 ≤ valN c) := all_bytes (by decide +kernel)
theorem val16 : ∀ c, (48 ≤ smI c ∧ smI c ≤ 57 ∧ valN c = smI c - 48) ∨ (97 ≤ smI c ∧ smI c ≤ 102 ∧ valN c = smI c - 87) ∨ (¬ (48 ≤ smI c ∧ smI c ≤ 57) ∧ ¬ (97 ≤ smI c ∧ smI c ≤ 102) ∧ 16 ≤ valN c) := all_bytes (by decide +kernel)
set_option maxHeartbeats 2000000 in
theorem rnumber_any (s : ByteArray) (base most : Int) (w : World) (hs : s.size ≤ 9223372036854775807) :
    Calls Tryz.prog 257 #[.string s, .int .i64 base, .int .i64 most] w fun e w' =>
      e = .returned (.tuple #[.int .i64 (numR base most s.data.toList).1, .bool (numR base most s.data.toList).2]) ∧ w.grownBy w' none := by
  obtain ⟨l, hl⟩ : ∃ l, l = s.data.toList := ⟨_, rfl⟩
  have hlen : s.size = l.length := by rw [hl, ← Lib.size_eq]
  rw [← hl]
  have Hl := hid hl
  clear hl
  by_cases h2 : l = []
  · have R := hid (show numR base most l = (0, false) by rw [numR, if_pos (.inl h2)])
    rw [R.out]
    have hs0 : s.size < 1 := by rw [hlen, h2]; simp
    clear hlen h2
    go_enter Tryz.func257, Tryz.ntmps257
    go_wp2
    go_ret2
    exact ⟨rfl, by (repeat (first | exact gr_refl _ _ | assumption | refine gr_drew ?_ | refine gr_drewN _ ?_ | refine gr_alloc ?_ _ | refine gr_set ?_ | refine gr_set_new ?_ (by first | omega | (simp; omega))))⟩
  have hs0 : 1 ≤ s.size := by rw [hlen]; exact List.length_pos_iff.2 h2
  by_cases h3 : 7 < l.length
  · have R := hid (show numR base most l = (0, false) by rw [numR, if_pos (.inr (.inl h3))])
    rw [R.out]
    have h3' : 7 < s.size := by omega
    clear h2 h3 hlen
    go_enter Tryz.func257, Tryz.ntmps257
    go_wp2
    go_ret2
    exact ⟨rfl, by (repeat (first | exact gr_refl _ _ | assumption | refine gr_drew ?_ | refine gr_drewN _ ?_ | refine gr_alloc ?_ _ | refine gr_set ?_ | refine gr_set_new ?_ (by first | omega | (simp; omega))))⟩
  have h3' : s.size ≤ 7 := by omega
  by_cases h4 : base ≠ 10 ∧ base ≠ 16
  · have R := hid (show numR base most l = (0, false) by rw [numR, if_pos (.inr (.inr h4))])
    rw [R.out]
    have b1 : (base != 10) = true := by simpa using h4.1
    have b2 : (base != 16) = true := by simpa using h4.2
    clear h2 h3 hlen h4
    go_enter Tryz.func257, Tryz.ntmps257
    go_wp2
    go_ret2
    exact ⟨rfl, by (repeat (first | exact gr_refl _ _ | assumption | refine gr_drew ?_ | refine gr_drewN _ ?_ | refine gr_alloc ?_ _ | refine gr_set ?_ | refine gr_set_new ?_ (by first | omega | (simp; omega))))⟩
  have hb : base = 10 ∨ base = 16 := by omega
  have R := hid (show numR base most l = numFin most (numGo base 0 l) by rw [numR, if_neg (by rintro (h | h | h); exact h2 h; exact h3 h; exact h4 h)])
  rw [R.out]
  clear h2 h4
  have Hlen := hid hlen
  clear hlen h3
  rcases hb with rfl | rfl
  · go_enter Tryz.func257, Tryz.ntmps257
    go_wp2_with fail
    go_loop [8, 9] (fun vn vk => ∃ (k : Nat) (n : Int), k ≤ s.size ∧ vk = .int .i64 k ∧ vn = .int .i64 n ∧ 0 ≤ n ∧ n + 1 ≤ pw k ∧ Hid (numGo 10 0 l = numGo 10 n (l.drop k))) (fun _ vk => s.size - (intOf vk).toNat)
    case atStart => exact ⟨0, 0, Nat.zero_le _, rfl, rfl, by omega, by decide, rfl⟩
    case round =>
      obtain ⟨k, n, hk, rfl, rfl, n0, n1, hgo⟩ := hrel
      have pk := pw_le k (by omega)
      by_cases hlt : k < s.size
      · have hc : s[k]'hlt = l.getD k 0 := by rw [strAt, ← Hl.out]
        have hd := hid (numGo_drop (base := 10) (n := n) (l := l) (k := k) (by rw [← Hlen.out]; exact hlt))
        generalize l.getD k 0 = c at hc hd
        have vb := smI_bd c
        have hva := small_any c w
        have hcase := val10 c
        obtain ⟨v, hv⟩ : ∃ v, v = valN c := ⟨_, rfl⟩
        have Hv := hid hv
        rw [← hv] at hcase
        generalize smI c = m at hva vb hcase
        have Hva := hid hva
        clear hv hva
        have hgo2 : ¬ 10 ≤ v → Hid (numGo 10 0 l = numGo 10 (10 * n + v) (l.drop (k + 1))) := fun hvb => by
          show numGo 10 0 l = _
          rw [hgo.out, hd.out, ← Hv.out, if_neg hvb, Int.mul_comm]
        have R0 : 10 ≤ v → Hid (numGo 10 0 l = none) := fun hvb => by
          show numGo 10 0 l = _
          rw [hgo.out, hd.out, ← Hv.out, if_pos hvb]
        have hpk : pw (k + 1) = 16 * pw k := rfl
        generalize hp1 : pw (k + 1) = p1 at *
        have P1 := hid hp1
        clear hp1
        generalize pw k = p0 at *
        rcases hcase with ⟨a1, a2, hv⟩ | ⟨a1, a2⟩
        · have hg := hgo2 (by omega)
          have n2 : 10 * n + v + 1 ≤ p1 := by omega
          clear R0 hgo2 hgo
          subst hv
          clear hpk
          go_wp2_with fail
          refine Hva.out.mono ?_
          rintro e w2 ⟨rfl, rfl⟩
          go_wp2
          go_round
          case rel => exact ⟨k + 1, _, by omega, by go_num, rfl, by omega, by rw [P1.out]; omega, by first | exact hg | (rw [show 10 + (m - 97) = m - 87 by omega]; exact hg)⟩
          case measure => simp [intOf]; omega
        · by_cases a3 : m < 48
          · have R2 := R0 (by omega)
            clear R0 hgo2 hgo hpk
            go_wp2_with fail
            refine Hva.out.mono ?_
            rintro e w2 ⟨rfl, rfl⟩
            go_wp2
            go_ret2
            exact ⟨by rw [R2.out]; rfl, gr_refl _ _⟩
          · have a4 : 57 < m := by omega
            have R2 := R0 (by omega)
            clear R0 hgo2 hgo hpk
            go_wp2_with fail
            refine Hva.out.mono ?_
            rintro e w2 ⟨rfl, rfl⟩
            go_wp2
            go_ret2
            exact ⟨by rw [R2.out]; rfl, gr_refl _ _⟩
      · have hke : k = l.length := by have := Hlen.out; omega
        have R2 := hid (show numGo 10 0 l = some n by rw [hgo.out, hke]; simp [numGo])
        clear hke
        by_cases hm : most < n
        · have R3 := hid (show numFin most (some n) = (0, false) by rw [numFin, if_pos hm])
          go_wp2
          go_ret2
          exact ⟨by rw [R2.out, R3.out]; rfl, gr_refl _ _⟩
        · have R3 := hid (show numFin most (some n) = (n, true) by rw [numFin, if_neg hm])
          go_wp2
          go_ret2
          exact ⟨by rw [R2.out, R3.out]; rfl, gr_refl _ _⟩
  · go_enter Tryz.func257, Tryz.ntmps257
    go_wp2_with fail
    go_loop [8, 9] (fun vn vk => ∃ (k : Nat) (n : Int), k ≤ s.size ∧ vk = .int .i64 k ∧ vn = .int .i64 n ∧ 0 ≤ n ∧ n + 1 ≤ pw k ∧ Hid (numGo 16 0 l = numGo 16 n (l.drop k))) (fun _ vk => s.size - (intOf vk).toNat)
    case atStart => exact ⟨0, 0, Nat.zero_le _, rfl, rfl, by omega, by decide, rfl⟩
    case round =>
      obtain ⟨k, n, hk, rfl, rfl, n0, n1, hgo⟩ := hrel
      have pk := pw_le k (by omega)
      by_cases hlt : k < s.size
      · have hc : s[k]'hlt = l.getD k 0 := by rw [strAt, ← Hl.out]
        have hd := hid (numGo_drop (base := 16) (n := n) (l := l) (k := k) (by rw [← Hlen.out]; exact hlt))
        generalize l.getD k 0 = c at hc hd
        have vb := smI_bd c
        have hva := small_any c w
        have hcase := val16 c
        obtain ⟨v, hv⟩ : ∃ v, v = valN c := ⟨_, rfl⟩
        have Hv := hid hv
        rw [← hv] at hcase
        generalize smI c = m at hva vb hcase
        have Hva := hid hva
        clear hv hva
        have hgo2 : ¬ 16 ≤ v → Hid (numGo 16 0 l = numGo 16 (16 * n + v) (l.drop (k + 1))) := fun hvb => by
          show numGo 16 0 l = _
          rw [hgo.out, hd.out, ← Hv.out, if_neg hvb, Int.mul_comm]
        have R0 : 16 ≤ v → Hid (numGo 16 0 l = none) := fun hvb => by
          show numGo 16 0 l = _
          rw [hgo.out, hd.out, ← Hv.out, if_pos hvb]
        have hpk : pw (k + 1) = 16 * pw k := rfl
        generalize hp1 : pw (k + 1) = p1 at *
        have P1 := hid hp1
        clear hp1
        generalize pw k = p0 at *
        rcases hcase with ⟨a1, a2, hv⟩ | ⟨a1, a2, hv⟩ | ⟨a1, a2, a22⟩
        · have hg := hgo2 (by omega)
          have n2 : 16 * n + v + 1 ≤ p1 := by omega
          clear R0 hgo2 hgo
          subst hv
          clear hpk
          go_wp2_with fail
          refine Hva.out.mono ?_
          rintro e w2 ⟨rfl, rfl⟩
          go_wp2
          go_round
          case rel => exact ⟨k + 1, _, by omega, by go_num, rfl, by omega, by rw [P1.out]; omega, by first | exact hg | (rw [show 10 + (m - 97) = m - 87 by omega]; exact hg)⟩
          case measure => simp [intOf]; omega
        · have hg := hgo2 (by omega)
          have n2 : 16 * n + v + 1 ≤ p1 := by omega
          clear R0 hgo2 hgo
          subst hv
          clear hpk
          go_wp2_with fail
          refine Hva.out.mono ?_
          rintro e w2 ⟨rfl, rfl⟩
          go_wp2
          go_round
          case rel => exact ⟨k + 1, _, by omega, by go_num, rfl, by omega, by rw [P1.out]; omega, by first | exact hg | (rw [show 10 + (m - 97) = m - 87 by omega]; exact hg)⟩
          case measure => simp [intOf]; omega
        · by_cases a3 : m < 48
          · have R2 := R0 (by omega)
            clear R0 hgo2 hgo hpk
            go_wp2_with fail
            refine Hva.out.mono ?_
            rintro e w2 ⟨rfl, rfl⟩
            go_wp2
            go_ret2
            exact ⟨by rw [R2.out]; rfl, gr_refl _ _⟩
          · have a4 : 57 < m := by omega
            by_cases a5 : m < 97
            · have R2 := R0 (by omega)
              clear R0 hgo2 hgo hpk
              go_wp2_with fail
              refine Hva.out.mono ?_
              rintro e w2 ⟨rfl, rfl⟩
              go_wp2
              go_ret2
              exact ⟨by rw [R2.out]; rfl, gr_refl _ _⟩
            · have a6 : 102 < m := by omega
              have R2 := R0 (by omega)
              clear R0 hgo2 hgo hpk
              go_wp2_with fail
              refine Hva.out.mono ?_
              rintro e w2 ⟨rfl, rfl⟩
              go_wp2
              go_ret2
              exact ⟨by rw [R2.out]; rfl, gr_refl _ _⟩
      · have hke : k = l.length := by have := Hlen.out; omega
        have R2 := hid (show numGo 16 0 l = some n by rw [hgo.out, hke]; simp [numGo])
        clear hke
        by_cases hm : most < n
        · have R3 := hid (show numFin most (some n) = (0, false) by rw [numFin, if_pos hm])
          go_wp2
          go_ret2
          exact ⟨by rw [R2.out, R3.out]; rfl, gr_refl _ _⟩
        · have R3 := hid (show numFin most (some n) = (n, true) by rw [numFin, if_neg hm])
          go_wp2
          go_ret2
          exact ⟨by rw [R2.out, R3.out]; rfl, gr_refl _ _⟩
end Go.Proofs.YtmofnoconhgjmaaGreatDoor
