/- Texts of one proof, put together: Head1, Head2, Head3, Head4, Head5, Head6, Strs, Head7, Head8, Head9, Head10. -/
import Derived.Test.YtldbcdiomkkinaaGreatDoorRows
import Derived.Test.YtldbcdiomkkinaaGreatDoorMA
import Derived.Laws.BitsAllLaws
import Derived.BigQuiet
import Derived.Deep.QuietTactic
import Derived.Test.YtldbcdiomkkinaaGreatDoorShelf
import Derived.Lib.IndexMore
import Derived.Lib.IndexBytes
import Derived.Lib.Strings
import Derived.Handy
import Derived.Shelf.Strings.SlTrimAscii
import Derived.OwnWalk
/- head.letter, digit, value, Number: what they compute. -/
namespace Go.Proofs.YtldbcdiomkkinaaGreatDoor
open Go.RowKit

theorem or32 (c : UInt8) : bits BinOp.or IntKind.u8 (c.toNat : Int) 32 = ((c ||| 32).toNat : Int) := by
  have := u8_or_nat c.toNat 32 (UInt8.toNat_lt c) (by omega)
  rw [show ((32 : Int)) = ((32 : Nat) : Int) from rfl, this, UInt8.toNat_or]
  rfl
theorem all_bytes {p : UInt8 → Prop} (h : ∀ n : Fin 256, p (UInt8.ofNat n.val)) : ∀ c, p c := fun c => by
  have := h ⟨c.toNat, UInt8.toNat_lt c⟩
  simpa using this
theorem strAt (s : ByteArray) (k : Nat) (h : k < s.size) : s[k]'h = s.data.toList.getD k 0 := by
  rw [List.getD_eq_getElem?_getD, List.getElem?_eq_getElem (by simpa using h)]
  rfl
def letterB (c : UInt8) : Bool := decide ((97 : Int) ≤ ((c ||| 32).toNat : Int)) && decide (((c ||| 32).toNat : Int) ≤ 122)
def digitB (c : UInt8) : Bool := decide ((48 : Int) ≤ (c.toNat : Int)) && decide ((c.toNat : Int) ≤ 57)
theorem letter_any (c : UInt8) (w : World) :
    Calls Tryz.prog 94 #[.int .u8 (c.toNat : Int)] w fun e w' => e = .returned (.bool (letterB c)) ∧ w = w' := by
  have h32 := or32 c
  unfold letterB
  generalize c ||| 32 = d at *
  go_enter Tryz.func94, Tryz.ntmps94
  go_wp2
  all_goals
    go_ret
    refine ⟨?_, rfl⟩
    simp_all <;> omega
theorem digit_any (c : UInt8) (w : World) :
    Calls Tryz.prog 51 #[.int .u8 (c.toNat : Int)] w fun e w' => e = .returned (.bool (digitB c)) ∧ w = w' := by
  unfold digitB
  go_enter Tryz.func51, Tryz.ntmps51
  go_wp2
  all_goals
    go_ret
    refine ⟨?_, rfl⟩
    simp_all <;> omega
/-- A digit's number; 64: it is none. -/
def valN (c : UInt8) : Int := if digitB c then (c.toNat : Int) - 48 else if (97 : Int) ≤ ((c ||| 32).toNat : Int) ∧ ((c ||| 32).toNat : Int) ≤ 102 then ((c ||| 32).toNat : Int) - 87 else 64
theorem valN_bd : ∀ c, 0 ≤ valN c ∧ valN c ≤ 64 := all_bytes (by decide +kernel)
theorem value_any (c : UInt8) (w : World) :
    Calls Tryz.prog 36 #[.int .u8 (c.toNat : Int)] w fun e w' => e = .returned (.int .i64 (valN c)) ∧ w = w' := by
  have h32 := or32 c
  have hb := UInt8.toNat_lt c
  have hd : digitB c = true → (48 : Int) ≤ (c.toNat : Int) ∧ (c.toNat : Int) ≤ 57 := by simp [digitB]
  unfold valN
  have hb2 := UInt8.toNat_lt (c ||| 32)
  generalize c ||| 32 = d at *
  generalize hx : digitB c = x at *
  have X := hid hx
  clear hx
  cases x
  · clear hd
    by_cases h1 : (97 : Int) ≤ (d.toNat : Int)
    · by_cases h2 : (d.toNat : Int) ≤ 102
      · go_enter Tryz.func36, Tryz.ntmps36
        go_wp2_with fail
        refine (digit_any c w).mono ?_
        rintro e w' ⟨rfl, rfl⟩
        rw [X.out]
        go_wp2
        go_ret
        refine ⟨?_, rfl⟩
        simp_all <;> go_arith
      · go_enter Tryz.func36, Tryz.ntmps36
        go_wp2_with fail
        refine (digit_any c w).mono ?_
        rintro e w' ⟨rfl, rfl⟩
        rw [X.out]
        go_wp2
        go_ret
        refine ⟨?_, rfl⟩
        simp_all <;> omega
    · go_enter Tryz.func36, Tryz.ntmps36
      go_wp2_with fail
      refine (digit_any c w).mono ?_
      rintro e w' ⟨rfl, rfl⟩
      rw [X.out]
      go_wp2
      go_ret
      refine ⟨?_, rfl⟩
      simp_all <;> omega
  · have hd' := hd rfl
    clear hd
    go_enter Tryz.func36, Tryz.ntmps36
    go_wp2_with fail
    refine (digit_any c w).mono ?_
    rintro e w' ⟨rfl, rfl⟩
    rw [X.out]
    go_wp2
    go_ret
    refine ⟨?_, rfl⟩
    simp
/-- The number of digits, from n on. -/
def numGo (base : Int) : Int → List UInt8 → Option Int
  | n, [] => some n
  | n, c :: l => if base ≤ valN c then none else numGo base (n * base + valN c) l
def numFin (most : Int) : Option Int → Int × Bool
  | none => (0, false)
  | some n => if most < n then (0, false) else (n, true)
def numR (base most : Int) (l : List UInt8) : Int × Bool :=
  if l = [] ∨ 7 < l.length ∨ (base ≠ 10 ∧ base ≠ 16) then (0, false) else numFin most (numGo base 0 l)
end Go.Proofs.YtldbcdiomkkinaaGreatDoor
/- head.Number, hearthref15.Number: both compute numR. -/
namespace Go.Proofs.YtldbcdiomkkinaaGreatDoor
open Go.RowKit

theorem numGo_drop {base n : Int} {l : List UInt8} {k : Nat} (hk : k < l.length) : numGo base n (l.drop k) = if base ≤ valN (l.getD k 0) then none else numGo base (n * base + valN (l.getD k 0)) (l.drop (k + 1)) := by
  rw [List.drop_eq_getElem_cons hk]
  rw [show l.getD k 0 = l[k] by rw [List.getD_eq_getElem?_getD, List.getElem?_eq_getElem hk]; rfl]
  rfl
/-- A bound of what k digits make. -/
def pw : Nat → Int
  | 0 => 1
  | k + 1 => 16 * pw k
theorem pw_le : ∀ k, k ≤ 7 → 1 ≤ pw k ∧ pw k ≤ 268435456 := by decide
set_option maxHeartbeats 1000000 in
theorem number_any (s : ByteArray) (base most : Int) (w : World) (hs : s.size ≤ 9223372036854775807) :
    Calls Tryz.prog 23 #[.string s, .int .i64 base, .int .i64 most] w fun e w' =>
      e = .returned (.tuple #[.int .i64 (numR base most s.data.toList).1, .bool (numR base most s.data.toList).2]) ∧ w.grownBy w' none := by
  obtain ⟨l, hl⟩ : ∃ l, l = s.data.toList := ⟨_, rfl⟩
  have hlen : s.size = l.length := by rw [hl, ← Lib.size_eq]
  rw [← hl]
  have Hl := hid hl
  clear hl
  have hemp : s.toList.isEmpty = decide (l = []) := by
    rw [Lib.toList_data, ← Hl.out]; cases l <;> rfl
  by_cases h2 : l = []
  · have R := hid (show numR base most l = (0, false) by rw [numR, if_pos (.inl h2)])
    rw [R.out]
    have hs0 : s.toList.isEmpty = true := by rw [hemp]; simpa using h2
    clear hemp h2
    go_enter Tryz.func23, Tryz.ntmps23
    go_wp2
    go_ret2
    exact ⟨rfl, by (repeat (first | exact gr_refl _ _ | assumption | refine gr_drew ?_ | refine gr_drewN _ ?_ | refine gr_alloc ?_ _ | refine gr_set ?_ | refine gr_set_new ?_ (by first | omega | (simp; omega))))⟩
  have hs0 : s.toList.isEmpty = false := by rw [hemp]; simpa using h2
  by_cases h3 : 7 < l.length
  · have R := hid (show numR base most l = (0, false) by rw [numR, if_pos (.inr (.inl h3))])
    rw [R.out]
    have h3' : 7 < s.size := by omega
    clear hemp h2 h3 hlen
    go_enter Tryz.func23, Tryz.ntmps23
    go_wp2
    go_ret2
    exact ⟨rfl, by (repeat (first | exact gr_refl _ _ | assumption | refine gr_drew ?_ | refine gr_drewN _ ?_ | refine gr_alloc ?_ _ | refine gr_set ?_ | refine gr_set_new ?_ (by first | omega | (simp; omega))))⟩
  by_cases h4 : base ≠ 10 ∧ base ≠ 16
  · have R := hid (show numR base most l = (0, false) by rw [numR, if_pos (.inr (.inr h4))])
    rw [R.out]
    have h3' : s.size ≤ 7 := by omega
    have b1 : (base != 10) = true := by simpa using h4.1
    have b2 : (base != 16) = true := by simpa using h4.2
    clear hemp h2 h3 hlen h4
    go_enter Tryz.func23, Tryz.ntmps23
    go_wp2
    go_ret2
    exact ⟨rfl, by (repeat (first | exact gr_refl _ _ | assumption | refine gr_drew ?_ | refine gr_drewN _ ?_ | refine gr_alloc ?_ _ | refine gr_set ?_ | refine gr_set_new ?_ (by first | omega | (simp; omega))))⟩
  have hb : base = 10 ∨ base = 16 := by omega
  have R := hid (show numR base most l = numFin most (numGo base 0 l) by rw [numR, if_neg (by rintro (h | h | h); exact h2 h; exact h3 h; exact h4 h)])
  rw [R.out]
  clear hemp h2 h4
  have h3' : s.size ≤ 7 := by omega
  have Hlen := hid hlen
  clear hlen h3
  rcases hb with rfl | rfl
  · go_enter Tryz.func23, Tryz.ntmps23
    go_wp2_with (refine wpl_s2b rfl 9 22 5 _ rfl Tryz.underlying9 Tryz.underlying22 Tryz.underlying5 s rfl (by unfold maxLen; omega) ?_; intro g cap w1 hg hrow gw)
    rw [← Hl.out] at hrow
    go_loop [6, 29] (fun vn vk => ∃ (k : Nat) (n : Int), k ≤ s.size ∧ vk = .int .i64 k ∧ vn = .int .i64 n ∧ 0 ≤ n ∧ n + 1 ≤ pw k ∧ Hid (numGo 10 0 l = numGo 10 n (l.drop k))) (fun _ vk => s.size - (intOf vk).toNat)
    case atStart => exact ⟨0, 0, Nat.zero_le _, rfl, rfl, by omega, by decide, rfl⟩
    case round =>
      obtain ⟨k, n, hk, rfl, rfl, n0, n1, hgo⟩ := hrel
      have pk := pw_le k (by omega)
      by_cases hlt : k < s.size
      · have hc := hrow.cell (i := k) (by rw [← Hlen.out]; exact hlt)
        have hd := hid (numGo_drop (base := 10) (n := n) (l := l) (k := k) (by rw [← Hlen.out]; exact hlt))
        generalize l.getD k 0 = c at hc hd
        have vb := valN_bd c
        obtain ⟨v, hv⟩ : ∃ v, v = valN c := ⟨_, rfl⟩
        have hva := value_any c w1
        rw [← hv] at vb hva
        have Hv := hid hv
        have Hva := hid hva
        clear hv hva
        go_wp2_with fail
        refine Hva.out.mono ?_
        rintro e w2 ⟨rfl, rfl⟩
        by_cases hvb : 10 ≤ v
        · have R2 := hid (show numGo 10 0 l = none by rw [hgo.out, hd.out, ← Hv.out, if_pos hvb])
          go_wp2
          go_ret2
          exact ⟨by rw [R2.out]; rfl, gw⟩
        · have hgo' := hid (show numGo 10 0 l = numGo 10 (n * 10 + v) (l.drop (k + 1)) by rw [hgo.out, hd.out, ← Hv.out, if_neg hvb])
          have hpk : pw (k + 1) = 16 * pw k := rfl
          generalize hp1 : pw (k + 1) = p1 at *
          have P1 := hid hp1
          clear hp1
          generalize pw k = p0 at *
          have n2 : n * 10 + v + 1 ≤ p1 := by omega
          clear hpk
          go_wp2
          go_round
          case rel => exact ⟨k + 1, n * 10 + v, by omega, by go_num, rfl, by omega, by rw [P1.out]; exact n2, hgo'⟩
          case measure => simp [intOf]; omega
      · have hke : k = l.length := by have := Hlen.out; omega
        have R2 := hid (show numGo 10 0 l = some n by rw [hgo.out, hke]; simp [numGo])
        clear hke
        by_cases hm : most < n
        · have R3 := hid (show numFin most (some n) = (0, false) by rw [numFin, if_pos hm])
          go_wp2
          go_ret2
          exact ⟨by rw [R2.out, R3.out]; rfl, gw⟩
        · have R3 := hid (show numFin most (some n) = (n, true) by rw [numFin, if_neg hm])
          go_wp2
          go_ret2
          exact ⟨by rw [R2.out, R3.out]; rfl, gw⟩
  · go_enter Tryz.func23, Tryz.ntmps23
    go_wp2_with (refine wpl_s2b rfl 9 22 5 _ rfl Tryz.underlying9 Tryz.underlying22 Tryz.underlying5 s rfl (by unfold maxLen; omega) ?_; intro g cap w1 hg hrow gw)
    rw [← Hl.out] at hrow
    go_loop [6, 29] (fun vn vk => ∃ (k : Nat) (n : Int), k ≤ s.size ∧ vk = .int .i64 k ∧ vn = .int .i64 n ∧ 0 ≤ n ∧ n + 1 ≤ pw k ∧ Hid (numGo 16 0 l = numGo 16 n (l.drop k))) (fun _ vk => s.size - (intOf vk).toNat)
    case atStart => exact ⟨0, 0, Nat.zero_le _, rfl, rfl, by omega, by decide, rfl⟩
    case round =>
      obtain ⟨k, n, hk, rfl, rfl, n0, n1, hgo⟩ := hrel
      have pk := pw_le k (by omega)
      by_cases hlt : k < s.size
      · have hc := hrow.cell (i := k) (by rw [← Hlen.out]; exact hlt)
        have hd := hid (numGo_drop (base := 16) (n := n) (l := l) (k := k) (by rw [← Hlen.out]; exact hlt))
        generalize l.getD k 0 = c at hc hd
        have vb := valN_bd c
        obtain ⟨v, hv⟩ : ∃ v, v = valN c := ⟨_, rfl⟩
        have hva := value_any c w1
        rw [← hv] at vb hva
        have Hv := hid hv
        have Hva := hid hva
        clear hv hva
        go_wp2_with fail
        refine Hva.out.mono ?_
        rintro e w2 ⟨rfl, rfl⟩
        by_cases hvb : 16 ≤ v
        · have R2 := hid (show numGo 16 0 l = none by rw [hgo.out, hd.out, ← Hv.out, if_pos hvb])
          go_wp2
          go_ret2
          exact ⟨by rw [R2.out]; rfl, gw⟩
        · have hgo' := hid (show numGo 16 0 l = numGo 16 (n * 16 + v) (l.drop (k + 1)) by rw [hgo.out, hd.out, ← Hv.out, if_neg hvb])
          have hpk : pw (k + 1) = 16 * pw k := rfl
          generalize hp1 : pw (k + 1) = p1 at *
          have P1 := hid hp1
          clear hp1
          generalize pw k = p0 at *
          have n2 : n * 16 + v + 1 ≤ p1 := by omega
          clear hpk
          go_wp2
          go_round
          case rel => exact ⟨k + 1, n * 16 + v, by omega, by go_num, rfl, by omega, by rw [P1.out]; exact n2, hgo'⟩
          case measure => simp [intOf]; omega
      · have hke : k = l.length := by have := Hlen.out; omega
        have R2 := hid (show numGo 16 0 l = some n by rw [hgo.out, hke]; simp [numGo])
        clear hke
        by_cases hm : most < n
        · have R3 := hid (show numFin most (some n) = (0, false) by rw [numFin, if_pos hm])
          go_wp2
          go_ret2
          exact ⟨by rw [R2.out, R3.out]; rfl, gw⟩
        · have R3 := hid (show numFin most (some n) = (n, true) by rw [numFin, if_neg hm])
          go_wp2
          go_ret2
          exact ⟨by rw [R2.out, R3.out]; rfl, gw⟩
end Go.Proofs.YtldbcdiomkkinaaGreatDoor
/- hearthref15.Number: it computes numR too. -/
namespace Go.Proofs.YtldbcdiomkkinaaGreatDoor
open Go.RowKit

/-- A byte as a small letter. -/
def smI (c : UInt8) : Int := if (65 : Int) ≤ (c.toNat : Int) ∧ (c.toNat : Int) ≤ 90 then (c.toNat : Int) + 32 else (c.toNat : Int)
theorem small_any (c : UInt8) (w : World) :
    Calls Tryz.prog 37 #[.int .u8 (c.toNat : Int)] w fun e w' => e = .returned (.int .u8 (smI c)) ∧ w = w' := by
  have hb := UInt8.toNat_lt c
  unfold smI
  by_cases h1 : (65 : Int) ≤ (c.toNat : Int)
  · by_cases h2 : (c.toNat : Int) ≤ 90
    · rw [if_pos ⟨h1, h2⟩]
      go_enter Tryz.func37, Tryz.ntmps37
      go_wp2
      go_ret
      exact ⟨rfl, rfl⟩
    · rw [if_neg (by omega)]
      go_enter Tryz.func37, Tryz.ntmps37
      go_wp2
      go_ret
      exact ⟨rfl, rfl⟩
  · rw [if_neg (by omega)]
    go_enter Tryz.func37, Tryz.ntmps37
    go_wp2
    go_ret
    exact ⟨rfl, rfl⟩
theorem smI_bd : ∀ c, 0 ≤ smI c ∧ smI c ≤ 255 := all_bytes (by decide +kernel)
theorem val10 : ∀ c, (48 ≤ smI c ∧ smI c ≤ 57 ∧ valN c = smI c - 48) ∨ (¬ (48 ≤ smI c ∧ smI c ≤ 57) ∧ 10 ≤ valN c) := all_bytes (by decide +kernel)
theorem val16 : ∀ c, (48 ≤ smI c ∧ smI c ≤ 57 ∧ valN c = smI c - 48) ∨ (97 ≤ smI c ∧ smI c ≤ 102 ∧ valN c = smI c - 87) ∨ (¬ (48 ≤ smI c ∧ smI c ≤ 57) ∧ ¬ (97 ≤ smI c ∧ smI c ≤ 102) ∧ 16 ≤ valN c) := all_bytes (by decide +kernel)
set_option maxHeartbeats 2000000 in
theorem rnumber_any (s : ByteArray) (base most : Int) (w : World) (hs : s.size ≤ 9223372036854775807) :
    Calls Tryz.prog 25 #[.string s, .int .i64 base, .int .i64 most] w fun e w' =>
      e = .returned (.tuple #[.int .i64 (numR base most s.data.toList).1, .bool (numR base most s.data.toList).2]) ∧ w.grownBy w' none := by
  obtain ⟨l, hl⟩ : ∃ l, l = s.data.toList := ⟨_, rfl⟩
  have hlen : s.size = l.length := by rw [hl, ← Lib.size_eq]
  rw [← hl]
  have Hl := hid hl
  clear hl
  by_cases h2 : l = []
  · have R := hid (show numR base most l = (0, false) by rw [numR, if_pos (.inl h2)])
    rw [R.out]
    have hs0 : s.size < 1 := by rw [hlen, h2]; simp
    clear hlen h2
    go_enter Tryz.func25, Tryz.ntmps25
    go_wp2
    go_ret2
    exact ⟨rfl, by (repeat (first | exact gr_refl _ _ | assumption | refine gr_drew ?_ | refine gr_drewN _ ?_ | refine gr_alloc ?_ _ | refine gr_set ?_ | refine gr_set_new ?_ (by first | omega | (simp; omega))))⟩
  have hs0 : 1 ≤ s.size := by rw [hlen]; exact List.length_pos_iff.2 h2
  by_cases h3 : 7 < l.length
  · have R := hid (show numR base most l = (0, false) by rw [numR, if_pos (.inr (.inl h3))])
    rw [R.out]
    have h3' : 7 < s.size := by omega
    clear h2 h3 hlen
    go_enter Tryz.func25, Tryz.ntmps25
    go_wp2
    go_ret2
    exact ⟨rfl, by (repeat (first | exact gr_refl _ _ | assumption | refine gr_drew ?_ | refine gr_drewN _ ?_ | refine gr_alloc ?_ _ | refine gr_set ?_ | refine gr_set_new ?_ (by first | omega | (simp; omega))))⟩
  have h3' : s.size ≤ 7 := by omega
  by_cases h4 : base ≠ 10 ∧ base ≠ 16
  · have R := hid (show numR base most l = (0, false) by rw [numR, if_pos (.inr (.inr h4))])
    rw [R.out]
    have b1 : (base != 10) = true := by simpa using h4.1
    have b2 : (base != 16) = true := by simpa using h4.2
    clear h2 h3 hlen h4
    go_enter Tryz.func25, Tryz.ntmps25
    go_wp2
    go_ret2
    exact ⟨rfl, by (repeat (first | exact gr_refl _ _ | assumption | refine gr_drew ?_ | refine gr_drewN _ ?_ | refine gr_alloc ?_ _ | refine gr_set ?_ | refine gr_set_new ?_ (by first | omega | (simp; omega))))⟩
  have hb : base = 10 ∨ base = 16 := by omega
  have R := hid (show numR base most l = numFin most (numGo base 0 l) by rw [numR, if_neg (by rintro (h | h | h); exact h2 h; exact h3 h; exact h4 h)])
  rw [R.out]
  clear h2 h4
  have Hlen := hid hlen
  clear hlen h3
  rcases hb with rfl | rfl
  · go_enter Tryz.func25, Tryz.ntmps25
    go_wp2_with fail
    go_loop [8, 9] (fun vn vk => ∃ (k : Nat) (n : Int), k ≤ s.size ∧ vk = .int .i64 k ∧ vn = .int .i64 n ∧ 0 ≤ n ∧ n + 1 ≤ pw k ∧ Hid (numGo 10 0 l = numGo 10 n (l.drop k))) (fun _ vk => s.size - (intOf vk).toNat)
    case atStart => exact ⟨0, 0, Nat.zero_le _, rfl, rfl, by omega, by decide, rfl⟩
    case round =>
      obtain ⟨k, n, hk, rfl, rfl, n0, n1, hgo⟩ := hrel
      have pk := pw_le k (by omega)
      by_cases hlt : k < s.size
      · have hc : s[k]'hlt = l.getD k 0 := by rw [strAt, ← Hl.out]
        have hd := hid (numGo_drop (base := 10) (n := n) (l := l) (k := k) (by rw [← Hlen.out]; exact hlt))
        generalize l.getD k 0 = c at hc hd
        have vb := smI_bd c
        have hva := small_any c w
        have hcase := val10 c
        obtain ⟨v, hv⟩ : ∃ v, v = valN c := ⟨_, rfl⟩
        have Hv := hid hv
        rw [← hv] at hcase
        generalize smI c = m at hva vb hcase
        have Hva := hid hva
        clear hv hva
        have hgo2 : ¬ 10 ≤ v → Hid (numGo 10 0 l = numGo 10 (10 * n + v) (l.drop (k + 1))) := fun hvb => by
          show numGo 10 0 l = _
          rw [hgo.out, hd.out, ← Hv.out, if_neg hvb, Int.mul_comm]
        have R0 : 10 ≤ v → Hid (numGo 10 0 l = none) := fun hvb => by
          show numGo 10 0 l = _
          rw [hgo.out, hd.out, ← Hv.out, if_pos hvb]
        have hpk : pw (k + 1) = 16 * pw k := rfl
        generalize hp1 : pw (k + 1) = p1 at *
        have P1 := hid hp1
        clear hp1
        generalize pw k = p0 at *
        rcases hcase with ⟨a1, a2, hv⟩ | ⟨a1, a2⟩
        · have hg := hgo2 (by omega)
          have n2 : 10 * n + v + 1 ≤ p1 := by omega
          clear R0 hgo2 hgo
          subst hv
          clear hpk
          go_wp2_with fail
          refine Hva.out.mono ?_
          rintro e w2 ⟨rfl, rfl⟩
          go_wp2
          go_round
          case rel => exact ⟨k + 1, _, by omega, by go_num, rfl, by omega, by rw [P1.out]; omega, by first | exact hg | (rw [show 10 + (m - 97) = m - 87 by omega]; exact hg)⟩
          case measure => simp [intOf]; omega
        · by_cases a3 : m < 48
          · have R2 := R0 (by omega)
            clear R0 hgo2 hgo hpk
            go_wp2_with fail
            refine Hva.out.mono ?_
            rintro e w2 ⟨rfl, rfl⟩
            go_wp2
            go_ret2
            exact ⟨by rw [R2.out]; rfl, gr_refl _ _⟩
          · have a4 : 57 < m := by omega
            have R2 := R0 (by omega)
            clear R0 hgo2 hgo hpk
            go_wp2_with fail
            refine Hva.out.mono ?_
            rintro e w2 ⟨rfl, rfl⟩
            go_wp2
            go_ret2
            exact ⟨by rw [R2.out]; rfl, gr_refl _ _⟩
      · have hke : k = l.length := by have := Hlen.out; omega
        have R2 := hid (show numGo 10 0 l = some n by rw [hgo.out, hke]; simp [numGo])
        clear hke
        by_cases hm : most < n
        · have R3 := hid (show numFin most (some n) = (0, false) by rw [numFin, if_pos hm])
          go_wp2
          go_ret2
          exact ⟨by rw [R2.out, R3.out]; rfl, gr_refl _ _⟩
        · have R3 := hid (show numFin most (some n) = (n, true) by rw [numFin, if_neg hm])
          go_wp2
          go_ret2
          exact ⟨by rw [R2.out, R3.out]; rfl, gr_refl _ _⟩
  · go_enter Tryz.func25, Tryz.ntmps25
    go_wp2_with fail
    go_loop [8, 9] (fun vn vk => ∃ (k : Nat) (n : Int), k ≤ s.size ∧ vk = .int .i64 k ∧ vn = .int .i64 n ∧ 0 ≤ n ∧ n + 1 ≤ pw k ∧ Hid (numGo 16 0 l = numGo 16 n (l.drop k))) (fun _ vk => s.size - (intOf vk).toNat)
    case atStart => exact ⟨0, 0, Nat.zero_le _, rfl, rfl, by omega, by decide, rfl⟩
    case round =>
      obtain ⟨k, n, hk, rfl, rfl, n0, n1, hgo⟩ := hrel
      have pk := pw_le k (by omega)
      by_cases hlt : k < s.size
      · have hc : s[k]'hlt = l.getD k 0 := by rw [strAt, ← Hl.out]
        have hd := hid (numGo_drop (base := 16) (n := n) (l := l) (k := k) (by rw [← Hlen.out]; exact hlt))
        generalize l.getD k 0 = c at hc hd
        have vb := smI_bd c
        have hva := small_any c w
        have hcase := val16 c
        obtain ⟨v, hv⟩ : ∃ v, v = valN c := ⟨_, rfl⟩
        have Hv := hid hv
        rw [← hv] at hcase
        generalize smI c = m at hva vb hcase
        have Hva := hid hva
        clear hv hva
        have hgo2 : ¬ 16 ≤ v → Hid (numGo 16 0 l = numGo 16 (16 * n + v) (l.drop (k + 1))) := fun hvb => by
          show numGo 16 0 l = _
          rw [hgo.out, hd.out, ← Hv.out, if_neg hvb, Int.mul_comm]
        have R0 : 16 ≤ v → Hid (numGo 16 0 l = none) := fun hvb => by
          show numGo 16 0 l = _
          rw [hgo.out, hd.out, ← Hv.out, if_pos hvb]
        have hpk : pw (k + 1) = 16 * pw k := rfl
        generalize hp1 : pw (k + 1) = p1 at *
        have P1 := hid hp1
        clear hp1
        generalize pw k = p0 at *
        rcases hcase with ⟨a1, a2, hv⟩ | ⟨a1, a2, hv⟩ | ⟨a1, a2, a22⟩
        · have hg := hgo2 (by omega)
          have n2 : 16 * n + v + 1 ≤ p1 := by omega
          clear R0 hgo2 hgo
          subst hv
          clear hpk
          go_wp2_with fail
          refine Hva.out.mono ?_
          rintro e w2 ⟨rfl, rfl⟩
          go_wp2
          go_round
          case rel => exact ⟨k + 1, _, by omega, by go_num, rfl, by omega, by rw [P1.out]; omega, by first | exact hg | (rw [show 10 + (m - 97) = m - 87 by omega]; exact hg)⟩
          case measure => simp [intOf]; omega
        · have hg := hgo2 (by omega)
          have n2 : 16 * n + v + 1 ≤ p1 := by omega
          clear R0 hgo2 hgo
          subst hv
          clear hpk
          go_wp2_with fail
          refine Hva.out.mono ?_
          rintro e w2 ⟨rfl, rfl⟩
          go_wp2
          go_round
          case rel => exact ⟨k + 1, _, by omega, by go_num, rfl, by omega, by rw [P1.out]; omega, by first | exact hg | (rw [show 10 + (m - 97) = m - 87 by omega]; exact hg)⟩
          case measure => simp [intOf]; omega
        · by_cases a3 : m < 48
          · have R2 := R0 (by omega)
            clear R0 hgo2 hgo hpk
            go_wp2_with fail
            refine Hva.out.mono ?_
            rintro e w2 ⟨rfl, rfl⟩
            go_wp2
            go_ret2
            exact ⟨by rw [R2.out]; rfl, gr_refl _ _⟩
          · have a4 : 57 < m := by omega
            by_cases a5 : m < 97
            · have R2 := R0 (by omega)
              clear R0 hgo2 hgo hpk
              go_wp2_with fail
              refine Hva.out.mono ?_
              rintro e w2 ⟨rfl, rfl⟩
              go_wp2
              go_ret2
              exact ⟨by rw [R2.out]; rfl, gr_refl _ _⟩
            · have a6 : 102 < m := by omega
              have R2 := R0 (by omega)
              clear R0 hgo2 hgo hpk
              go_wp2_with fail
              refine Hva.out.mono ?_
              rintro e w2 ⟨rfl, rfl⟩
              go_wp2
              go_ret2
              exact ⟨by rw [R2.out]; rfl, gr_refl _ _⟩
      · have hke : k = l.length := by have := Hlen.out; omega
        have R2 := hid (show numGo 16 0 l = some n by rw [hgo.out, hke]; simp [numGo])
        clear hke
        by_cases hm : most < n
        · have R3 := hid (show numFin most (some n) = (0, false) by rw [numFin, if_pos hm])
          go_wp2
          go_ret2
          exact ⟨by rw [R2.out, R3.out]; rfl, gr_refl _ _⟩
        · have R3 := hid (show numFin most (some n) = (n, true) by rw [numFin, if_neg hm])
          go_wp2
          go_ret2
          exact ⟨by rw [R2.out, R3.out]; rfl, gr_refl _ _⟩
end Go.Proofs.YtldbcdiomkkinaaGreatDoor
/- head.Lower, Token; hearthref15.in, Token, Lower. -/
namespace Go.Proofs.YtldbcdiomkkinaaGreatDoor
open Go.RowKit

/-- A letter as a small one. -/
def lowC (c : UInt8) : UInt8 := if letterB c then c ||| 32 else c
def lowL (l : List UInt8) : List UInt8 := l.map lowC
theorem low_sm : ∀ c, ((lowC c).toNat : Int) = smI c := all_bytes (by decide +kernel)
set_option maxHeartbeats 1000000 in
theorem lower_any (s : ByteArray) (w : World) (hs : s.size ≤ 9223372036854775807) :
    Calls Tryz.prog 73 #[.string s] w fun e w' => e = .returned (str (lowL s.data.toList)) ∧ w.grownBy w' none := by
  obtain ⟨l, hl⟩ : ∃ l, l = s.data.toList := ⟨_, rfl⟩
  have hlen : s.size = l.length := by rw [hl, ← Lib.size_eq]
  rw [← hl]
  have Hl := hid hl
  have Hlen := hid hlen
  clear hl hlen
  go_enter Tryz.func73, Tryz.ntmps73
  go_wp2_with (refine wpl_s2b rfl 9 22 5 _ rfl Tryz.underlying9 Tryz.underlying22 Tryz.underlying5 s rfl (by unfold maxLen; omega) ?_; intro g cap w1 hg hrow gw)
  rw [← Hl.out] at hrow
  go_loopw [10] (fun vk wr => ∃ k : Nat, vk = .int .i64 k ∧ k ≤ s.size ∧ w.grownBy wr none ∧ Row8 wr 5 g cap (lowL (l.take k) ++ l.drop k)) (fun vk _ => s.size - (intOf vk).toNat)
  case atStart => exact ⟨0, rfl, Nat.zero_le _, gw, by simpa [lowL] using hrow⟩
  case round =>
    clear hrow gw
    obtain ⟨k, rfl, hk, gw, hrow⟩ := hrel
    by_cases hlt : k < s.size
    · have hkl : k < l.length := by rw [← Hlen.out]; exact hlt
      have hll : (lowL (l.take k) ++ l.drop k).length = l.length := by simp [lowL]; omega
      have hc := hrow.cell (i := k) (by omega)
      have hf := hrow.free (i := k) (by omega)
      have hget : (lowL (l.take k) ++ l.drop k).getD k 0 = l.getD k 0 := by
        rw [List.getD_eq_getElem?_getD, List.getD_eq_getElem?_getD, List.getElem?_append_right (by simp [lowL]; omega)]
        simp [lowL, Nat.min_eq_left (Nat.le_of_lt hkl)]
      rw [hget] at hc
      have hnext : ∀ x : UInt8, x = lowC (l.getD k 0) → (lowL (l.take k) ++ l.drop k).set k x = lowL (l.take (k + 1)) ++ l.drop (k + 1) := by
        intro x hx
        rw [List.set_append, if_neg (by simp [lowL]; omega)]
        have e1 : k - (lowL (l.take k)).length = 0 := by simp [lowL]; omega
        rw [e1, List.drop_eq_getElem_cons hkl, List.set_cons_zero, List.take_succ_eq_append_getElem hkl]
        have e2 : l.getD k 0 = l[k] := by rw [List.getD_eq_getElem?_getD, List.getElem?_eq_getElem hkl]; rfl
        simp only [lowL, List.map_append, List.map_cons, List.map_nil, hx, e2, List.append_assoc, List.singleton_append]
      have hset := fun x : UInt8 => Row8.set hrow (i := k) (by omega) x
      have hsame : lowC (l.getD k 0) = l.getD k 0 → lowL (l.take k) ++ l.drop k = lowL (l.take (k + 1)) ++ l.drop (k + 1) := by
        intro h
        rw [← hnext _ h.symm]
        rw [← hget]
        apply List.ext_getElem?
        intro i
        rw [List.getElem?_set]
        split
        · rename_i e
          subst e
          rw [if_pos (by omega), List.getD_eq_getElem?_getD, List.getElem?_eq_getElem (by omega)]
          rfl
        · rfl
      clear hget hll
      generalize l.getD k 0 = c at hc hnext hsame
      have h32 := or32 c
      have hN := hid hnext
      have hS := hid hset
      have hM := hid hsame
      clear hnext hset hsame
      obtain ⟨b, hb⟩ : ∃ b, b = letterB c := ⟨_, rfl⟩
      have hlet := letter_any c wr
      rw [← hb] at hlet
      have Hlet := hid hlet
      have Hb := hid hb
      clear hb hlet
      cases b
      · have hrow' : Row8 wr 5 g cap (lowL (l.take (k + 1)) ++ l.drop (k + 1)) := by rw [← hM.out (by rw [lowC, ← Hb.out]; rfl)]; exact hrow
        clear hrow
        go_wp2_with fail
        refine Hlet.out.mono ?_
        rintro e w2 ⟨rfl, rfl⟩
        go_wp2
        go_roundw
        case rel => exact ⟨k + 1, by go_num, by omega, gw, hrow'⟩
        case measure => simp [intOf]; omega
      · have hrow' : Row8 (wr.setCell ⟨g, k, none⟩ (.int .u8 ((c ||| 32).toNat : Int))) 5 g cap (lowL (l.take (k + 1)) ++ l.drop (k + 1)) := by rw [← hN.out (c ||| 32) (by rw [lowC, ← Hb.out]; rfl)]; exact hS.out _
        have Hrow := hid hrow'
        clear hrow' hrow
        go_wp2_with fail
        refine Hlet.out.mono ?_
        rintro e w2 ⟨rfl, rfl⟩
        go_wp2
        go_roundw
        case rel => exact ⟨k + 1, by go_num, by omega, by (repeat (first | exact gr_refl _ _ | assumption | refine gr_drew ?_ | refine gr_drewN _ ?_ | refine gr_alloc ?_ _ | refine gr_set ?_ | refine gr_set_new ?_ (by first | omega | (simp; omega)))), Hrow.out⟩
        case measure => simp [intOf]; omega
    · have hke : k = l.length := by have := Hlen.out; omega
      have hb : Bytes wr (.slice (some ⟨g, 0, none⟩) s.size cap) (lowL l) := by
        have := hrow.bytes
        rw [hke, List.take_length, List.drop_length, List.append_nil] at this
        have e : (lowL l).length = s.size := by simp [lowL]; exact Hlen.out.symm
        rw [e] at this
        exact this
      clear hke
      go_wp2_with (refine wpl_b2s rfl 22 9 5 _ rfl Tryz.underlying22 Tryz.underlying5 Tryz.underlying9 _ (lowL l) rfl hb ?_)
      go_ret
      exact ⟨rfl, gw⟩
end Go.Proofs.YtldbcdiomkkinaaGreatDoor
/- head.Token, hearthref15.in, Token: both Tokens compute tokB. -/
namespace Go.Proofs.YtldbcdiomkkinaaGreatDoor
open Go.RowKit

def signsL : List UInt8 := [33, 35, 36, 37, 38, 39, 42, 43, 45, 46, 94, 95, 96, 124, 126]
def tokC (c : UInt8) : Bool := letterB c || digitB c || decide (0 ≤ Lib.indexByte signsL c)
def tokB (l : List UInt8) : Bool := l.all tokC && !l.isEmpty && decide (l.length ≤ 64)
theorem all_snoc (l : List UInt8) (p : UInt8 → Bool) (k : Nat) (hk : k < l.length) : (l.take (k + 1)).all p = ((l.take k).all p && p (l.getD k 0)) := by
  rw [List.take_succ_eq_append_getElem hk, List.all_append]
  rw [show l.getD k 0 = l[k] by rw [List.getD_eq_getElem?_getD, List.getElem?_eq_getElem hk]; rfl]
  simp
theorem all_not (l : List UInt8) (p : UInt8 → Bool) (k : Nat) (hk : k < l.length) (h : p (l.getD k 0) = false) : l.all p = false := by
  rw [show l.getD k 0 = l[k] by rw [List.getD_eq_getElem?_getD, List.getElem?_eq_getElem hk]; rfl] at h
  rw [List.all_eq_false]
  exact ⟨l[k], List.getElem_mem _, by simp [h]⟩
set_option maxHeartbeats 1000000 in
theorem token_any (s : ByteArray) (w : World) (hs : s.size ≤ 9223372036854775807) :
    Calls Tryz.prog 72 #[.string s] w fun e w' => e = .returned (.bool (tokB s.data.toList)) ∧ w.grownBy w' none := by
  obtain ⟨l, hl⟩ : ∃ l, l = s.data.toList := ⟨_, rfl⟩
  have hlen : s.size = l.length := by rw [hl, ← Lib.size_eq]
  have hemp : s.toList.isEmpty = l.isEmpty := by rw [Lib.toList_data, ← hl]
  rw [← hl]
  have Hl := hid hl
  have Hlen := hid hlen
  have Hemp := hid hemp
  clear hl hlen hemp
  go_enter Tryz.func72, Tryz.ntmps72
  go_wp2_with (refine wpl_s2b rfl 9 22 5 _ rfl Tryz.underlying9 Tryz.underlying22 Tryz.underlying5 s rfl (by unfold maxLen; omega) ?_; intro g cap w1 hg hrow gw)
  rw [← Hl.out] at hrow
  go_loop [8] (fun vk => ∃ k : Nat, k ≤ s.size ∧ vk = .int .i64 k ∧ Hid ((l.take k).all tokC = true)) (fun vk => s.size - (intOf vk).toNat)
  case atStart => exact ⟨0, Nat.zero_le _, rfl, rfl⟩
  case round =>
    obtain ⟨k, hk, rfl, hall⟩ := hrel
    by_cases hlt : k < s.size
    · have hkl : k < l.length := by rw [← Hlen.out]; exact hlt
      have hc := hrow.cell (i := k) hkl
      have hyes := fun h : tokC (l.getD k 0) = true => hid (show (l.take (k + 1)).all tokC = true by rw [all_snoc l _ k hkl, hall.out, h]; rfl)
      have hno := fun h : tokC (l.getD k 0) = false => hid (show tokB l = false by rw [tokB, all_not l _ k hkl h]; rfl)
      generalize l.getD k 0 = c at hc hyes hno
      clear hkl
      have hib := Tryz.strings_IndexByte ⟨signsL.toArray⟩ (c.toNat : Int) w1
      rw [show ((c.toNat : Int)).toNat.toUInt8 = c by simp] at hib
      have hla := letter_any c w1
      have hda := digit_any c w1
      have hY := hid hyes
      have hN := hid hno
      have htc : tokC c = (letterB c || digitB c || decide (0 ≤ Lib.indexByte signsL c)) := rfl
      generalize letterB c = b1 at hla htc
      generalize digitB c = b2 at hda htc
      rw [show (ByteArray.mk signsL.toArray).data.toList = signsL from rfl] at hib
      generalize Lib.indexByte signsL c = i3 at hib htc
      have Hib := hid hib
      have Hla := hid hla
      have Hda := hid hda
      have Htc := hid htc
      clear hib hla hda htc hyes hno
      cases b1
      · cases b2
        · by_cases h3 : 0 ≤ i3
          · have hy := hY.out (by rw [Htc.out]; simpa using h3)
            go_wp2_with fail
            refine Hla.out.mono ?_
            rintro e w2 ⟨rfl, rfl⟩
            go_wp2_with fail
            refine Hda.out.mono ?_
            rintro e w2 ⟨rfl, rfl⟩
            go_wp2_with fail
            refine Hib.out.mono ?_
            rintro e w2 ⟨rfl, rfl⟩
            go_wp2
            go_round
            case rel => exact ⟨k + 1, by omega, by go_num, hy⟩
            case measure => simp [intOf]; omega
          · have hn := hN.out (by rw [Htc.out]; simpa using h3)
            go_wp2_with fail
            refine Hla.out.mono ?_
            rintro e w2 ⟨rfl, rfl⟩
            go_wp2_with fail
            refine Hda.out.mono ?_
            rintro e w2 ⟨rfl, rfl⟩
            go_wp2_with fail
            refine Hib.out.mono ?_
            rintro e w2 ⟨rfl, rfl⟩
            go_wp2
            go_ret
            exact ⟨by rw [hn.out]; rfl, gw⟩
        · have hy := hY.out (by rw [Htc.out]; rfl)
          go_wp2_with fail
          refine Hla.out.mono ?_
          rintro e w2 ⟨rfl, rfl⟩
          go_wp2_with fail
          refine Hda.out.mono ?_
          rintro e w2 ⟨rfl, rfl⟩
          go_wp2
          go_round
          case rel => exact ⟨k + 1, by omega, by go_num, hy⟩
          case measure => simp [intOf]; omega
      · have hy := hY.out (by rw [Htc.out]; rfl)
        go_wp2_with fail
        refine Hla.out.mono ?_
        rintro e w2 ⟨rfl, rfl⟩
        go_wp2
        go_round
        case rel => exact ⟨k + 1, by omega, by go_num, hy⟩
        case measure => simp [intOf]; omega
    · have hke : k = l.length := by have := Hlen.out; omega
      have hall' := hid (show l.all tokC = true by have := hall.out; rw [hke, List.take_length] at this; exact this)
      by_cases he : l.isEmpty = true
      · have h0 : s.toList.isEmpty = true := by rw [Hemp.out]; exact he
        have R := hid (show tokB l = false by rw [tokB, he]; simp)
        clear he hke
        go_wp2
        go_ret
        exact ⟨by rw [R.out]; rfl, gw⟩
      · have h0 : s.toList.isEmpty = false := by rw [Hemp.out]; simpa using he
        have R := hid (show tokB l = decide ((s.size : Int) ≤ 64) by rw [tokB, hall'.out, Hlen.out]; simp [he]; omega)
        clear he hke
        go_wp2
        go_ret
        exact ⟨by rw [R.out]; rfl, gw⟩
def inI (m : Int) (l : List UInt8) : Bool := l.any fun x => (x.toNat : Int) == m
end Go.Proofs.YtldbcdiomkkinaaGreatDoor
/- hearthref15.Token computes tokB too; hearthref15.Lower computes lowL. -/
namespace Go.Proofs.YtldbcdiomkkinaaGreatDoor
open Go.RowKit

def rsignsL : List UInt8 := [33, 35, 36, 37, 38, 39, 42, 43, 45, 46, 94, 95]
theorem tok_cases : ∀ c, (97 ≤ smI c ∧ smI c ≤ 122 ∧ tokC c = true) ∨ (48 ≤ smI c ∧ smI c ≤ 57 ∧ tokC c = true) ∨
    (¬ (97 ≤ smI c ∧ smI c ≤ 122) ∧ ¬ (48 ≤ smI c ∧ smI c ≤ 57) ∧ tokC c = (inI (smI c) rsignsL || smI c == 96 || smI c == 124 || smI c == 126)) := all_bytes (by decide +kernel)
end Go.Proofs.YtldbcdiomkkinaaGreatDoor
/- strings.Cut at a separator of one byte: no condition. -/
namespace Go.Proofs.YtldbcdiomkkinaaGreatDoor
open Go.RowKit

theorem indexByte_lt (c : UInt8) : ∀ l : List UInt8, -1 ≤ Lib.indexByte l c ∧ Lib.indexByte l c < l.length
  | [] => by simp [Lib.indexByte]
  | b :: l => by
    have := indexByte_lt c l
    simp only [Lib.indexByte, List.length_cons]
    split
    · omega
    · split <;> omega
def cutB (l : List UInt8) (c : UInt8) : List UInt8 × List UInt8 × Bool :=
  if 0 ≤ Lib.indexByte l c then (l.take (Lib.indexByte l c).toNat, l.drop ((Lib.indexByte l c).toNat + 1), true) else (l, [], false)
set_option maxHeartbeats 1000000 in
theorem slcut_one (s : ByteArray) (c : UInt8) (w : World) (hs : s.size ≤ 9223372036854775806) :
    Calls Tryz.prog 70 #[.string s, .string ⟨#[c]⟩] w fun e w' =>
      e = .returned (.tuple #[str (cutB s.data.toList c).1, str (cutB s.data.toList c).2.1, .bool (cutB s.data.toList c).2.2]) ∧ w.grownBy w' none := by
  obtain ⟨i, hi⟩ : ∃ i, i = Lib.indexByte s.data.toList c := ⟨_, rfl⟩
  have hb := indexByte_lt c s.data.toList
  have hsz := Lib.size_eq s
  rw [← hi] at hb
  unfold cutB
  rw [← hi]
  have hi0 : i < s.size := by omega
  clear hsz
  have Hi := hid hi
  clear hi
  by_cases h0 : 0 ≤ i
  · rw [if_pos h0]
    obtain ⟨k, rfl⟩ := Int.eq_ofNat_of_zero_le h0
    have hk1 : IntKind.i64.wrap (k + 1) = k + 1 := IntWalk.i64_in _ (by omega)
    have hk2 : ((k : Int) + 1).toNat = k + 1 := by omega
    have hk3 : (0 : Int) ≤ (k : Int) + 1 := by omega
    have hk4 : (k : Int) + 1 ≤ s.size := by omega
    have hk5 : (k : Int) ≤ s.size := by omega
    go_enter Tryz.func70, Tryz.ntmps70
    go_wp2_with fail
    refine (Tryz.stringslite_Index_one s c w).mono ?_
    rintro e w' ⟨rfl, hw⟩
    rw [hw, ← Hi.out]
    clear hw w'
    go_wp2_with fail
    go_quiet (fail)
    go_wp2
    go_ret3
    refine ⟨?_, by (repeat (first | exact gr_refl _ _ | assumption | refine gr_drew ?_ | refine gr_drewN _ ?_ | refine gr_alloc ?_ _ | refine gr_set ?_ | refine gr_set_new ?_ (by first | omega | (simp; omega))))⟩
    show Ending.returned (.tuple #[Value.string (s.extract 0 k), Value.string (s.extract (k + 1) s.size), .bool true]) = _
    rw [str_of (s.extract 0 k), str_of (s.extract (k + 1) s.size), Lib.extract_data, Lib.extract_to_end]
    simp
  · rw [if_neg h0]
    go_enter Tryz.func70, Tryz.ntmps70
    go_wp2_with fail
    refine (Tryz.stringslite_Index_one s c w).mono ?_
    rintro e w' ⟨rfl, hw⟩
    rw [hw, ← Hi.out]
    clear hw w'
    go_wp2_with fail
    go_ret3
    exact ⟨rfl, by (repeat (first | exact gr_refl _ _ | assumption | refine gr_drew ?_ | refine gr_drewN _ ?_ | refine gr_alloc ?_ _ | refine gr_set ?_ | refine gr_set_new ?_ (by first | omega | (simp; omega))))⟩
theorem cut_one (s : ByteArray) (c : UInt8) (w : World) (hs : s.size ≤ 9223372036854775806) :
    Calls Tryz.prog 55 #[.string s, .string ⟨#[c]⟩] w fun e w' =>
      e = .returned (.tuple #[str (cutB s.data.toList c).1, str (cutB s.data.toList c).2.1, .bool (cutB s.data.toList c).2.2]) ∧ w.grownBy w' none := by
  generalize hb : cutB s.data.toList c = x
  have Hb := hid hb
  clear hb
  go_enter Tryz.func55, Tryz.ntmps55
  go_wp2_with fail
  refine (slcut_one s c w hs).mono ?_
  rintro e w' ⟨rfl, g⟩
  rw [Hb.out]
  go_wp2
  go_ret3
  exact ⟨rfl, g⟩
end Go.Proofs.YtldbcdiomkkinaaGreatDoor
/- head.Line: what it computes. -/
namespace Go.Proofs.YtldbcdiomkkinaaGreatDoor
open Go.RowKit

theorem trim_blanks (s : ByteArray) (w : World) (hs : s.size ≤ 9223372036854775807) :
    Calls Tryz.prog 71 #[.string s, .string ⟨#[32, 9]⟩] w fun e w' => e = .returned (str (Lib.trimS s.data.toList [32, 9])) ∧ w.grownBy w' none :=
  (Any.strings_Trim_laid Tryz.lays160 (by kernel_rfl) s ⟨#[32, 9]⟩ w hs (by decide) (ascii_of_all (by decide))).mono fun _ _ ⟨h, b⟩ => ⟨h, gr_of_below b⟩
def okC (c : UInt8) : Bool := (decide ((32 : Int) ≤ (c.toNat : Int)) || (c.toNat : Int) == 9) && (c.toNat : Int) != 127
def lnC (l : List UInt8) : List UInt8 × List UInt8 × Bool := cutB l 58
def lnV (l : List UInt8) : List UInt8 := Lib.trimS (lnC l).2.1 [32, 9]
def lnOk (l : List UInt8) : Bool := ((lnC l).2.2 && (lnV l).all okC) && tokB (lnC l).1
def lnR (l : List UInt8) : List UInt8 × List UInt8 × Bool := if lnOk l then (lowL (lnC l).1, lnV l, true) else ([], [], false)
/-- Two cells stored, and read. -/
theorem two_stored {w : World} {b : Nat} {x y u0 u1 : Value} (h0 : w.cell? ⟨b, 0, none⟩ = some u0) (h1 : w.cell? ⟨b, 1, none⟩ = some u1) :
    ((w.setCell ⟨b, 0, none⟩ x).setCell ⟨b, 1, none⟩ y).cell? ⟨b, 0, none⟩ = some x ∧ ((w.setCell ⟨b, 0, none⟩ x).setCell ⟨b, 1, none⟩ y).cell? ⟨b, 1, none⟩ = some y := by
  constructor
  · rw [World.cell?_setCell_other _ _ _ _ (by simp)]; exact World.cell?_setCell_same _ _ _ h0
  · exact World.cell?_setCell_same _ _ _ (u := u1) (by rw [World.cell?_setCell_other _ _ _ _ (by simp)]; exact h1)
theorem dropWhile_le (p : UInt8 → Bool) : ∀ l : List UInt8, (l.dropWhile p).length ≤ l.length
  | [] => by simp
  | x :: l => by
    have := dropWhile_le p l
    simp only [List.dropWhile]
    split <;> simp <;> omega
theorem trimS_le (l cs : List UInt8) : (Lib.trimS l cs).length ≤ l.length := by
  unfold Lib.trimS Lib.trimLeftS Lib.trimRightS
  have h1 := dropWhile_le (cs.contains ·) (l.reverse.dropWhile (cs.contains ·)).reverse
  have h2 := dropWhile_le (cs.contains ·) l.reverse
  simp only [List.length_reverse] at h1 h2
  omega
theorem cutB_le (l : List UInt8) (c : UInt8) : (cutB l c).1.length ≤ l.length ∧ (cutB l c).2.1.length ≤ l.length := by
  unfold cutB; split <;> simp <;> omega
set_option maxHeartbeats 4000000 in
theorem line_any (s : ByteArray) (w : World) (hs : s.size ≤ 9223372036854775806) :
    Calls Tryz.prog 56 #[.string s] w fun e w' => e = .returned (.tuple #[.agg #[str (lnR s.data.toList).1, str (lnR s.data.toList).2.1], .bool (lnR s.data.toList).2.2]) ∧ w.grownBy w' none := by
  obtain ⟨l, hl⟩ : ∃ l, l = s.data.toList := ⟨_, rfl⟩
  have hlen : s.size = l.length := by rw [hl, ← Lib.size_eq]
  rw [← hl]
  have Hl := hid hl
  have hc12 := cutB_le l 58
  have htr := trimS_le (cutB l 58).2.1 [32, 9]
  have hdef : lnR l = (if ((cutB l 58).2.2 && (Lib.trimS (cutB l 58).2.1 [32, 9]).all okC) && tokB (cutB l 58).1 then (lowL (cutB l 58).1, Lib.trimS (cutB l 58).2.1 [32, 9], true) else ([], [], false)) := rfl
  have hcut := cut_one s 58 (w.alloc (.cells #[.string ⟨#[]⟩, .string ⟨#[]⟩] 26)) hs
  rw [← hl] at hcut
  generalize cutB l 58 = C at *
  obtain ⟨n, v0, ok⟩ := C
  simp only [] at hc12 htr hdef hcut
  have Hcut := hid hcut
  clear hcut
  have Hdef := hid hdef
  clear hdef hl
  go_enter Tryz.func56, Tryz.ntmps56
  go_wp2_with fail
  refine Hcut.out.mono ?_
  rintro e w1 ⟨rfl, g1⟩
  unfold str
  go_wp2_with fail
  refine (trim_blanks ⟨v0.toArray⟩ w1 (by rw [Lib.size_eq]; simp; omega)).mono ?_
  rintro e w2 ⟨rfl, g2⟩
  rw [show (ByteArray.mk v0.toArray).data.toList = v0 from rfl]
  unfold str
  generalize hv : Lib.trimS v0 [32, 9] = v at *
  have Hv := hid hv
  clear hv
  have hsv : (ByteArray.mk v.toArray).size = v.length := by rw [Lib.size_eq]
  have G2 := gr_trans g1 g2
  clear g1 g2
  go_wp2_with (refine wpl_s2b rfl 9 22 5 _ rfl Tryz.underlying9 Tryz.underlying22 Tryz.underlying5 ⟨v.toArray⟩ rfl (by rw [hsv]; unfold maxLen; omega) ?_; intro g cap w3 hg hrow g3)
  have G3 := gr_trans G2 g3
  replace hrow : Row8 w3 5 g cap v := hrow
  try rw [hsv]
  have d0 : w3.cell? ⟨w.heap.size, 0, none⟩ = some (.string ⟨#[]⟩) := (cell_of_block (gr_keep G3 (heap_alloc_new w _) (by simp)) 0).trans rfl
  have d1 : w3.cell? ⟨w.heap.size, 1, none⟩ = some (.string ⟨#[]⟩) := (cell_of_block (gr_keep G3 (heap_alloc_new w _) (by simp)) 1).trans rfl
  have f0 : w3.frozen? ⟨w.heap.size, 0, none⟩ = false := free_of_block (gr_keep G3 (heap_alloc_new w _) (by simp)) 0
  have f1 : w3.frozen? ⟨w.heap.size, 1, none⟩ = false := free_of_block (gr_keep G3 (heap_alloc_new w _) (by simp)) 1
  have GW : w.grownBy w3 none := gr_trans (World.grownBy_alloc w _ none) G3
  have hlt3 : w.heap.size < w3.heap.size := by have := G3.size; simp at this; omega
  have hvm : v.length ≤ 9223372036854775806 := by have := hsv; omega
  have B3 := hid (gr_keep G3 (heap_alloc_new w _) (by simp))
  clear G2 g3 G3 hg hsv
  go_loop [6, 20] (fun vb vk => ∃ (k : Nat) (b : Bool), k ≤ v.length ∧ vk = .int .i64 k ∧ vb = .bool b ∧ Hid (b = (ok && (v.take k).all okC))) (fun _ vk => v.length - (intOf vk).toNat)
  case atStart => exact ⟨0, ok, Nat.zero_le _, rfl, rfl, by show ok = _; simp⟩
  case round =>
    obtain ⟨k, b, hk, rfl, rfl, hb⟩ := hrel
    by_cases hlt : k < v.length
    · have hc := hrow.cell (i := k) hlt
      have hnext := all_snoc v okC k hlt
      have hok : okC (v.getD k 0) = ((decide ((32 : Int) ≤ ((v.getD k 0).toNat : Int)) || ((v.getD k 0).toNat : Int) == 9) && ((v.getD k 0).toNat : Int) != 127) := rfl
      generalize v.getD k 0 = c at hc hnext hok
      have Hn := hid hnext
      have Ho := hid hok
      clear hnext hok
      have nextEq : ∀ x : Bool, x = (b && okC c) → Hid (x = (ok && (v.take (k + 1)).all okC)) := fun x hx => by
        show x = _
        rw [Hn.out, hx, hb.out, Bool.and_assoc]
      have hN := hid nextEq
      clear nextEq
      cases b
      · have hy := hN.out false (by simp)
        go_wp2
        go_round
        case rel => exact ⟨k + 1, false, by omega, by go_num, rfl, hy⟩
        case measure => simp [intOf]; omega
      · by_cases c1 : (32 : Int) ≤ (c.toNat : Int)
        · by_cases c2 : (c.toNat : Int) = 127
          · have hy := hN.out false (by rw [Ho.out]; simp [c2])
            have c2' : ((c.toNat : Int) != 127) = false := by simpa using c2
            clear c2
            go_wp2
            go_round
            case rel => exact ⟨k + 1, false, by omega, by go_num, rfl, hy⟩
            case measure => simp [intOf]; omega
          · have hy := hN.out true (by rw [Ho.out]; simp [c1]; omega)
            have c2' : ((c.toNat : Int) != 127) = true := by simpa using c2
            clear c2
            go_wp2
            go_round
            case rel => exact ⟨k + 1, true, by omega, by go_num, rfl, hy⟩
            case measure => simp [intOf]; omega
        · have c1' : (c.toNat : Int) < 32 := by omega
          by_cases c2 : (c.toNat : Int) = 9
          · have hy := hN.out true (by rw [Ho.out]; simp [c2])
            have c2' : ((c.toNat : Int) == 9) = true := by simpa using c2
            have c3' : ((c.toNat : Int) != 127) = true := by rw [c2]; rfl
            clear c2 c1
            go_wp2
            go_round
            case rel => exact ⟨k + 1, true, by omega, by go_num, rfl, hy⟩
            case measure => simp [intOf]; omega
          · have hy := hN.out false (by rw [Ho.out]; simp [c2]; omega)
            have c2' : ((c.toNat : Int) == 9) = false := by simpa using c2
            clear c2 c1
            go_wp2
            go_round
            case rel => exact ⟨k + 1, false, by omega, by go_num, rfl, hy⟩
            case measure => simp [intOf]; omega
    · obtain rfl : k = v.length := by omega
      have hb' := hid (show b = (ok && v.all okC) by have := hb.out; rw [List.take_length] at this; exact this)
      clear hb hlt hk
      have hnl : n.length ≤ 9223372036854775806 := by have h := hc12.1; omega
      have htok := token_any ⟨n.toArray⟩ w3 (by rw [Lib.size_eq]; simp; omega)
      rw [show (ByteArray.mk n.toArray).data.toList = n from rfl] at htok
      generalize ht : tokB n = t at htok
      have Htok := hid htok
      have Ht := hid ht
      clear htok ht
      cases b
      · have R := hid (show lnR l = ([], [], false) by rw [Hdef.out]; rw [← hb'.out]; rfl)
        go_wp2
        obtain ⟨z0, z1⟩ := two_stored (x := .string ⟨#[]⟩) (y := .string ⟨#[]⟩) d0 d1
        exact bodyPost_ret (v := .tuple #[.agg #[.string ⟨#[]⟩, .string ⟨#[]⟩], .bool false]) (by simp [results, Tryz.results56, go_sem, z0, z1]) rfl ⟨by rw [R.out]; rfl, by (repeat (first | exact gr_refl _ _ | assumption | refine gr_drew ?_ | refine gr_drewN _ ?_ | refine gr_alloc ?_ _ | refine gr_set ?_ | refine gr_set_new ?_ (by first | omega | (simp; omega))))⟩
      · cases t
        · have R := hid (show lnR l = ([], [], false) by rw [Hdef.out]; rw [← hb'.out, Ht.out]; rfl)
          go_wp2_with fail
          refine Htok.out.mono ?_
          rintro e w4 ⟨rfl, g4⟩
          have k0 := g4.cell d0 (by simp)
          have k1 := g4.cell d1 (by simp)
          have q0 : w4.frozen? ⟨w.heap.size, 0, none⟩ = false := free_of_block (gr_keep g4 B3.out (by simp)) 0
          have q1 : w4.frozen? ⟨w.heap.size, 1, none⟩ = false := free_of_block (gr_keep g4 B3.out (by simp)) 1
          have hlt4 : w.heap.size < w4.heap.size := Nat.lt_of_lt_of_le hlt3 g4.size
          have GW4 := gr_trans GW g4
          go_wp2
          obtain ⟨z0, z1⟩ := two_stored (x := .string ⟨#[]⟩) (y := .string ⟨#[]⟩) k0 k1
          exact bodyPost_ret (v := .tuple #[.agg #[.string ⟨#[]⟩, .string ⟨#[]⟩], .bool false]) (by simp [results, Tryz.results56, go_sem, z0, z1]) rfl ⟨by rw [R.out]; rfl, by (repeat (first | exact gr_refl _ _ | assumption | refine gr_drew ?_ | refine gr_drewN _ ?_ | refine gr_alloc ?_ _ | refine gr_set ?_ | refine gr_set_new ?_ (by first | omega | (simp; omega))))⟩
        · have R := hid (show lnR l = (lowL n, v, true) by rw [Hdef.out]; rw [← hb'.out, Ht.out]; rfl)
          go_wp2_with fail
          refine Htok.out.mono ?_
          rintro e w4 ⟨rfl, g4⟩
          go_wp2_with fail
          refine (lower_any ⟨n.toArray⟩ w4 (by rw [Lib.size_eq]; simp; omega)).mono ?_
          rintro e w5 ⟨rfl, g5⟩
          rw [show (ByteArray.mk n.toArray).data.toList = n from rfl]
          unfold str
          have g45 := gr_trans g4 g5
          have k0 := g45.cell d0 (by simp)
          have k1 := g45.cell d1 (by simp)
          have q0 : w5.frozen? ⟨w.heap.size, 0, none⟩ = false := free_of_block (gr_keep g45 B3.out (by simp)) 0
          have q1 : w5.frozen? ⟨w.heap.size, 1, none⟩ = false := free_of_block (gr_keep g45 B3.out (by simp)) 1
          have hlt5 : w.heap.size < w5.heap.size := Nat.lt_of_lt_of_le hlt3 g45.size
          have GW5 := gr_trans GW g45
          go_wp2
          obtain ⟨z0, z1⟩ := two_stored (x := .string ⟨(lowL n).toArray⟩) (y := .string ⟨v.toArray⟩) k0 k1
          exact bodyPost_ret (v := .tuple #[.agg #[.string ⟨(lowL n).toArray⟩, .string ⟨v.toArray⟩], .bool true]) (by simp [results, Tryz.results56, go_sem, z0, z1]) rfl ⟨by rw [R.out]; rfl, by (repeat (first | exact gr_refl _ _ | assumption | refine gr_drew ?_ | refine gr_drewN _ ?_ | refine gr_alloc ?_ _ | refine gr_set ?_ | refine gr_set_new ?_ (by first | omega | (simp; omega))))⟩
end Go.Proofs.YtldbcdiomkkinaaGreatDoor
/- The document's example; the walk of HeadNumbers. -/
namespace Go.Proofs.YtldbcdiomkkinaaGreatDoor
open Go.RowKit

def exL : List UInt8 := [83, 79, 65, 80, 65, 99, 116, 105, 111, 110, 58, 32, 32, 97, 32]
theorem exL_R : lnR exL = ([115, 111, 97, 112, 97, 99, 116, 105, 111, 110], [97], true) := by decide +kernel
end Go.Proofs.YtldbcdiomkkinaaGreatDoor
/- head.Get, hearthref15.Get, head.Same, hearthref15.Lower. -/
namespace Go.Proofs.YtldbcdiomkkinaaGreatDoor
open Go.RowKit

theorem infoStr : (Tryz.prog.info? 9).map (fun i => (i.zero, i.size, i.bytes)) = some (some (.string ⟨#[]⟩), 1, 16) := by kernel_rfl
theorem infoU8 : (Tryz.prog.info? 5).map (fun i => (i.zero, i.size, i.bytes)) = some (some (.int .u8 0), 1, 1) := by kernel_rfl
/-- The values of a name. -/
def getN (ns vs : Nat → ByteArray) (name : ByteArray) : Nat → List ByteArray
  | 0 => []
  | k + 1 => if ns k = name then getN ns vs name k ++ [vs k] else getN ns vs name k
theorem getN_le (ns vs : Nat → ByteArray) (name : ByteArray) : ∀ k, (getN ns vs name k).length ≤ k
  | 0 => Nat.le_refl _
  | k + 1 => by
    have := getN_le ns vs name k
    unfold getN; split <;> simp <;> omega
def GetPost (w : World) (xs : List ByteArray) (e : Ending) (w' : World) : Prop :=
  ∃ v, e = .returned v ∧ w'.ownsRow w.heap.size 9 1 v xs.length (xs.map Value.string) ∧ w.grownBy w' none
set_option maxHeartbeats 2000000 in
theorem get_any (w : World) (a : Option Addr) (len cap : Nat) (ns vs : Nat → ByteArray) (name : ByteArray) (h : PairsAt w a len ns vs) (hlen : len ≤ 200000) :
    Calls Tryz.prog 67 #[.slice a len cap, .string name] w (GetPost w (getN ns vs name len)) := by
  obtain ⟨i0, hi, hz0, hz1, hz2⟩ := info_parts infoStr
  go_enter Tryz.func67, Tryz.ntmps67
  go_wp2_with fail
  go_loopw [4, 9] (fun vo vk wr => ∃ k : Nat, vk = .int .i64 k ∧ k ≤ len ∧ wr.ownsRow w.heap.size 9 1 vo (getN ns vs name k).length ((getN ns vs name k).map Value.string) ∧ w.grownBy wr none) (fun _ vk _ => len - (intOf vk).toNat)
  case atStart => exact ⟨0, rfl, Nat.zero_le _, World.ownsRow_nil _ _ _ _, gr_refl _ _⟩
  case round =>
    obtain ⟨k, rfl, hk, hown, gw⟩ := hrel
    have gl := getN_le ns vs name k
    have hsz := gw.size
    by_cases hkl : k < len
    · rcases h with h0 | ⟨b, o, rfl, hp⟩
      · omega
      have c0 := ((hp k hkl).grown gw).c0
      have c1 := ((hp k hkl).grown gw).c1
      clear hp
      by_cases he : ns k = name
      · have R := hid (show getN ns vs name (k + 1) = getN ns vs name k ++ [vs k] by simp only [getN]; rw [if_pos he])
        have heq : ((ns k).toList == name.toList) = true := by rw [toList_beq]; simpa using he
        clear he
        go_wp2_with (at_builtin; refine wpList_append_own _ rfl _ _ 59 rfl w.heap.size 9 i0 _ 1 16 Tryz.underlying59 hi hz0 hz1 hz2 rfl (by decide) _ _ _ rfl ((hown.alloc _).alloc _) ⟨wr.heap.size + 1, 0, none⟩ 1 1 [.string (vs k)] rfl rfl ?c1 ?c2 ?c3 ?c4 ?c5 ?_)
        case c1 =>
          intro j u hj
          match j, hj with
          | 0, hj => simp at hj; subst hj; simp [Addr.add]
        case c2 => intro u hu; simp at hu; subst hu; rfl
        case c3 => unfold maxLen; omega
        case c4 => omega
        case c5 => simp; omega
        · intro v' w1 hown' hgrow _
          have hg' := gr_own (gr_alloc (gr_alloc gw _) _) ((hown.alloc _).alloc _) (Nat.le_refl _) hgrow
          clear hgrow hown
          go_wp2
          go_roundw
          case rel => exact ⟨k + 1, by go_num, by omega, by rw [R.out]; simpa using hown', hg'⟩
          case measure => simp [intOf]; omega
      · have R := hid (show getN ns vs name (k + 1) = getN ns vs name k by simp only [getN]; rw [if_neg he])
        have heq : ((ns k).toList == name.toList) = false := by rw [toList_beq]; simpa using he
        clear he
        go_wp2
        go_roundw
        case rel => exact ⟨k + 1, by go_num, by omega, by rw [R.out]; exact hown.alloc _, by (repeat (first | exact gr_refl _ _ | assumption | refine gr_drew ?_ | refine gr_drewN _ ?_ | refine gr_alloc ?_ _ | refine gr_set ?_ | refine gr_set_new ?_ (by first | omega | (simp; omega))))⟩
        case measure => simp [intOf]; omega
    · obtain rfl : k = len := by omega
      go_wp2
      go_ret
      exact ⟨_, rfl, hown, gw⟩
end Go.Proofs.YtldbcdiomkkinaaGreatDoor
/- hearthref15.Get, head.Same, hearthref15.Lower. -/
namespace Go.Proofs.YtldbcdiomkkinaaGreatDoor
open Go.RowKit

theorem same_any (s t : ByteArray) (w : World) (hs : s.size ≤ 9223372036854775807) (ht : t.size ≤ 9223372036854775807) :
    Calls Tryz.prog 82 #[.string s, .string t] w fun e w' => e = .returned (.bool (lowL s.data.toList == lowL t.data.toList)) ∧ w.grownBy w' none := by
  generalize ha : lowL s.data.toList = a
  generalize hb : lowL t.data.toList = b
  have A := hid ha
  have B := hid hb
  clear ha hb
  have he : ((ByteArray.mk a.toArray).toList == (ByteArray.mk b.toArray).toList) = (a == b) := by rw [Lib.toList_data, Lib.toList_data]
  have He := hid he
  clear he
  go_enter Tryz.func82, Tryz.ntmps82
  go_wp2_with fail
  refine (lower_any s w hs).mono ?_
  rintro e w1 ⟨rfl, g1⟩
  rw [A.out]
  unfold str
  go_wp2_with fail
  refine (lower_any t w1 ht).mono ?_
  rintro e w2 ⟨rfl, g2⟩
  rw [B.out]
  unfold str
  go_wp2
  go_ret
  exact ⟨by first | rfl | (rw [← He.out]; rfl), gr_trans g1 g2⟩
end Go.Proofs.YtldbcdiomkkinaaGreatDoor
