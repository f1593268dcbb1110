/- The walk of StreamGivesUp: its loop over the steps. -/
import Derived.Test.YtcgmbeibhingcaaStr4
import Derived.OpenShut
import Derived.Laws.BitsAllLaws
namespace Go.Proofs.Ytcgmbeibhingcaa
open Go.RowKit

def IsRow (k : IntKind) (w : World) (a : Option Addr) (len cap : Nat) (zs : List Int) : Prop :=
  (a = none ∧ len = 0 ∧ cap = 0 ∧ zs = []) ∨
  ∃ x, a = some x ∧ len ≤ cap ∧ cap ≤ maxLen ∧ zs.length = cap ∧ (∀ i, i < zs.length → w.cell? (x.add i) = some (.int k (zs.getD i 0))) ∧ ∀ n ∈ zs, (Lit.int k n).wf = true

/-- The connection behind t tries. -/
def triedCn (own due : Int) (t : Nat) (ph : Int) : Cn := { dialCn 5000 80 own with timed := true, due := due, tries := t, phase := ph }
structure GuInv (w wr : World) (b : Nat) (own : Int) (now due : Int) (t k : Nat) : Prop where
  now0 : 0 ≤ now
  now1 : now ≤ 65535 * k
  t6 : t ≤ 6
  conn : ∃ d, ConnAt wr b (triedCn own d t (if t = 6 then 4 else 0)) ∧ (t < 6 → d = due)
  gr : w.grownBy wr none
theorem and_mask (x : Int) (h0 : 0 ≤ x) (h1 : x ≤ 18446744073709551615) : 0 ≤ bits BinOp.and IntKind.u64 x 65535 ∧ bits BinOp.and IntKind.u64 x 65535 ≤ 65535 := by
  rw [u64_and x 65535 h0 (by omega) (by omega) (by omega)]
  have : x.toNat &&& (65535 : Int).toNat ≤ (65535 : Int).toNat := Nat.and_le_right
  omega
theorem phase_at (b : Nat) (c : Cn) (w : World) (q : Int) (h : ConnAt w b c) (hq : c.phase = q) :
    Calls Try.prog 10 #[.pointer (some ⟨b, 0, none⟩)] w fun e w' => e = .returned (.int .i64 q) ∧ w = w' := hq ▸ phase_any b c w h
set_option maxHeartbeats 2000000 in
theorem gives_up_walk (own : Int) (a1 : Option Addr) (len1 cap1 : Nat) (z1 : List Int) (w : World) (hz : IsRow .u64 w a1 len1 cap1 z1) :
    Calls Try.prog 3 #[.int .u32 own, .slice a1 len1 cap1] w fun e w' => e = .returned (.bool true) ∧ w.grownBy w' none := by
  by_cases h300 : 300 < len1
  · go_enter Try.func3, Try.ntmps3
    go_wp2_with fail
    refine (speaks_true w).mono ?_
    rintro e w1 ⟨rfl, g1⟩
    go_wp2
    go_ret
    exact ⟨rfl, g1⟩
  · have h300' : len1 ≤ 300 := by omega
    clear h300
    go_enter Try.func3, Try.ntmps3
    go_wp2_with fail
    refine (speaks_true w).mono ?_
    rintro e w1 ⟨rfl, g1⟩
    go_wp2_with fail
    refine (dial_any w1 5000 80 own 0).mono ?_
    rintro e w2 ⟨b, g, rfl, hg, hgs, hbs, h2, g2⟩
    go_wp2_with fail
    go_loopw [7, 8, 9, 27] (fun vn vd vt vk wr => ∃ (now due : Int) (t k : Nat), vn = .int .u64 now ∧ vd = .int .u64 due ∧ vt = .int .i64 t ∧ vk = .int .i64 k ∧ k ≤ len1 ∧ GuInv w wr b own now due t k) (fun _ _ _ vk _ => len1 - (intOf vk).toNat)
    case atStart =>
      refine ⟨0, 3, 0, 0, rfl, rfl, rfl, rfl, Nat.zero_le _, ⟨by omega, by omega, by omega, ⟨3, ?_, fun _ => rfl⟩, gr_trans g1 g2⟩⟩
      have : (dialCn 5000 80 own).set 0 = triedCn own 3 0 (if 0 = 6 then 4 else 0) := by simp [Cn.set, dialCn, triedCn]; decide
      rw [← this]; exact h2
    case round =>
      obtain ⟨now, due, t, k, rfl, rfl, rfl, rfl, hk, hinv⟩ := hrel
      obtain ⟨d, hconn, hdue⟩ := hinv.conn
      have n0 := hinv.now0
      have n1 := hinv.now1
      have t6 := hinv.t6
      have gw := hinv.gr
      clear hinv hg
      by_cases hkl : k < len1
      · rcases hz with ⟨_, rfl, _⟩ | ⟨x, rfl, hl, hm, hzl, hcell, hwf⟩
        · omega
        obtain ⟨bb, off, rfl, hc⟩ := ints_at hcell (by omega)
        have hx := gw.cell (hc k (by omega)) (by simp)
        obtain ⟨x, ex⟩ : ∃ x, x = z1.getD k 0 := ⟨_, rfl⟩
        rw [← ex] at hx
        have xb := bounds_u64 (hwf x (by rw [ex]; rw [List.getD_eq_getElem?_getD, List.getElem?_eq_getElem (by omega)]; exact List.getElem_mem _))
        clear ex hc hcell hwf
        obtain ⟨y, ey⟩ : ∃ y, bits BinOp.and IntKind.u64 x 65535 = y := ⟨_, rfl⟩
        have y0 : 0 ≤ y ∧ y ≤ 65535 := by rw [← ey]; exact and_mask x xb.1 xb.2
        clear xb
        by_cases ht6 : t = 6
        · subst ht6
          go_wp2_with fail
          refine (tick_idle b _ wr _ hconn (.inl (by simp [overB, triedCn]))).mono ?_
          rintro e w3 ⟨rfl, rfl⟩
          go_wp2_with fail
          go_roundw
          case rel => exact ⟨now + y, due, 6, k + 1, rfl, rfl, rfl, by go_num, by omega, ⟨by omega, by omega, by omega, ⟨d, hconn, hdue⟩, gw⟩⟩
          case measure => simp [intOf]; omega
        · have hd := hdue (by omega)
          subst hd
          rw [if_neg ht6] at hconn
          by_cases hnow : now + y < d
          · go_wp2_with fail
            refine (tick_idle b _ wr _ hconn (.inr (.inr hnow))).mono ?_
            rintro e w3 ⟨rfl, rfl⟩
            go_wp2_with fail
            go_roundw
            case rel => exact ⟨now + y, d, t, k + 1, rfl, rfl, rfl, by go_num, by omega, ⟨by omega, by omega, by omega, ⟨d, by rw [if_neg ht6]; exact hconn, fun _ => rfl⟩, gw⟩⟩
            case measure => simp [intOf]; omega
          · by_cases ht5 : t = 5
            · subst ht5
              go_wp2_with fail
              refine (tick_gone b _ wr _ none 0 0 hconn (by simp [overB, triedCn]) rfl (by simp [triedCn]; omega) (by simp [triedCn]) rfl (by omega)).mono ?_
              rintro e w3 ⟨g3, cs, rfl, hg3, h4, hs3, h3, gr3⟩
              have k4 : w3.cell? ⟨g3, 4, none⟩ = some (.int .u8 20) := (cell_of_block hg3 _).trans h4
              have hb2 : bits BinOp.and IntKind.u8 20 4 = 4 := by decide
              clear hg3 h4
              go_wp2_with fail
              refine (phase_at b _ _ 4 h3 rfl).mono ?_
              rintro e w4 ⟨rfl, rfl⟩
              go_wp2_with fail
              go_roundw
              case rel => exact ⟨now + y, _, 6, k + 1, rfl, rfl, rfl, by go_num, by omega, ⟨by omega, by omega, by omega, ⟨d, h3, fun h => absurd h (by omega)⟩, gr_new gw gr3 (by have := g1.size; omega)⟩⟩
              case measure => simp [intOf]; omega
            · have q1 : ((t : Int) + 1 == 6) = false := by rw [beq_eq_false_iff_ne]; omega
              go_wp2_with fail
              refine (tick_more b _ wr _ none 0 0 hconn (by simp [overB, triedCn]) rfl (by simp [triedCn]; omega) (by simp [triedCn]) (by simp [triedCn]) (by simp [triedCn]; omega) rfl (by omega)).mono ?_
              rintro e w3 ⟨g3, rfl, hg3, hs3, h3, gr3⟩
              have k4 : w3.cell? ⟨g3, 4, none⟩ = some (.int .u8 2) := (cell_of_block hg3 _).trans (by simp [Cn.seg, Cn.tried, triedCn, dialCn, Cn.set])
              have hb2 : bits BinOp.and IntKind.u8 2 4 = 0 := by decide
              clear hg3
              go_wp2_with fail
              refine (phase_at b _ _ 0 h3 rfl).mono ?_
              rintro e w4 ⟨rfl, rfl⟩
              go_wp2_with fail
              go_roundw
              case rel =>
                refine ⟨now + y, _, t + 1, k + 1, rfl, rfl, by go_num, by go_num, by omega, ⟨by omega, by omega, by omega, ⟨_, ?_, fun _ => rfl⟩, gr_new gw gr3 (by have := g1.size; omega)⟩⟩
                rw [if_neg (by omega)]
                exact h3
              case measure => simp [intOf]; omega
      · have hp : (triedCn own d t (if t = 6 then 4 else 0)).phase = (if t = 6 then 4 else 0) := rfl
        go_wp2_with fail
        refine (phase_at b _ _ _ hconn hp).mono ?_
        rintro e w4 ⟨rfl, rfl⟩
        by_cases ht6 : t = 6
        · subst ht6
          go_wp2_with fail
          go_ret
          exact ⟨rfl, gw⟩
        · rw [if_neg ht6]
          have q1 : decide ((5 : Int) < (t : Int)) = false := by simp; omega
          go_wp2_with fail
          go_ret
          exact ⟨rfl, gw⟩
end Go.Proofs.Ytcgmbeibhingcaa
