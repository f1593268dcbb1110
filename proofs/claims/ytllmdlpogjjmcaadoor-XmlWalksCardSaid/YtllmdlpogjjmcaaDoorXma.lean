/- The parser's misc, hearthref17.Doc's around. -/
import Derived.Test.YtllmdlpogjjmcaaDoorXm9
namespace Go.Proofs.YtllmdlpogjjmcaaDoor
open Go.RowKit
set_option linter.unusedVariables false

def noteO : List UInt8 := [60, 33, 45, 45]
def noteC : List UInt8 := [45, 45, 62]
/-- Blanks and comments passed over. -/
def miscL : Nat → List UInt8 → Option (List UInt8)
  | 0, _ => none
  | n + 1, r => if Lib.hasPrefix (Lib.trimLeftS r blkL) noteO then (if (Lib.cut (Lib.trimPrefix (Lib.trimLeftS r blkL) noteO) noteC).2.2 then miscL n (Lib.cut (Lib.trimPrefix (Lib.trimLeftS r blkL) noteO) noteC).2.1 else none) else some (Lib.trimLeftS r blkL)
def miscA (r : List UInt8) : Option (List UInt8) := miscL (r.length + 1) r
theorem trimS_len (l : List UInt8) : (Lib.trimLeftS l blkL).length ≤ l.length := (List.dropWhile_sublist _).length_le
theorem trimP_len {l p : List UInt8} (h : Lib.hasPrefix l p = true) : (Lib.trimPrefix l p).length + p.length = l.length := by
  have := (List.isPrefixOf_iff_prefix.1 h).length_le
  unfold Lib.trimPrefix
  rw [if_pos h, List.length_drop]; omega
theorem cut_len (l s : List UInt8) : (Lib.cut l s).2.1.length ≤ l.length := by
  unfold Lib.cut
  split
  · rw [List.length_drop]; omega
  · simp
theorem misc_step {n : Nat} {r : List UInt8} {R : Option (List UInt8)} (h : miscL n r = R) (hn : r.length < n) :
    (Lib.hasPrefix (Lib.trimLeftS r blkL) noteO = false ∧ R = some (Lib.trimLeftS r blkL)) ∨
    (Lib.hasPrefix (Lib.trimLeftS r blkL) noteO = true ∧ (Lib.cut (Lib.trimPrefix (Lib.trimLeftS r blkL) noteO) noteC).2.2 = false ∧ R = none) ∨
    (Lib.hasPrefix (Lib.trimLeftS r blkL) noteO = true ∧ (Lib.cut (Lib.trimPrefix (Lib.trimLeftS r blkL) noteO) noteC).2.2 = true ∧ ∃ m, miscL m (Lib.cut (Lib.trimPrefix (Lib.trimLeftS r blkL) noteO) noteC).2.1 = R ∧ (Lib.cut (Lib.trimPrefix (Lib.trimLeftS r blkL) noteO) noteC).2.1.length < m ∧ (Lib.cut (Lib.trimPrefix (Lib.trimLeftS r blkL) noteO) noteC).2.1.length < r.length) := by
  cases n with
  | zero => omega
  | succ n =>
    unfold miscL at h
    cases hp : Lib.hasPrefix (Lib.trimLeftS r blkL) noteO
    · rw [hp] at h; exact .inl ⟨rfl, h.symm⟩
    · rw [hp, if_pos rfl] at h
      have h1 := trimP_len hp
      have h2 := trimS_len r
      have h3 := cut_len (Lib.trimPrefix (Lib.trimLeftS r blkL) noteO) noteC
      have h4 : noteO.length = 4 := rfl
      cases hc : (Lib.cut (Lib.trimPrefix (Lib.trimLeftS r blkL) noteO) noteC).2.2
      · rw [hc] at h; exact .inr (.inl ⟨rfl, rfl, h.symm⟩)
      · rw [hc, if_pos rfl] at h
        exact .inr (.inr ⟨rfl, rfl, n, h, by omega, by omega⟩)
def prJ (wr : World) (b : Nat) : Nat := match wr.cell? ⟨b, 0, none⟩ with | some (.string s) => s.size | _ => 0
theorem prJ_of {w : World} {b : Nat} {rest : List UInt8} {sv : Value} {cnt : Int} {full : Bool} (h : PrAt w b rest sv cnt full) : prJ w b = rest.length := by
  unfold prJ; rw [h.cells.1]; exact Lib.size_eq _
theorem cell0 {w w' : World} {b : Nat} {v : Value} (g : w.grownBy w' (some b)) (hb : b ≠ 0) (h : w.cell? ⟨0, 0, none⟩ = some v) : w'.cell? ⟨0, 0, none⟩ = some v := g.cell h (by simpa using Ne.symm hb)
set_option maxHeartbeats 2000000 in
theorem misc_x (b : Nat) (rest : List UInt8) (sv : Value) (cnt : Int) (full : Bool) (m : Int) (w : World) (h : PrAt w b rest sv cnt full) (hm : w.cell? ⟨0, 0, none⟩ = some (.int .i64 m)) (hb : b ≠ 0) (hs : rest.length ≤ 100000) :
    Calls Tryd.prog 26 #[.pointer (some ⟨b, 0, none⟩)] w fun e w' => w.grownBy w' (some b) ∧ ((∃ t, miscA rest = some t ∧ e = .returned (.bool true) ∧ PrAt w' b t sv cnt full) ∨ (miscA rest = none ∧ e = .returned (.bool false) ∧ ∃ r', PrAt w' b r' sv cnt full)) := by
  obtain ⟨R, hR⟩ : ∃ R, miscA rest = R := ⟨_, rfl⟩
  rw [hR]
  have H := hid h
  have HR := hid hR
  have HM := hid hm
  clear h hR hm
  go_enter Tryd.func26, Tryd.ntmps26
  go_wp2_with fail
  go_loopw [5] (fun _ wr => ∃ r n, PrAt wr b r sv cnt full ∧ w.grownBy wr (some b) ∧ Hid (miscL n r = R) ∧ r.length < n ∧ r.length ≤ 100000) (fun _ wr => prJ wr b)
  case atStart => exact ⟨rest, rest.length + 1, H.out, gr_refl _ _, HR.out, by omega, hs⟩
  case round =>
    obtain ⟨r, n, hp, gw, hmi, hn, hr⟩ := hrel
    have HPJ := hid (prJ_of hp)
    have HP := hid (blank_x b r sv cnt full wr hp hr)
    have hst := misc_step hmi.out hn
    have ht := trimS_len r
    generalize Lib.trimLeftS r blkL = t at *
    have HST := hid hst
    clear hp hst
    go_wp2_with fail
    refine HP.out.mono ?_
    rintro e w1 ⟨rfl, hp1, g1⟩
    have G1 := hid (gr_trans gw g1)
    have HT := hid (take_x b t noteO sv cnt full w1 hp1)
    go_wp2_with fail
    refine HT.out.mono ?_
    rintro e w2 ⟨rfl, hp2, g2⟩
    have G2 := hid (gr_trans G1.out g2)
    rcases HST.out with ⟨e1, e2⟩ | ⟨e1, e2, e3⟩ | ⟨e1, e2, n', e3, e4, e5⟩
    · rw [e1]
      have hp3 : PrAt w2 b t sv cnt full := by unfold Lib.trimPrefix at hp2; rw [e1] at hp2; exact hp2
      go_wp2
      go_ret
      exact ⟨G2.out, .inl ⟨t, e2, rfl, hp3⟩⟩
    · rw [e1]
      have hl := trim_len t noteO
      have HU := hid (until_x b _ noteC sv cnt full m w2 hp2 (cell0 G2.out hb HM.out) (by omega))
      generalize Lib.cut (Lib.trimPrefix t noteO) noteC = C at *
      rw [e2] at HU
      go_wp2_with fail
      refine HU.out.mono ?_
      rintro e w3 ⟨rfl, hp3, g3⟩
      go_wp2
      go_ret
      exact ⟨gr_trans G2.out g3, .inr ⟨e3, rfl, _, hp3⟩⟩
    · rw [e1]
      have hl := trim_len t noteO
      have HU := hid (until_x b _ noteC sv cnt full m w2 hp2 (cell0 G2.out hb HM.out) (by omega))
      generalize Lib.cut (Lib.trimPrefix t noteO) noteC = C at *
      rw [e2] at HU
      go_wp2_with fail
      refine HU.out.mono ?_
      rintro e w3 ⟨rfl, hp3, g3⟩
      have HP3 := hid (show PrAt w3 b C.2.1 sv cnt full from hp3)
      go_wp2
      go_roundw
      case rel => exact ⟨_, n', HP3.out, gr_trans G2.out g3, e3, e4, by omega⟩
      case measure => rw [prJ_of HP3.out, HPJ.out]; exact e5
def bdJ (wr : World) (b : Nat) : Nat := match wr.cell? ⟨b, 3, none⟩ with | some (.bool true) => 0 | _ => 1
theorem bdJ_of {w : World} {b : Nat} {S r : List UInt8} {cnt : Int} {bad full : Bool} (h : DcR w b S r cnt bad full) : bdJ w b = if bad then 0 else 1 := by
  unfold bdJ; rw [h.bad]; cases bad <;> rfl
def dcJ (S : List UInt8) (wr : World) (b : Nat) : Nat := S.length - upJ wr b
theorem dcJ_of {w : World} {b : Nat} {S r : List UInt8} {cnt : Int} {bad full : Bool} (h : DcR w b S r cnt bad full) : dcJ S w b = r.length := by
  obtain ⟨i, h1, rfl, h3⟩ := h
  unfold dcJ; rw [upJ_of h3, List.length_drop]
set_option maxHeartbeats 2000000 in
theorem around_r (b : Nat) (S rest : List UInt8) (cnt : Int) (full : Bool) (w : World) (h : DcR w b S rest cnt false full) (hS : S.length ≤ 100000) :
    Calls Tryd.prog 19 #[.pointer (some ⟨b, 0, none⟩)] w fun e w' => e = .returned (.tuple #[]) ∧ w.grownBy w' (some b) ∧ ((∃ t, miscA rest = some t ∧ DcR w' b S t cnt false full) ∨ (miscA rest = none ∧ ∃ r', DcR w' b S r' cnt true full)) := by
  obtain ⟨R, hR⟩ : ∃ R, miscA rest = R := ⟨_, rfl⟩
  rw [hR]
  have HB0 := hid (blanks_r b S rest cnt false full w h hS)
  have HL := hid h.len
  have HR := hid hR
  clear h hR
  go_enter Tryd.func19, Tryd.ntmps19
  go_wp2_with fail
  refine HB0.out.mono ?_
  rintro e w0 ⟨n0, rfl, -, hd0, g0⟩
  have G0 := hid g0
  have HD0 := hid hd0
  clear hd0 g0
  go_wp2_with fail
  go_loopw [4] (fun _ wr => w.grownBy wr (some b) ∧ ((∃ r n, DcR wr b S (Lib.trimLeftS r blkL) cnt false full ∧ Hid (miscL n r = R) ∧ r.length < n) ∨ (R = none ∧ ∃ r', DcR wr b S r' cnt true full))) (fun _ wr => (if bdJ wr b = 0 then 0 else dcJ S wr b + 1))
  case atStart => exact ⟨G0.out, .inl ⟨rest, rest.length + 1, HD0.out, HR.out, by omega⟩⟩
  case round =>
    obtain ⟨gw, hrel⟩ := hrel
    have GW := hid gw
    clear gw
    rcases hrel with ⟨r, n, hd, hmi, hn⟩ | ⟨hRn, r', hd⟩
    · have hst := misc_step hmi.out hn
      have hbd := hd.bad
      have HJ := hid (dcJ_of hd)
      have hln := hd.len
      have HP := hid (pass_r b S _ noteO cnt false full wr hd hS (by decide))
      generalize Lib.trimLeftS r blkL = t at *
      have HST := hid hst
      clear hst
      rcases HST.out with ⟨e1, e2⟩ | ⟨e1, e2, e3⟩ | ⟨e1, e2, n', e3, e4, e5⟩
      · rw [e1] at HP
        go_wp2_with fail
        refine HP.out.mono ?_
        rintro e w2 ⟨rfl, hp2, g2⟩
        have hp3 : DcR w2 b S t cnt false full := by unfold Lib.trimPrefix at hp2; rw [e1] at hp2; exact hp2
        have HP3 := hid hp3
        clear hp2 hp3
        go_wp2
        refine bodyPost_end (results_none rfl _ _ _) rfl ?_
        exact ⟨rfl, gr_trans GW.out g2, .inl ⟨t, e2, HP3.out⟩⟩
      · have hl := trim_len t noteO
        rw [e1] at HP
        have HU := hid (fun W hW => upto_r b S (Lib.trimPrefix t noteO) noteC cnt full W hW hS (by decide) (by decide))
        unfold UpPost at HU
        rw [e2] at HU
        go_wp2_with fail
        refine HP.out.mono ?_
        rintro e w2 ⟨rfl, hp2, g2⟩
        have G2 := hid (gr_trans GW.out g2)
        go_wp2_with fail
        refine (HU.out w2 hp2).mono ?_
        rintro e w3 ⟨g3, h3⟩
        rcases h3 with ⟨h3, _⟩ | ⟨-, rfl, r3, h3⟩
        · cases h3
        have G3 := hid (gr_trans G2.out g3)
        have HBL := hid (blanks_r b S r3 cnt true full w3 h3 hS)
        go_wp2_with fail
        refine HBL.out.mono ?_
        rintro e w4 ⟨n4, rfl, -, h4, g4⟩
        have H4 := hid h4
        have G4 := hid (gr_trans G3.out g4)
        have HBD := hid (bdJ_of h4)
        have HBO := hid (bdJ_of hd)
        clear hbd h4 h3 hp2
        go_wp2
        go_roundw
        case rel => exact ⟨G4.out, .inr ⟨e3, _, H4.out⟩⟩
        case measure => rw [HBD.out, HBO.out]; simp
      · have hl := trim_len t noteO
        have htl := trimP_len e1
        have hcl := cut_len (Lib.trimPrefix t noteO) noteC
        rw [e1] at HP
        have HU := hid (fun W hW => upto_r b S (Lib.trimPrefix t noteO) noteC cnt full W hW hS (by decide) (by decide))
        unfold UpPost at HU
        rw [e2] at HU
        go_wp2_with fail
        refine HP.out.mono ?_
        rintro e w2 ⟨rfl, hp2, g2⟩
        have G2 := hid (gr_trans GW.out g2)
        go_wp2_with fail
        refine (HU.out w2 hp2).mono ?_
        rintro e w3 ⟨g3, h3⟩
        rcases h3 with ⟨-, rfl, h3⟩ | ⟨h3, _⟩
        rotate_left
        · cases h3
        generalize (Lib.cut (Lib.trimPrefix t noteO) noteC) = C at *
        have G3 := hid (gr_trans G2.out g3)
        have HBL := hid (blanks_r b S C.2.1 cnt false full w3 h3 hS)
        have htt := trimS_len C.2.1
        have h44 : noteO.length = 4 := rfl
        unfold str
        go_wp2_with fail
        refine HBL.out.mono ?_
        rintro e w4 ⟨n4, rfl, -, h4, g4⟩
        have H4 := hid h4
        have G4 := hid (gr_trans G3.out g4)
        have HBD := hid (bdJ_of h4)
        have HBO := hid (bdJ_of hd)
        have HJ4 := hid (dcJ_of h4)
        clear hbd h4 h3 hp2
        go_wp2
        go_roundw
        case rel => exact ⟨G4.out, .inl ⟨_, n', H4.out, e3, e4⟩⟩
        case measure => rw [HBD.out, HBO.out, HJ4.out, HJ.out]; simp; omega
    · have hbd := hd.bad
      go_wp2
      refine bodyPost_end (results_none rfl _ _ _) rfl ?_
      exact ⟨rfl, GW.out, .inr ⟨hRn, r', hd⟩⟩
end Go.Proofs.YtllmdlpogjjmcaaDoor
