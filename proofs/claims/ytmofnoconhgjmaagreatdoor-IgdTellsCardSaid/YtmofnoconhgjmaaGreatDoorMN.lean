/- Texts of one proof, put together: Xn4, Xn5, Xn6. -/
import Derived.Test.YtmofnoconhgjmaaGreatDoorXn2
import Derived.Deep.QuietTactic
import Derived.BigQuiet
import Derived.Deep.DeepCutAuto
import Derived.Test.YtmofnoconhgjmaaGreatDoorMT
import Derived.RegionTactic
import Derived.Deep.RegionLaw
import Derived.Test.YtmofnoconhgjmaaGreatDoorXn3
/- hearthref17.Doc: inside, where all is bad already; its state. -/
namespace Go.Proofs.YtmofnoconhgjmaaGreatDoor
open Go.RowKit
set_option linter.unusedVariables false
set_option linter.unusedSimpArgs false

set_option maxRecDepth 20000 in
set_option maxHeartbeats 8000000 in
theorem inside_bad : InsideBad := by
  intro w b base S r p n s aa al ac vL deep cnt full hd hb hbase
  obtain ⟨w1, hw1⟩ : ∃ w1, w1 = (w.alloc (.cells #[.string ⟨s.toArray⟩, .string ⟨n.toArray⟩, .slice aa al ac, .string ⟨#[]⟩, .slice none 0 0] 25)).alloc (.cells #[.string ⟨#[]⟩, .string ⟨#[]⟩, .slice none 0 0, .string ⟨#[]⟩, .slice none 0 0] 25) := ⟨_, rfl⟩
  have ga : (w.alloc (.cells #[.string ⟨s.toArray⟩, .string ⟨n.toArray⟩, .slice aa al ac, .string ⟨#[]⟩, .slice none 0 0] 25)).grownBy w1 none := by rw [hw1]; exact gr_alloc (gr_refl _ _) _
  have G1 := hid (show w.grownBy w1 (some b) from gr_none (gr_trans (gr_alloc (gr_refl _ none) _) ga))
  have E1 := hid (show ElB w1 w.heap.size s n (.slice aa al ac) [] (.slice none 0 0) from gr_keep ga (heap_alloc_new w _) (by simp))
  have R1 := hid (show ElB w1 (w.heap.size + 1) [] [] (.slice none 0 0) [] (.slice none 0 0) by
    have := heap_alloc_new (w.alloc (.cells #[.string ⟨s.toArray⟩, .string ⟨n.toArray⟩, .slice aa al ac, .string ⟨#[]⟩, .slice none 0 0] 25)) (.cells #[.string ⟨#[]⟩, .string ⟨#[]⟩, .slice none 0 0, .string ⟨#[]⟩, .slice none 0 0] 25)
    rw [← hw1, show (w.alloc (.cells #[.string ⟨s.toArray⟩, .string ⟨n.toArray⟩, .slice aa al ac, .string ⟨#[]⟩, .slice none 0 0] 25)).heap.size = w.heap.size + 1 by simp] at this
    exact this)
  have D1 := hid (hd.grow (gr_trans (gr_alloc (gr_refl _ none) _) ga))
  have HW1 := hid hw1
  have HB := hid (show b < w.heap.size by omega)
  clear ga hw1 hd hb hbase
  obtain ⟨rb, hrb⟩ : ∃ rb, rb = w.heap.size + 1 := ⟨_, rfl⟩
  obtain ⟨eb, heb⟩ : ∃ eb, eb = w.heap.size := ⟨_, rfl⟩
  have HRB := hid hrb
  have HEB := hid heb
  rw [← hrb] at R1
  rw [← heb] at E1
  clear hrb heb
  go_enter Tryz.func124, Tryz.ntmps124
  go_wp2_with fail
  rw [← HW1.out]
  go_loopw [11] (fun _ wr => DcR wr b S r cnt true full ∧ w.grownBy wr (some b) ∧ ElB wr w.heap.size s n (.slice aa al ac) [] (.slice none 0 0) ∧ ElB wr (w.heap.size + 1) [] [] (.slice none 0 0) [] (.slice none 0 0)) (fun _ _ => 0)
  case atStart => exact ⟨D1.out, G1.out, by rw [← HEB.out]; exact E1.out, by rw [← HRB.out]; exact R1.out⟩
  case round =>
    obtain ⟨hd, hg, he, hr⟩ := hrel
    have HD := hid hd
    have HG := hid hg
    have HE := hid he
    have HR := hid hr
    clear D1 G1 E1 R1 HW1 hg
    obtain ⟨c2, c3, c4, f2, f3, f4⟩ := hd.cells
    clear hd he hr
    go_wp2_with fail
    go_quiet (fail)
    have gq := gr_drewN nq (gr_refl wr none)
    have HD2 := hid (HD.out.grow gq)
    have HG2 := hid (gr_trans HG.out (gr_none gq))
    have HE2 := hid (HE.out.grow gq)
    have HR2 := hid (HR.out.grow gq)
    clear gq c2 c3 c4 f2 f3 f4
    generalize wr.drewN nq = w2 at *
    obtain ⟨c2, c3, c4, f2, f3, f4⟩ := HD2.out.cells
    have gs := gr_set (o := 3) (v := .bool true) (gr_refl w2 (some b))
    have HD3 := hid (HD2.out.setBad true)
    have HG3 := hid (gr_trans HG2.out gs)
    have hne : some w.heap.size ≠ some b ∧ some (w.heap.size + 1) ≠ some b := by have := HB.out; simp; omega
    have HE3 := hid (show ElB (w2.setCell ⟨b, 3, none⟩ (.bool true)) w.heap.size s n (.slice aa al ac) [] (.slice none 0 0) from gr_keep gs HE2.out hne.1)
    have HR3 := hid (show ElB (w2.setCell ⟨b, 3, none⟩ (.bool true)) (w.heap.size + 1) [] [] (.slice none 0 0) [] (.slice none 0 0) from gr_keep gs HR2.out hne.2)
    clear gs hne HD HG HE HR HD2 HG2 HE2 HR2
    go_upto_region 21 with fail
    generalize w2.setCell ⟨b, 3, none⟩ (.bool true) = w3 at *
    clear c2 c3 c4 f2 f3 f4
    obtain ⟨s0, s1, s2, s3, s4⟩ := ElB.cells HE3.out
    obtain ⟨k0, k1, k2, k3, k4⟩ := ElB.cells HR3.out
    have z0 := ElB.free HR3.out 0
    have z1 := ElB.free HR3.out 1
    have z2 := ElB.free HR3.out 2
    have z3 := ElB.free HR3.out 3
    have z4 := ElB.free HR3.out 4
    go_wp2
    refine bodyPost_ret (v := .agg #[.string ⟨s.toArray⟩, .string ⟨n.toArray⟩, .slice aa al ac, .string ⟨#[]⟩, .slice none 0 0]) (by simp [results, Tryz.results124, go_sem, k0, k1, k2, k3, k4]) rfl ?_
    exact ⟨ret5_gr (s := s) (n := n) (av := .slice aa al ac) (tx := []) (kv := .slice none 0 0) HG3.out (Nat.le_succ _), .inr ⟨rfl, s, n, [], aa, none, al, ac, 0, 0, r, cnt, full, rfl, HD3.out.ret5 (by have := HB.out; omega)⟩⟩
end Go.Proofs.YtmofnoconhgjmaaGreatDoor
/- hearthref17.Doc: inside, its walk. -/
namespace Go.Proofs.YtmofnoconhgjmaaGreatDoor
open Go.RowKit
set_option linter.unusedVariables false
set_option linter.unusedSimpArgs false

/-- In the midst of an element. -/
def InG (w wr : World) (b base eb rb : Nat) (S s n p : Bs) (av : Value) (ats : List At) (L : List (Bs × Bs)) (deep : Nat) (R : Option Res) (N : Nat) : Prop :=
  ∃ X r cnt full k tx kv kids, DcR wr b S r ((cnt : Nat) : Int) false full ∧ w.grownBy wr (some b) ∧ InAt wr X base eb rb s n av ats tx kv kids ∧ Hid (inL k r ⟨p, n, s, ats, tx, kids, L.reverse⟩ deep cnt full = R) ∧ r.length < k ∧ k ≤ N + 1 ∧ tx.length + 4 * r.length ≤ 80000 ∧ kids.len + r.length ≤ 20000 ∧ cnt + r.length ≤ 40000 ∧ L.length + r.length ≤ 40000 ∧ deep + r.length ≤ 40000
/-- All is bad. -/
def InBd (w wr : World) (b eb rb : Nat) (S : Bs) (R : Option Res) : Prop :=
  R = none ∧ ∃ r cnt full s n tx aa al ac ka kl kc, DcR wr b S r cnt true full ∧ w.grownBy wr (some b) ∧ ElB wr eb s n (.slice aa al ac) tx (.slice ka kl kc) ∧ ElB wr rb [] [] (.slice none 0 0) [] (.slice none 0 0)
def inJ (S : Bs) (wr : World) (b : Nat) : Nat := bdJ wr b * (dcJ S wr b + 1)
theorem inJ_good {wr : World} {b : Nat} {S r : Bs} {cnt : Int} {full : Bool} (h : DcR wr b S r cnt false full) : inJ S wr b = r.length + 1 := by
  unfold inJ; rw [bdJ_of h, dcJ_of h]; simp
theorem inJ_bad {wr : World} {b : Nat} {S r : Bs} {cnt : Int} {full : Bool} (h : DcR wr b S r cnt true full) : inJ S wr b = 0 := by
  unfold inJ; rw [bdJ_of h]; simp
theorem inL_nil (k : Nat) (f : Fr) (deep cnt : Nat) (full : Bool) : inL k [] f deep cnt full = none := by
  cases k with
  | zero => rfl
  | succ k => rfl
/-- What is bad comes from what is at hand. -/
theorem InAt.bd {w wr : World} {X : Nat → Prop} {b base eb rb : Nat} {S s n tx r : Bs} {av kv : Value} {ats : List At} {kids : Fo} {cnt : Int} {full : Bool} {R : Option Res} (h : InAt wr X base eb rb s n av ats tx kv kids) (hR : R = none) (hd : DcR wr b S r cnt true full) (g : w.grownBy wr (some b)) : InBd w wr b eb rb S R := by
  obtain ⟨aa, ac, rfl, -⟩ := h.ats
  obtain ⟨cs, hrow, -⟩ := h.row
  obtain ⟨ka, kc, rfl, -⟩ := row_shape hrow
  exact ⟨hR, r, cnt, full, s, n, tx, aa, _, ac, ka, _, kc, hd, g, h.blk, h.res⟩
theorem DcR.setEb {w : World} {b eb o : Nat} {v : Value} {S r : Bs} {cnt : Int} {bad full : Bool} (h : DcR w b S r cnt bad full) (hb : b ≠ eb) : DcR (w.setCell ⟨eb, o, none⟩ v) b S r cnt bad full := h.other hb
theorem index_all (t : Bs) (q : Nat) (hq : q < t.length) (h : (t.take q).all (fun c => !((60 : UInt8) == c)) = true) (h60 : t.getD q 0 = 60) : Lib.index t [60] = (q : Int) := by
  refine index_at [60] t q (by omega) (fun m hm => ?_) ?_
  · rw [pre_at]
    rw [List.all_eq_true] at h
    have : t.getD m 0 ∈ t.take q := by
      rw [List.getD_eq_getElem?_getD, List.getElem?_eq_getElem (by omega)]
      exact List.mem_take_iff_getElem.2 ⟨m, by omega, rfl⟩
    have := h _ this
    simp only [Bool.not_eq_true'] at this
    rw [this]; simp
  · rw [pre_at, h60, decide_eq_true hq]; simp
theorem index_none (t : Bs) (h : t.all (fun c => !((60 : UInt8) == c)) = true) : Lib.index t [60] = -1 := by
  refine index_no [60] t (fun m hm => ?_)
  rw [pre_at]
  by_cases hl : m < t.length
  · rw [List.all_eq_true] at h
    have : t.getD m 0 ∈ t := by
      rw [List.getD_eq_getElem?_getD, List.getElem?_eq_getElem hl]
      exact List.getElem_mem _
    have := h _ this
    simp only [Bool.not_eq_true'] at this
    rw [this]; simp
  · rw [decide_eq_false hl]; rfl
/-- The text step: what is up to the next '<'. -/
theorem inL_text {k : Nat} {r : Bs} {f : Fr} {deep cnt : Nat} {full : Bool} (h1 : Lib.hasPrefix r noteO = false) (h2 : Lib.hasPrefix r cdO = false) (h3 : Lib.hasPrefix r [60, 47] = false) (h4 : Lib.hasPrefix r [60] = false) :
    inL (k + 1) r f deep cnt full = if Lib.index r [60] < 0 then none else match unescA (r.take (Lib.index r [60]).toNat) with
      | none => none
      | some t => inL k (r.drop (Lib.index r [60]).toNat) (f.txt t) deep cnt full := by
  conv => lhs; unfold inL
  rw [h1, h2, h3, h4]
  simp only [Bool.false_eq_true, if_false]
  rfl
/-- The end of a scan: q bytes that are no '<', and then the end or a '<'. -/
theorem inL_scan {k q : Nat} {r : Bs} {f : Fr} {deep cnt : Nat} {full : Bool} (h1 : Lib.hasPrefix r noteO = false) (h2 : Lib.hasPrefix r cdO = false) (h3 : Lib.hasPrefix r [60, 47] = false) (h4 : Lib.hasPrefix r [60] = false) (hr : r ≠ [])
    (hq : q ≤ r.length) (ha : (r.take q).all (fun c => !((60 : UInt8) == c)) = true) (he : q = r.length ∨ (q < r.length ∧ r.getD q 0 = 60)) :
    0 < q ∧ (unescA (r.take q) = none → inL (k + 1) r f deep cnt full = none) ∧ ∀ t, unescA (r.take q) = some t → inL (k + 1) r f deep cnt full = inL k (r.drop q) (f.txt t) deep cnt full := by
  rcases he with rfl | ⟨hq2, h60⟩
  · rw [List.take_length] at ha
    have hi := index_none r ha
    refine ⟨by cases r with | nil => exact absurd rfl hr | cons x r => simp, fun _ => ?_, fun t _ => ?_⟩
    · rw [inL_text h1 h2 h3 h4, hi]; rfl
    · rw [inL_text h1 h2 h3 h4, hi, List.drop_length, inL_nil]; rfl
  · have hi := index_all r q hq2 ha h60
    have hq0 : 0 < q := by
      rcases Nat.eq_zero_or_pos q with rfl | h
      · have := pre_at r 60 0
        rw [List.drop_zero, h60, decide_eq_true (by omega)] at this
        rw [this] at h4; simp at h4
      · exact h
    refine ⟨hq0, fun h => ?_, fun t h => ?_⟩
    · rw [inL_text h1 h2 h3 h4, hi, if_neg (by omega), Int.toNat_natCast, h]
    · rw [inL_text h1 h2 h3 h4, hi, if_neg (by omega), Int.toNat_natCast, h]
/-- Which step is next. -/
theorem inL_note {k : Nat} {r : Bs} {f : Fr} {deep cnt : Nat} {full : Bool} (h1 : Lib.hasPrefix r noteO = true) :
    inL (k + 1) r f deep cnt full = if (Lib.cut (Lib.trimPrefix r noteO) noteC).2.2 then inL k (Lib.cut (Lib.trimPrefix r noteO) noteC).2.1 f deep cnt full else none := by
  conv => lhs; unfold inL
  rw [h1]; rfl
theorem inL_cd {k : Nat} {r : Bs} {f : Fr} {deep cnt : Nat} {full : Bool} (h1 : Lib.hasPrefix r noteO = false) (h2 : Lib.hasPrefix r cdO = true) :
    inL (k + 1) r f deep cnt full = if (Lib.cut (Lib.trimPrefix r cdO) cdC).2.2 then inL k (Lib.cut (Lib.trimPrefix r cdO) cdC).2.1 (f.txt (Lib.cut (Lib.trimPrefix r cdO) cdC).1) deep cnt full else none := by
  conv => lhs; unfold inL
  rw [h1, h2]; rfl
theorem inL_end {k : Nat} {r : Bs} {f : Fr} {deep cnt : Nat} {full : Bool} (h1 : Lib.hasPrefix r noteO = false) (h2 : Lib.hasPrefix r cdO = false) (h3 : Lib.hasPrefix r [60, 47] = true) :
    inL (k + 1) r f deep cnt full = (endL f (Lib.trimPrefix r [60, 47])).map fun r' => (f.el, r', cnt, full) := by
  conv => lhs; unfold inL
  rw [h1, h2, h3]; rfl
set_option maxRecDepth 20000 in
set_option maxHeartbeats 20000000 in
theorem inside_r (N : Nat) (hel : ElementOk N) : InsideOk (N + 1) := by
  intro m w b base S r p n s ats av L vL deep cnt full hm hr hd hb hbase hS hats hbn hL hb1 hb2 hb3
  obtain ⟨R, hR⟩ : ∃ R, inL m r ⟨p, n, s, ats, [], .nil, L.reverse⟩ deep cnt full = R := ⟨_, rfl⟩
  rw [hR]
  have HEL := hid hel
  have HBN := hid (fun (W : World) (g : w.grownBy W (some b)) => hbn.step hd g)
  have hrl := hd.len
  have HATS := hid hats
  obtain ⟨aa, ac, rfl, -⟩ := hats
  obtain ⟨ua, uc, rfl, -⟩ := hbn
  obtain ⟨rb, hrb⟩ : ∃ rb, rb = w.heap.size + 1 := ⟨_, rfl⟩
  obtain ⟨eb, heb⟩ : ∃ eb, eb = w.heap.size := ⟨_, rfl⟩
  obtain ⟨w1, hw1⟩ : ∃ w1, w1 = (w.alloc (.cells #[.string ⟨s.toArray⟩, .string ⟨n.toArray⟩, .slice aa ats.length ac, .string ⟨#[]⟩, .slice none 0 0] 25)).alloc (.cells #[.string ⟨#[]⟩, .string ⟨#[]⟩, .slice none 0 0, .string ⟨#[]⟩, .slice none 0 0] 25) := ⟨_, rfl⟩
  have ga : (w.alloc (.cells #[.string ⟨s.toArray⟩, .string ⟨n.toArray⟩, .slice aa ats.length ac, .string ⟨#[]⟩, .slice none 0 0] 25)).grownBy w1 none := by rw [hw1]; exact gr_alloc (gr_refl _ _) _
  have G0 := hid (show w.grownBy w1 none from gr_trans (gr_alloc (gr_refl _ none) _) ga)
  have E1 := hid (show ElB w1 eb s n (.slice aa ats.length ac) [] (.slice none 0 0) by rw [heb]; exact gr_keep ga (heap_alloc_new w _) (by simp))
  have R1 := hid (show ElB w1 rb [] [] (.slice none 0 0) [] (.slice none 0 0) by
    have := heap_alloc_new (w.alloc (.cells #[.string ⟨s.toArray⟩, .string ⟨n.toArray⟩, .slice aa ats.length ac, .string ⟨#[]⟩, .slice none 0 0] 25)) (.cells #[.string ⟨#[]⟩, .string ⟨#[]⟩, .slice none 0 0, .string ⟨#[]⟩, .slice none 0 0] 25)
    rw [← hw1, show (w.alloc (.cells #[.string ⟨s.toArray⟩, .string ⟨n.toArray⟩, .slice aa ats.length ac, .string ⟨#[]⟩, .slice none 0 0] 25)).heap.size = w.heap.size + 1 by simp, ← hrb] at this
    exact this)
  have I1 := hid (show InAt w1 (fun k => k < base ∨ k = eb ∨ k = rb) base eb rb s n (.slice aa ats.length ac) ats [] (.slice none 0 0) .nil from
    ⟨E1.out, R1.out, (HATS.out.less (X' := fun k => k < base ∨ k = eb ∨ k = rb) (fun k h1 h2 => by rcases h2 with h2 | h2 | h2 <;> (show k < base; omega))).same (fun k h1 _ => G0.out.block k h1 (by simp)), ⟨[], ⟨rfl, .inl ⟨rfl, rfl⟩⟩, fun k o l c e => by cases e⟩, .inr (.inl rfl), .inr (.inr rfl), (fun k e => by cases e), (fun k h => .inl h), by omega, by omega, by omega⟩)
  have IG1 := hid (show InG w w1 b base eb rb S s n p (.slice aa ats.length ac) ats L deep R N from
    ⟨_, r, cnt, full, m, [], _, _, hd.grow G0.out, gr_none G0.out, I1.out, hid hR, hr, hm, by simp; omega, by simp [Fo.len]; omega, hb3, hb1, hb2⟩)
  have HW1 := hid hw1
  have HB := hid hb
  have HLT := hid (show b ≠ eb ∧ b ≠ rb ∧ w.heap.size ≤ rb by omega)
  have HLE := hid (show w.heap.size ≤ eb ∧ base ≤ w.heap.size ∧ eb ≤ w.heap.size by omega)
  have HNUM := hid (show S.length ≤ 20000 ∧ 0 < L.length from ⟨hS, hL⟩)
  have HRB := hid hrb
  have HEB := hid heb
  clear ga hw1 hd hb hbase hR hrl E1 R1 I1 G0 HATS hel hS hL hb1 hb2 hb3 hm hr hrb heb
  go_enter Tryz.func124, Tryz.ntmps124
  go_wp2_with fail
  rw [← HW1.out, ← HRB.out, ← HEB.out]
  go_loopw [11] (fun _ wr => InG w wr b base eb rb S s n p (.slice aa ats.length ac) ats L deep R N ∨ InBd w wr b eb rb S R) (fun _ wr => inJ S wr b)
  case atStart => exact .inl IG1.out
  case round =>
    clear IG1 HW1 HRB HEB
    rcases hrel with hg | hbd
    rotate_left
    · obtain ⟨hRn, r2, cnt2, full2, sx, nx, tx2, xa, xl, xc, ya, yl, yc, hd, hgr, he, hr⟩ := hbd
      have HRN := hid hRn
      have HD := hid hd
      have HG := hid hgr
      have HE := hid he
      have HR := hid hr
      clear hRn hgr he hr
      obtain ⟨c2, c3, c4, f2, f3, f4⟩ := hd.cells
      clear hd
      go_wp2_with fail
      go_quiet (fail)
      have gq := gr_drewN nq (gr_refl wr none)
      have HD2 := hid (HD.out.grow gq)
      have HG2 := hid (gr_trans HG.out (gr_none gq))
      have HE2 := hid (HE.out.grow gq)
      have HR2 := hid (HR.out.grow gq)
      clear gq c2 c3 c4 f2 f3 f4 HD HG HE HR
      generalize wr.drewN nq = w2 at *
      obtain ⟨c2, c3, c4, f2, f3, f4⟩ := DcR.cells HD2.out
      have gs := gr_set (o := 3) (v := .bool true) (gr_refl w2 (some b))
      have HDz := hid (DcR.setBad HD2.out true)
      have HGz := hid (gr_trans HG2.out gs)
      have hne : some eb ≠ some b ∧ some rb ≠ some b := by have := HLT.out; simp; omega
      have HEz := hid (show ElB (w2.setCell ⟨b, 3, none⟩ (.bool true)) eb sx nx (.slice xa xl xc) tx2 (.slice ya yl yc) from gr_keep gs HE2.out hne.1)
      have HRz := hid (show ElB (w2.setCell ⟨b, 3, none⟩ (.bool true)) rb [] [] (.slice none 0 0) [] (.slice none 0 0) from gr_keep gs HR2.out hne.2)
      clear gs hne
      go_upto_region 21 with fail
      generalize w2.setCell ⟨b, 3, none⟩ (.bool true) = wz at *
      clear c2 c3 c4 f2 f3 f4
      obtain ⟨s0, s1, s2, s3, s4⟩ := ElB.cells HEz.out
      obtain ⟨k0, k1, k2, k3, k4⟩ := ElB.cells HRz.out
      have z0 := ElB.free HRz.out 0
      have z1 := ElB.free HRz.out 1
      have z2 := ElB.free HRz.out 2
      have z3 := ElB.free HRz.out 3
      have z4 := ElB.free HRz.out 4
      go_wp2
      refine bodyPost_ret (v := .agg #[.string ⟨sx.toArray⟩, .string ⟨nx.toArray⟩, .slice xa xl xc, .string ⟨tx2.toArray⟩, .slice ya yl yc]) (by simp [results, Tryz.results124, go_sem, k0, k1, k2, k3, k4]) rfl ?_
      exact ⟨ret5_gr (s := sx) (n := nx) (av := .slice xa xl xc) (tx := tx2) (kv := .slice ya yl yc) HGz.out HLT.out.2.2, .inr ⟨HRN.out, sx, nx, tx2, xa, ya, xl, xc, yl, yc, _, _, _, rfl, HDz.out.ret5 HLT.out.2.1⟩⟩
    · obtain ⟨X, r1, cnt1, full1, k, tx, kv, kids, hd, hgr, hin, hun, hk, hkN, ht, hkl, hcn, hLn, hdn⟩ := hg
      have HMS := hid (inJ_good hd)
      obtain ⟨cs, hrow, -⟩ := hin.row
      obtain ⟨ka, kc, rfl, -⟩ := row_shape hrow
      have HUN := hid hun.out
      have HD := hid hd
      have HG := hid hgr
      have HI := hid hin
      have HBD := hid (show tx.length + 4 * r1.length ≤ 80000 ∧ kids.len + r1.length ≤ 20000 ∧ cnt1 + r1.length ≤ 40000 ∧ L.length + r1.length ≤ 40000 ∧ deep + r1.length ≤ 40000 ∧ r1.length < k ∧ k ≤ N + 1 from ⟨ht, hkl, hcn, hLn, hdn, hk, hkN⟩)
      clear hun hgr hin hrow ht hkl hcn hLn hdn hk hkN
      obtain ⟨i, hi, hdr, hat⟩ := hd
      have HDR := hid hdr
      obtain ⟨c0, c1, -, c3, -⟩ := hat.cells
      clear hat
      by_cases hr0 : r1 = []
      · have HRN := hid (show R = none by rw [← HUN.out, hr0, inL_nil])
        have hlt : decide (i < S.length) = false := by
          have := hdr
          rw [hr0] at this
          have := List.drop_eq_nil_iff.1 this
          simp; omega
        have hlt2 : ¬ i < S.length := by simpa using hlt
        clear hr0 hdr
        go_wp2_with fail
        go_quiet (fail)
        have gq := gr_drewN nq (gr_refl wr none)
        have HD2 := hid (HD.out.grow gq)
        have HG2 := hid (gr_trans HG.out (gr_none gq))
        have HE2 := hid (HI.out.blk.grow gq)
        have HR2 := hid (HI.out.res.grow gq)
        clear gq c0 c1 c3 HD HG HI hlt hlt2
        generalize wr.drewN nq = w2 at *
        obtain ⟨c2, c3, c4, f2, f3, f4⟩ := DcR.cells HD2.out
        have gs := gr_set (o := 3) (v := .bool true) (gr_refl w2 (some b))
        have HDz := hid (DcR.setBad HD2.out true)
        have HGz := hid (gr_trans HG2.out gs)
        have hne : some eb ≠ some b ∧ some rb ≠ some b := by have := HLT.out; simp; omega
        have HEz := hid (show ElB (w2.setCell ⟨b, 3, none⟩ (.bool true)) eb s n (.slice aa ats.length ac) tx (.slice ka kids.len kc) from gr_keep gs HE2.out hne.1)
        have HRz := hid (show ElB (w2.setCell ⟨b, 3, none⟩ (.bool true)) rb [] [] (.slice none 0 0) [] (.slice none 0 0) from gr_keep gs HR2.out hne.2)
        clear gs hne
        go_upto_region 21 with fail
        generalize w2.setCell ⟨b, 3, none⟩ (.bool true) = wz at *
        clear c2 c3 c4 f2 f3 f4
        obtain ⟨s0, s1, s2, s3, s4⟩ := ElB.cells HEz.out
        obtain ⟨k0, k1, k2, k3, k4⟩ := ElB.cells HRz.out
        have z0 := ElB.free HRz.out 0
        have z1 := ElB.free HRz.out 1
        have z2 := ElB.free HRz.out 2
        have z3 := ElB.free HRz.out 3
        have z4 := ElB.free HRz.out 4
        go_wp2
        refine bodyPost_ret (v := .agg #[.string ⟨s.toArray⟩, .string ⟨n.toArray⟩, .slice aa ats.length ac, .string ⟨tx.toArray⟩, .slice ka kids.len kc]) (by simp [results, Tryz.results124, go_sem, k0, k1, k2, k3, k4]) rfl ?_
        exact ⟨ret5_gr (s := s) (n := n) (av := .slice aa ats.length ac) (tx := tx) (kv := .slice ka kids.len kc) HGz.out HLT.out.2.2, .inr ⟨HRN.out, s, n, tx, aa, ka, ats.length, ac, kids.len, kc, _, _, _, rfl, HDz.out.ret5 HLT.out.2.1⟩⟩
      · have hlt : decide (i < S.length) = true := by
          have hlen : r1.length = S.length - i := by rw [← hdr, List.length_drop]
          have : 0 < r1.length := List.length_pos_iff.2 hr0
          simp; omega
        have hlt2 : i < S.length := by simpa using hlt
        have HR0 := hid hr0
        clear hr0 hdr
        go_wp2_with fail
        go_quiet (fail)
        have gq := gr_drewN nq (gr_refl wr none)
        have HD2 := hid (HD.out.grow gq)
        have HG2 := hid (gr_trans HG.out (gr_none gq))
        have HI2 := hid (HI.out.grow gq)
        clear gq c0 c1 c3 HD HG HI hlt hlt2
        generalize wr.drewN nq = w2 at *
        obtain ⟨k, rfl⟩ : ∃ k', k = k' + 1 := ⟨k - 1, by have := HBD.out; omega⟩
        have HT := hid (pass_r b S r1 [60, 33, 45, 45] (cnt1 : Int) false full1 w2 HD2.out (by have := HNUM.out; omega) (by decide))
        obtain ⟨p1, hp1⟩ : ∃ p1, Lib.hasPrefix r1 [60, 33, 45, 45] = p1 := ⟨_, rfl⟩
        have HN1 := hid (fun (hp : p1 = false) => show Lib.trimPrefix r1 [60, 33, 45, 45] = r1 by unfold Lib.trimPrefix; rw [hp1, hp]; rfl)
        have HL1 := hid (fun (hp : p1 = true) => trimP_len (l := r1) (p := [60, 33, 45, 45]) (by rw [hp1, hp]))
        rw [hp1] at HT
        have HPp1 := hid hp1
        clear hp1
        go_wp2_with fail
        refine HT.out.mono ?_
        rintro e w3 ⟨rfl, hd, g2⟩
        have HG3 := hid (gr_trans HG2.out g2)
        have HI3 := hid (InAt.step HI2.out g2 HB.out)
        have HD3 := hid hd
        clear hd g2 HT HG2 HI2 HD2
        cases p1
        rotate_left
        · have hl1 : (Lib.trimPrefix r1 [60, 33, 45, 45]).length + 4 = r1.length := HL1.out rfl
          have HUN2 := hid (HUN.out.symm.trans (inL_note HPp1.out))
          unfold noteO noteC at HUN2
          generalize Lib.trimPrefix r1 [60, 33, 45, 45] = ra at *
          have HU := hid (upto_r b S ra [45, 45, 62] (cnt1 : Int) full1 w3 HD3.out (by have := HNUM.out; omega) (by decide) (by decide))
          have hcl := cut_len ra [45, 45, 62]
          unfold UpPost at HU
          generalize Lib.cut ra [45, 45, 62] = C at *
          obtain ⟨k1, k2, k3⟩ := C
          go_wp2_with fail
          refine HU.out.mono ?_
          rintro e w4 ⟨g4, h4⟩
          have HG4 := hid (gr_trans HG3.out g4)
          have HI4 := hid (HI3.out.step g4 HB.out)
          clear g4 HU HD3 HI3 HG3 HN1 HL1 HUN
          rcases h4 with ⟨hk3, rfl, hd⟩ | ⟨hk3, rfl, r', hd⟩
          · have HD4 := hid hd
            have hk3' : k3 = true := hk3
            have HUN3 := hid (show inL k k2 ⟨p, n, s, ats, tx, kids, L.reverse⟩ deep cnt1 full1 = R by rw [HUN2.out, hk3']; rfl)
            have hcl2 : k2.length ≤ ra.length := hcl
            clear hd hk3 hk3' HUN2
            unfold str
            go_wp2
            go_roundw
            case rel =>
              refine .inl ⟨X, k2, cnt1, full1, k, tx, _, kids, HD4.out, HG4.out, HI4.out, HUN3, ?_⟩
              have := HBD.out
              omega
            case measure => rw [inJ_good HD4.out, HMS.out]; omega
          · have HD4 := hid hd
            have hk3' : k3 = false := hk3
            have HRN := hid (show R = none by rw [HUN2.out, hk3']; rfl)
            clear hd hk3 hk3' HUN2
            unfold str
            go_wp2
            go_roundw
            case rel => exact .inr (HI4.out.bd HRN.out HD4.out HG4.out)
            case measure => rw [inJ_bad HD4.out, HMS.out]; omega
        rw [HN1.out rfl] at HD3
        clear HN1 HL1
        have HT := hid (pass_r b S r1 [60, 33, 91, 67, 68, 65, 84, 65, 91] (cnt1 : Int) false full1 w3 HD3.out (by have := HNUM.out; omega) (by decide))
        obtain ⟨p2, hp2⟩ : ∃ p2, Lib.hasPrefix r1 [60, 33, 91, 67, 68, 65, 84, 65, 91] = p2 := ⟨_, rfl⟩
        have HN1 := hid (fun (hp : p2 = false) => show Lib.trimPrefix r1 [60, 33, 91, 67, 68, 65, 84, 65, 91] = r1 by unfold Lib.trimPrefix; rw [hp2, hp]; rfl)
        have HL1 := hid (fun (hp : p2 = true) => trimP_len (l := r1) (p := [60, 33, 91, 67, 68, 65, 84, 65, 91]) (by rw [hp2, hp]))
        rw [hp2] at HT
        have HPp2 := hid hp2
        clear hp2
        go_wp2_with fail
        refine HT.out.mono ?_
        rintro e w4 ⟨rfl, hd, g2⟩
        have HG4 := hid (gr_trans HG3.out g2)
        have HI4 := hid (InAt.step HI3.out g2 HB.out)
        have HD4 := hid hd
        clear hd g2 HT HG3 HI3 HD3
        cases p2
        rotate_left
        · have hl1 : (Lib.trimPrefix r1 [60, 33, 91, 67, 68, 65, 84, 65, 91]).length + 9 = r1.length := HL1.out rfl
          have HUN2 := hid (HUN.out.symm.trans (inL_cd HPp1.out HPp2.out))
          unfold cdO cdC at HUN2
          generalize Lib.trimPrefix r1 [60, 33, 91, 67, 68, 65, 84, 65, 91] = ra at *
          have HU := hid (fun (W : World) (g : w4.grownBy W none) => upto_r b S ra [93, 93, 62] (cnt1 : Int) full1 W (HD4.out.grow g) (by have := HNUM.out; omega) (by decide) (by decide))
          have hcl := cut_len ra [93, 93, 62]
          have hc1 : (Lib.cut ra [93, 93, 62]).1.length ≤ ra.length := by
            unfold Lib.cut; split
            · simp only [List.length_take]; omega
            · simp
          have hc2 := hid (fun (h : (Lib.cut ra [93, 93, 62]).2.2 = true) => cut_lens h)
          unfold UpPost at HU
          generalize Lib.cut ra [93, 93, 62] = C at *
          obtain ⟨k1, k2, k3⟩ := C
          simp only at hc1 hcl hc2
          have CALL := hid (fun (W : World) (g : w4.grownBy W none) =>
            (show Calls Tryz.prog 73 #[.pointer (some ⟨b, 0, none⟩), .string ⟨#[93, 93, 62]⟩] W fun e w' => ∃ v : Bs, e = .returned (.string ⟨v.toArray⟩) ∧ v.length ≤ 20000 ∧ w.grownBy w' (some b) ∧ InAt w' X base eb rb s n (.slice aa ats.length ac) ats tx (.slice ka kids.len kc) kids ∧ ((k3 = true ∧ v = k1 ∧ DcR w' b S k2 (cnt1 : Int) false full1) ∨ (k3 = false ∧ ∃ r', DcR w' b S r' (cnt1 : Int) true full1)) from
              ((HU.out W g).mono (by
                rintro e w' ⟨g4, h4⟩
                have hra := HNUM.out
                have hS1 := HD4.out.len
                rcases h4 with ⟨hk3, rfl, hd⟩ | ⟨hk3, rfl, r', hd⟩
                · exact ⟨k1, rfl, by omega, gr_trans HG4.out (gr_trans (gr_none g) g4), (HI4.out.grow g).step g4 HB.out, .inl ⟨hk3, rfl, hd⟩⟩
                · exact ⟨[], rfl, by simp, gr_trans HG4.out (gr_trans (gr_none g) g4), (HI4.out.grow g).step g4 HB.out, .inr ⟨hk3, r', hd⟩⟩))))
          clear HU HN1 HL1 HUN
          obtain ⟨-, -, -, x3, -⟩ := HI4.out.blk.cells
          have y3 := HI4.out.blk.free 3
          go_upto_region 5 with fail
          have hq : tx.length ≤ 80000 := by have := HBD.out; omega
          have HQ := hid hq
          have HLEN := hid (show ra.length + 9 = r1.length ∧ k2.length ≤ ra.length ∧ k1.length ≤ ra.length from ⟨hl1, hcl, hc1⟩)
          clear hq hl1 hcl hc1
          go_region_with (go_at_call 73; refine (CALL.out _ (by first | exact gr_refl _ _ | exact gr_drew (gr_refl _ _))).mono ?_; rintro e w5 ⟨v, rfl, hvl, g5, i5, h5⟩; have G5 := hid g5; have I5 := hid i5; have H5 := hid h5; obtain ⟨-, -, -, x5, -⟩ := I5.out.blk.cells; have y5 := I5.out.blk.free 3; have hq9 : ¬ 9223372036854775807 < tx.length + v.length := (by have := HQ.out; omega); have HVL := hid hvl; clear hvl g5 i5 h5)
          all_goals
            have HX := hid (app_str tx v)
            have HG6 := hid (gr_set_new (o := 3) (v := .string ⟨(tx ++ v).toArray⟩) G5.out HLE.out.1)
            have HI6 := hid (I5.out.setT (tx ++ v))
            clear x3 y3 x5 y5 CALL HD4 HI4 HG4 G5 I5
            rcases H5.out with ⟨hk3, rfl, hd⟩ | ⟨hk3, r', hd⟩
            · have HD6 := hid (hd.setEb (o := 3) (v := .string ⟨(tx ++ v).toArray⟩) HLT.out.1)
              have HC3 := hid (hc2.out hk3)
              have HUN3 := hid (show inL k k2 ⟨p, n, s, ats, tx ++ v, kids, L.reverse⟩ deep cnt1 full1 = R by rw [HUN2.out, hk3]; rfl)
              clear hd hk3 HUN2 H5 hc2
              go_wp2_with fail
              rw [HX.out]
              refine ⟨.inl ⟨X, k2, cnt1, full1, k, tx ++ v, _, kids, HD6.out, HG6.out, HI6.out, HUN3, ?_⟩, ?_⟩
              · have := HBD.out
                have := HLEN.out
                have hc3 := HC3.out
                simp only [List.length_cons, List.length_nil, List.length_append] at hc3 ⊢
                omega
              · rw [inJ_good HD6.out, HMS.out]
                have := HLEN.out
                omega
            · have HD6 := hid (hd.setEb (o := 3) (v := .string ⟨(tx ++ v).toArray⟩) HLT.out.1)
              have HRN := hid (show R = none by rw [HUN2.out, hk3]; rfl)
              clear hd hk3 HUN2 H5 hc2
              go_wp2_with fail
              rw [HX.out]
              exact ⟨.inr (HI6.out.bd HRN.out HD6.out HG6.out), by rw [inJ_bad HD6.out, HMS.out]; omega⟩
        rw [HN1.out rfl] at HD4
        clear HN1 HL1
        have HT := hid (pass_r b S r1 [60, 47] (cnt1 : Int) false full1 w4 HD4.out (by have := HNUM.out; omega) (by decide))
        obtain ⟨p3, hp3⟩ : ∃ p3, Lib.hasPrefix r1 [60, 47] = p3 := ⟨_, rfl⟩
        have HN1 := hid (fun (hp : p3 = false) => show Lib.trimPrefix r1 [60, 47] = r1 by unfold Lib.trimPrefix; rw [hp3, hp]; rfl)
        have HL1 := hid (fun (hp : p3 = true) => trimP_len (l := r1) (p := [60, 47]) (by rw [hp3, hp]))
        rw [hp3] at HT
        have HPp3 := hid hp3
        clear hp3
        go_wp2_with fail
        refine HT.out.mono ?_
        rintro e w5 ⟨rfl, hd, g2⟩
        have HG5 := hid (gr_trans HG4.out g2)
        have HI5 := hid (InAt.step HI4.out g2 HB.out)
        have HD5 := hid hd
        clear hd g2 HT HG4 HI4 HD4
        cases p3
        rotate_left
        · have hl1 : (Lib.trimPrefix r1 [60, 47]).length + 2 = r1.length := HL1.out rfl
          have HUN2 := hid (HUN.out.symm.trans (inL_end HPp1.out HPp2.out HPp3.out))
          unfold endL at HUN2
          generalize Lib.trimPrefix r1 [60, 47] = ra at *
          have HF := hid (rfull_r b S ra (cnt1 : Int) full1 w5 HD5.out (by have := HNUM.out; omega))
          generalize fullL ra = F at *
          obtain ⟨⟨f1, f2, f3⟩, f4⟩ := F
          simp only at HUN2
          clear HN1 HL1 HUN
          go_wp2_with fail
          refine HF.out.mono ?_
          rintro e w6 ⟨rfl, hd, g6⟩
          unfold str
          have HD6 := hid hd
          have HG6 := hid (gr_trans HG5.out g6)
          have HI6 := hid (HI5.out.step g6 HB.out)
          clear hd g6 HF HD5 HG5 HI5
          have HB6 := hid (blanks_r b S f4 (cnt1 : Int) (!f3) full1 w6 HD6.out (by have := HNUM.out; omega))
          generalize Lib.trimLeftS f4 blkL = r5 at *
          go_wp2_with fail
          refine HB6.out.mono ?_
          rintro e w7 ⟨gap, rfl, -, hd, g7⟩
          have HD7 := hid hd
          have HG7 := hid (gr_trans HG6.out g7)
          have HI7 := hid (HI6.out.step g7 HB.out)
          clear hd g7 HB6 HD6 HG6 HI6
          have HT := hid (pass_r b S r5 [62] (cnt1 : Int) (!f3) full1 w7 HD7.out (by have := HNUM.out; omega) (by decide))
          obtain ⟨p4, hp4⟩ : ∃ p4, Lib.hasPrefix r5 [62] = p4 := ⟨_, rfl⟩
          rw [hp4] at HT HUN2
          clear hp4
          obtain ⟨s0, s1, s2, s3, s4⟩ := HI7.out.blk.cells
          have HUN3 := hid (show R = (if (f3 && decide (f1 = p) && decide (f2 = n) && p4) = true then some (Lib.trimPrefix r5 [62]) else none).map fun r' => ((⟨s, n, ats, tx, kids⟩ : El), r', cnt1, full1) from HUN2.out)
          clear HUN2
          by_cases h1 : f1 = p
          · have q1 : (f1 != p) = false := by simp [h1]
            have q1' : (f1 == p) = true := by simp [h1]
            by_cases h2 : f2 = n
            · have q2 : (f2 != n) = false := by simp [h2]
              have q2' : (f2 == n) = true := by simp [h2]
              have HUN4 := hid (show R = (if (f3 && p4) = true then some (Lib.trimPrefix r5 [62]) else none).map fun r' => ((⟨s, n, ats, tx, kids⟩ : El), r', cnt1, full1) by
                rw [HUN3.out, decide_eq_true h1, decide_eq_true h2, Bool.and_true, Bool.and_true])
              clear h1 h2 HUN3
              go_wp2_with fail
              refine HT.out.mono ?_
              rintro e w8 ⟨rfl, hd, g8⟩
              have HD8 := hid hd
              have HG8 := hid (gr_trans HG7.out g8)
              have HI8 := hid (HI7.out.step g8 HB.out)
              clear hd g8 HT HD7 HG7 HI7 s0 s1 s2 s3 s4
              cases p4
              · have HRN := hid (show R = none by rw [HUN4.out, Bool.and_false]; rfl)
                have HE8 := hid HI8.out.blk
                have HR8 := hid HI8.out.res
                obtain ⟨c2, c3, c4, f2, f3, f4⟩ := DcR.cells HD8.out
                have gs := gr_set (o := 3) (v := .bool true) (gr_refl w8 (some b))
                have HDz := hid (DcR.setBad HD8.out true)
                have HGz := hid (gr_trans HG8.out gs)
                have hne : some eb ≠ some b ∧ some rb ≠ some b := by have := HLT.out; simp; omega
                have HEz := hid (show ElB (w8.setCell ⟨b, 3, none⟩ (.bool true)) eb s n (.slice aa ats.length ac) tx (.slice ka kids.len kc) from gr_keep gs HE8.out hne.1)
                have HRz := hid (show ElB (w8.setCell ⟨b, 3, none⟩ (.bool true)) rb [] [] (.slice none 0 0) [] (.slice none 0 0) from gr_keep gs HR8.out hne.2)
                clear gs hne
                go_upto_region 11 with fail
                generalize w8.setCell ⟨b, 3, none⟩ (.bool true) = wz at *
                clear c2 c3 c4 f2 f3 f4
                obtain ⟨s0, s1, s2, s3, s4⟩ := ElB.cells HEz.out
                obtain ⟨k0, k1, k2, k3, k4⟩ := ElB.cells HRz.out
                have z0 := ElB.free HRz.out 0
                have z1 := ElB.free HRz.out 1
                have z2 := ElB.free HRz.out 2
                have z3 := ElB.free HRz.out 3
                have z4 := ElB.free HRz.out 4
                go_wp2
                refine bodyPost_ret (v := .agg #[.string ⟨s.toArray⟩, .string ⟨n.toArray⟩, .slice aa ats.length ac, .string ⟨tx.toArray⟩, .slice ka kids.len kc]) (by simp [results, Tryz.results124, go_sem, k0, k1, k2, k3, k4]) rfl ?_
                exact ⟨ret5_gr (s := s) (n := n) (av := .slice aa ats.length ac) (tx := tx) (kv := .slice ka kids.len kc) HGz.out HLT.out.2.2, .inr ⟨HRN.out, s, n, tx, aa, ka, ats.length, ac, kids.len, kc, _, _, _, rfl, HDz.out.ret5 HLT.out.2.1⟩⟩
              · obtain ⟨s0, s1, s2, s3, s4⟩ := HI8.out.blk.cells
                obtain ⟨k0, k1, k2, k3, k4⟩ := HI8.out.res.cells
                have z0 := ElB.free HI8.out.res 0
                have z1 := ElB.free HI8.out.res 1
                have z2 := ElB.free HI8.out.res 2
                have z3 := ElB.free HI8.out.res 3
                have z4 := ElB.free HI8.out.res 4
                go_wp2
                refine bodyPost_ret (v := .agg #[.string ⟨s.toArray⟩, .string ⟨n.toArray⟩, .slice aa ats.length ac, .string ⟨tx.toArray⟩, .slice ka kids.len kc]) (by simp [results, Tryz.results124, go_sem, k0, k1, k2, k3, k4]) rfl ?_
                cases f3
                · have HRN := hid (show R = none from HUN4.out)
                  exact ⟨ret5_gr (s := s) (n := n) (av := .slice aa ats.length ac) (tx := tx) (kv := .slice ka kids.len kc) HG8.out HLT.out.2.2, .inr ⟨HRN.out, s, n, tx, aa, ka, ats.length, ac, kids.len, kc, _, _, _, rfl, HD8.out.ret5 HLT.out.2.1⟩⟩
                · have HRS := hid (show R = some ((⟨s, n, ats, tx, kids⟩ : El), Lib.trimPrefix r5 [62], cnt1, full1) from HUN4.out)
                  exact ⟨ret5_gr (s := s) (n := n) (av := .slice aa ats.length ac) (tx := tx) (kv := .slice ka kids.len kc) HG8.out HLT.out.2.2, .inl ⟨_, _, _, HRS.out, rfl, HD8.out.ret5 HLT.out.2.1, (HI8.out.fin (s' := s) (n' := n) (tx' := tx) (av' := .slice aa ats.length ac) (kv' := .slice ka kids.len kc)).1, (HI8.out.fin (s' := s) (n' := n) (tx' := tx) (av' := .slice aa ats.length ac) (kv' := .slice ka kids.len kc)).2⟩⟩
            · have q2 : (f2 != n) = true := by simpa using h2
              have q2' : (f2 == n) = false := by simpa using h2
              have HRN := hid (show R = none by rw [HUN3.out, decide_eq_false h2, Bool.and_false, Bool.false_and]; rfl)
              have HE7 := hid HI7.out.blk
              have HR7 := hid HI7.out.res
              have x1 := s1
              clear h1 h2 HT HUN3 s0 s1 s2 s3 s4
              go_upto_region 10 with fail
              obtain ⟨c2, c3, c4, f2, f3, f4⟩ := DcR.cells HD7.out
              have gs := gr_set (o := 3) (v := .bool true) (gr_refl w7 (some b))
              have HDz := hid (DcR.setBad HD7.out true)
              have HGz := hid (gr_trans HG7.out gs)
              have hne : some eb ≠ some b ∧ some rb ≠ some b := by have := HLT.out; simp; omega
              have HEz := hid (show ElB (w7.setCell ⟨b, 3, none⟩ (.bool true)) eb s n (.slice aa ats.length ac) tx (.slice ka kids.len kc) from gr_keep gs HE7.out hne.1)
              have HRz := hid (show ElB (w7.setCell ⟨b, 3, none⟩ (.bool true)) rb [] [] (.slice none 0 0) [] (.slice none 0 0) from gr_keep gs HR7.out hne.2)
              clear gs hne
              go_upto_region 11 with fail
              generalize w7.setCell ⟨b, 3, none⟩ (.bool true) = wz at *
              clear c2 c3 c4 f2 f3 f4
              obtain ⟨s0, s1, s2, s3, s4⟩ := ElB.cells HEz.out
              obtain ⟨k0, k1, k2, k3, k4⟩ := ElB.cells HRz.out
              have z0 := ElB.free HRz.out 0
              have z1 := ElB.free HRz.out 1
              have z2 := ElB.free HRz.out 2
              have z3 := ElB.free HRz.out 3
              have z4 := ElB.free HRz.out 4
              go_wp2
              refine bodyPost_ret (v := .agg #[.string ⟨s.toArray⟩, .string ⟨n.toArray⟩, .slice aa ats.length ac, .string ⟨tx.toArray⟩, .slice ka kids.len kc]) (by simp [results, Tryz.results124, go_sem, k0, k1, k2, k3, k4]) rfl ?_
              exact ⟨ret5_gr (s := s) (n := n) (av := .slice aa ats.length ac) (tx := tx) (kv := .slice ka kids.len kc) HGz.out HLT.out.2.2, .inr ⟨HRN.out, s, n, tx, aa, ka, ats.length, ac, kids.len, kc, _, _, _, rfl, HDz.out.ret5 HLT.out.2.1⟩⟩
          · have q1 : (f1 != p) = true := by simpa using h1
            have q1' : (f1 == p) = false := by simpa using h1
            have HRN := hid (show R = none by rw [HUN3.out, decide_eq_false h1, Bool.and_false, Bool.false_and, Bool.false_and]; rfl)
            have HE7 := hid HI7.out.blk
            have HR7 := hid HI7.out.res
            clear h1 HT HUN3 s0 s1 s2 s3 s4
            go_upto_region 10 with fail
            obtain ⟨c2, c3, c4, f2, f3, f4⟩ := DcR.cells HD7.out
            have gs := gr_set (o := 3) (v := .bool true) (gr_refl w7 (some b))
            have HDz := hid (DcR.setBad HD7.out true)
            have HGz := hid (gr_trans HG7.out gs)
            have hne : some eb ≠ some b ∧ some rb ≠ some b := by have := HLT.out; simp; omega
            have HEz := hid (show ElB (w7.setCell ⟨b, 3, none⟩ (.bool true)) eb s n (.slice aa ats.length ac) tx (.slice ka kids.len kc) from gr_keep gs HE7.out hne.1)
            have HRz := hid (show ElB (w7.setCell ⟨b, 3, none⟩ (.bool true)) rb [] [] (.slice none 0 0) [] (.slice none 0 0) from gr_keep gs HR7.out hne.2)
            clear gs hne
            go_upto_region 11 with fail
            generalize w7.setCell ⟨b, 3, none⟩ (.bool true) = wz at *
            clear c2 c3 c4 f2 f3 f4
            obtain ⟨s0, s1, s2, s3, s4⟩ := ElB.cells HEz.out
            obtain ⟨k0, k1, k2, k3, k4⟩ := ElB.cells HRz.out
            have z0 := ElB.free HRz.out 0
            have z1 := ElB.free HRz.out 1
            have z2 := ElB.free HRz.out 2
            have z3 := ElB.free HRz.out 3
            have z4 := ElB.free HRz.out 4
            go_wp2
            refine bodyPost_ret (v := .agg #[.string ⟨s.toArray⟩, .string ⟨n.toArray⟩, .slice aa ats.length ac, .string ⟨tx.toArray⟩, .slice ka kids.len kc]) (by simp [results, Tryz.results124, go_sem, k0, k1, k2, k3, k4]) rfl ?_
            exact ⟨ret5_gr (s := s) (n := n) (av := .slice aa ats.length ac) (tx := tx) (kv := .slice ka kids.len kc) HGz.out HLT.out.2.2, .inr ⟨HRN.out, s, n, tx, aa, ka, ats.length, ac, kids.len, kc, _, _, _, rfl, HDz.out.ret5 HLT.out.2.1⟩⟩
        rw [HN1.out rfl] at HD5
        clear HN1 HL1
        have HT := hid (pass_r b S r1 [60] (cnt1 : Int) false full1 w5 HD5.out (by have := HNUM.out; omega) (by decide))
        obtain ⟨p4, hp4⟩ : ∃ p4, Lib.hasPrefix r1 [60] = p4 := ⟨_, rfl⟩
        have HN1 := hid (fun (hp : p4 = false) => show Lib.trimPrefix r1 [60] = r1 by unfold Lib.trimPrefix; rw [hp4, hp]; rfl)
        have HL1 := hid (fun (hp : p4 = true) => trimP_len (l := r1) (p := [60]) (by rw [hp4, hp]))
        rw [hp4] at HT
        have HPp4 := hid hp4
        clear hp4
        go_wp2_with fail
        refine HT.out.mono ?_
        rintro e w6 ⟨rfl, hd, g2⟩
        have HG6 := hid (gr_trans HG5.out g2)
        have HI6 := hid (InAt.step HI5.out g2 HB.out)
        have HD6 := hid hd
        clear hd g2 HT HG5 HI5 HD5
        cases p4
        rotate_left
        · have hl1 : (Lib.trimPrefix r1 [60]).length + 1 = r1.length := HL1.out rfl
          have HUN2 := hid (HUN.out.symm.trans (inL_lt HPp1.out HPp2.out HPp3.out HPp4.out))
          generalize Lib.trimPrefix r1 [60] = ra at *
          have HLEN := hid hl1
          have HCNT := hid (fun x => elmL_cnt (n := k) (up := L.reverse) (r := ra) (deep := deep + 1) (cnt := cnt1) (full := full1) (x := x))
          have CALL := hid (fun (W : World) (g : w6.grownBy W none) => (HEL.out k W b S ra L (.slice ua L.length uc) (deep + 1) cnt1 full1 (by have := HBD.out; omega) (by have := HBD.out; omega) (HD6.out.grow g) (by have := HNUM.out; omega) (HBN.out W (gr_trans HG6.out (gr_none g))) HNUM.out.2 (by have := HBD.out; omega) (by have := HBD.out; omega) (by have := HBD.out; omega)))
          generalize elmL k L.reverse ra (deep + 1) cnt1 full1 = E at *
          have CALL2 := hid (fun (W : World) (g : w6.grownBy W none) =>
            (show Calls Tryz.prog 75 #[.pointer (some ⟨b, 0, none⟩), .slice ua L.length uc, .int .i64 (IntKind.i64.wrap ((deep : Int) + 1))] W fun e w' => ∃ (s2 n2 tx2 : Bs) (a1 a2 : Option Addr) (l1 c1 l2 c2 : Nat) (X' : Nat → Prop), e = .returned (.agg #[.string ⟨s2.toArray⟩, .string ⟨n2.toArray⟩, .slice a1 l1 c1, .string ⟨tx2.toArray⟩, .slice a2 l2 c2]) ∧ w.grownBy w' (some b) ∧ InAt w' X' base eb rb s n (.slice aa ats.length ac) ats tx (.slice ka kids.len kc) kids ∧
                ((∃ x, E = some x ∧ s2 = x.1.s ∧ n2 = x.1.n ∧ tx2 = x.1.tx ∧ DcR w' b S x.2.1 (x.2.2.1 : Int) false x.2.2.2 ∧ AtsAt w' X' (.slice a1 l1 c1) x.1.ats ∧ KidV w' X' (.slice a2 l2 c2) x.1.kids) ∨ (E = none ∧ ∃ r' cnt' full', DcR w' b S r' cnt' true full')) from by
              have hcall := CALL.out W g
              rw [show ((deep + 1 : Nat) : Int) = IntKind.i64.wrap ((deep : Int) + 1) by rw [IntWalk.i64_in _ (by have := HBD.out; omega)]; omega] at hcall
              refine hcall.mono ?_
              rintro e w' ⟨g7, h7⟩
              have hgW : w.grownBy W (some b) := gr_trans HG6.out (gr_none g)
              have hI : InAt w' (fun q => X q ∧ q < W.heap.size) base eb rb s n (.slice aa ats.length ac) ats tx (.slice ka kids.len kc) kids :=
                ((HI6.out.grow g).less (X' := fun q => X q ∧ q < W.heap.size) (fun q _ h => h.1) (fun q h1 h2 => ⟨h2, h1⟩) (Nat.le_trans HLE.out.2.1 hgW.size)).step g7 HB.out
              rcases h7 with ⟨x, av, kv, hx, rfl, hd, ha, hk⟩ | ⟨hx, s', n', tx', a1, a2, l1, l2, l3, l4, r', cnt', full', rfl, hd⟩
              · have ha' := ha
                have hk' := hk
                obtain ⟨a1, c1, rfl, -⟩ := ha'
                obtain ⟨a2, c2, rfl, -⟩ := hk'
                exact ⟨x.1.s, x.1.n, x.1.tx, a1, a2, _, c1, _, c2, _, rfl, gr_trans hgW g7, hI, .inl ⟨x, hx, rfl, rfl, rfl, hd, ha.less (fun q _ h => h.2), hk.less (fun q _ h => h.2)⟩⟩
              · exact ⟨s', n', tx', a1, a2, _, _, _, _, _, rfl, gr_trans hgW g7, hI, .inr ⟨hx, r', cnt', full', hd⟩⟩))
          have hdn : (deep : Int) + 1 ≤ 40001 := by have := HBD.out; omega
          have hsl : Hid (kids.len ≤ 100000) := hid (by have := HBD.out; omega)
          have hes : Hid (eb ≤ w.heap.size) := hid HLE.out.2.2
          obtain ⟨-, -, -, -, x4⟩ := HI6.out.blk.cells
          have y4 := HI6.out.blk.free 4
          clear HN1 HL1 HUN CALL HEL HBN hl1
          go_upto_region 13 with fail
          go_region_law
            (first
              | (refine step_appK (by rfl) (.tmp 75) (.tmp 81) (by rfl) (by rfl) (by rfl) (row_none HROW.out (by (repeat (first | exact gr_refl _ _ | assumption | refine gr_drew ?_ | refine gr_drewN _ ?_ | refine gr_alloc ?_ _ | refine gr_set ?_ | refine gr_set_new ?_ (by first | omega | (simp; omega)))))) (by first | exact heap_alloc_new _ _ | (rw [heap_drew]; exact heap_alloc_new _ _)) ⟨rfl, rfl, rfl, rfl, rfl⟩ hsl.out (by have := hes.out; have := G7.out.size; simp; omega) ?_; intro g8 c8 w8 hE; have hB8 := I7.out.eb8 (by (repeat (first | exact gr_refl _ _ | assumption | refine gr_drew ?_ | refine gr_drewN _ ?_ | refine gr_alloc ?_ _ | refine gr_set ?_ | refine gr_set_new ?_ (by first | omega | (simp; omega))))) hE; obtain ⟨-, -, -, -, u4⟩ := ElB.cells hB8; have v4 := ElB.free hB8 4)
              | (go_simp; go_at_call 75; refine (CALL2.out _ (by first | exact gr_refl _ _ | exact gr_drew (gr_refl _ _))).mono ?_; rintro e w7 ⟨s2, n2, tx2, a1, a2, l1, c1, l2, c2, X', rfl, g7, i7, h7⟩; have G7 := hid g7; have I7 := hid i7; have H7 := hid h7; obtain ⟨cs, hrow, hfo⟩ := i7.row; have HROW := hid hrow; have HFO := hid hfo; have HCS := hid hrow.1; obtain ⟨-, -, -, -, t4⟩ := i7.blk.cells; have t5 := (ElB.cells (i7.blk.grow (gr_alloc (gr_refl w7 none) (.cells #[.string ⟨s2.toArray⟩, .string ⟨n2.toArray⟩, .slice a1 l1 c1, .string ⟨tx2.toArray⟩, .slice a2 l2 c2] 25)))).2.2.2.2; clear g7 i7 h7 hrow hfo))
          all_goals
            have HG9 := hid (gr_set_new (o := 4) (v := .slice (some ⟨g8, 0, none⟩) (kids.len + 1) c8) (gr_own (gr_trans G7.out (by (repeat (first | exact gr_refl _ _ | assumption | refine gr_drew ?_ | refine gr_drewN _ ?_ | refine gr_alloc ?_ _ | refine gr_set ?_ | refine gr_set_new ?_ (by first | omega | (simp; omega)))))) (row_none HROW.out (by (repeat (first | exact gr_refl _ _ | assumption | refine gr_drew ?_ | refine gr_drewN _ ?_ | refine gr_alloc ?_ _ | refine gr_set ?_ | refine gr_set_new ?_ (by first | omega | (simp; omega)))))) HLE.out.1 hE.gr) HLE.out.1)
            have HDF := hid (fun (r' : Bs) (c' : Int) (bd fl : Bool) (h : DcR w7 b S r' c' bd fl) => DcR.setEb (o := 4) (v := .slice (some ⟨g8, 0, none⟩) (kids.len + 1) c8) (DcR.own (row_none HROW.out (by (repeat (first | exact gr_refl _ _ | assumption | refine gr_drew ?_ | refine gr_drewN _ ?_ | refine gr_alloc ?_ _ | refine gr_set ?_ | refine gr_set_new ?_ (by first | omega | (simp; omega)))))) hE.gr (h.grow (by (repeat (first | exact gr_refl _ _ | assumption | refine gr_drew ?_ | refine gr_drewN _ ?_ | refine gr_alloc ?_ _ | refine gr_set ?_ | refine gr_set_new ?_ (by first | omega | (simp; omega)))))) (by decide)) HLT.out.1)
            have HS8 := hid (I7.out.set8 (by (repeat (first | exact gr_refl _ _ | assumption | refine gr_drew ?_ | refine gr_drewN _ ?_ | refine gr_alloc ?_ _ | refine gr_set ?_ | refine gr_set_new ?_ (by first | omega | (simp; omega))))) hE (.slice (some ⟨g8, 0, none⟩) (kids.len + 1) c8))
            rcases H7.out with ⟨x, hx, rfl, rfl, rfl, hd, ha, hk⟩ | ⟨hx, r', cnt', full', hd⟩
            · have HIK := hid (I7.out.kid HROW.out HCS.out HFO.out ha hk (by (repeat (first | exact gr_refl _ _ | assumption | refine gr_drew ?_ | refine gr_drewN _ ?_ | refine gr_alloc ?_ _ | refine gr_set ?_ | refine gr_set_new ?_ (by first | omega | (simp; omega))))) hE)
              have HD9 := hid (HDF.out _ _ _ _ hd)
              have HCT := hid (HCNT.out x hx)
              have HUN3 := hid (show inL k x.2.1 ⟨p, n, s, ats, tx, kids.snoc x.1, L.reverse⟩ deep x.2.2.1 x.2.2.2 = R by rw [HUN2.out, hx]; rfl)
              clear hE x4 y4 u4 v4 t4 t5 hB8 CALL2 HD6 HI6 HG6 HDF HS8 H7 I7 G7 HROW HFO HCS HUN2 hx hd ha hk HCNT
              go_wp2_with fail
              refine ⟨.inl ⟨_, x.2.1, x.2.2.1, x.2.2.2, k, tx, _, kids.snoc x.1, HD9.out, HG9.out, HIK.out, HUN3, ?_⟩, ?_⟩
              · have h1 := HBD.out
                have h2 := HCT.out
                have h3 := HLEN.out
                rw [Fo.len_snoc]
                omega
              · rw [inJ_good HD9.out, HMS.out]
                have h2 := HCT.out
                have h3 := HLEN.out
                omega
            · have HRN := hid (show R = none by rw [HUN2.out, hx])
              have HD9 := hid (HDF.out _ _ _ _ hd)
              clear hE x4 y4 u4 v4 t4 t5 hB8 CALL2 HD6 HI6 HG6 HDF H7 I7 G7 HROW HFO HCS HUN2 hx hd HCNT
              go_wp2_with fail
              exact ⟨.inr ⟨HRN.out, r', cnt', full', s, n, tx, aa, _, ac, _, _, _, HD9.out, HG9.out, HS8.out.1, HS8.out.2⟩, by rw [inJ_bad HD9.out, HMS.out]; omega⟩
        rw [HN1.out rfl] at HD6
        clear HN1 HL1
        have HPR := hid (show Lib.hasPrefix r1 noteO = false ∧ Lib.hasPrefix r1 cdO = false ∧ Lib.hasPrefix r1 [60, 47] = false ∧ Lib.hasPrefix r1 [60] = false from ⟨HPp1.out, HPp2.out, HPp3.out, HPp4.out⟩)
        clear HPp1 HPp2 HPp3 HPp4 HEL HBN
        have HSC := hid (fun q (h1 : q ≤ r1.length) h2 h3 => inL_scan (k := k) (q := q) (f := ⟨p, n, s, ats, tx, kids, L.reverse⟩) (deep := deep) (cnt := cnt1) (full := full1) HPR.out.1 HPR.out.2.1 HPR.out.2.2.1 HPR.out.2.2.2 HR0.out h1 h2 h3)
        rw [HUN.out] at HSC
        clear HUN HPR
        obtain ⟨i6, hi6, hdr6, hat6⟩ := HD6.out
        have hrl6 := hid (show r1.length = S.length - i6 by rw [← hdr6, List.length_drop])
        have HDR6 := hid hdr6
        have HAT6 := hid hat6
        obtain ⟨c0, c1, -, c3, -⟩ := hat6.cells
        have hS6 := hid (show i6 ≤ S.length from hi6)
        clear hdr6 hat6 HD6 hi6
        go_wp2_with fail
        go_loopw [88] (fun _ wx => ∃ q, i6 + q ≤ S.length ∧ DcAt wx b S (i6 + q) (cnt1 : Int) false full1 ∧ w.grownBy wx (some b) ∧ InAt wx X base eb rb s n (.slice aa ats.length ac) ats tx (.slice ka kids.len kc) kids ∧ Hid ((r1.take q).all (fun c => !((60 : UInt8) == c)) = true)) (fun _ wx => S.length + 1 - upJ wx b)
        case atStart => exact ⟨0, hS6.out, HAT6.out, HG6.out, HI6.out, rfl⟩
        case round =>
          obtain ⟨q, hq, hat, hg, hin, hall⟩ := hrel
          have HAT := hid hat
          have HG7 := hid hg
          have HI7 := hid hin
          obtain ⟨d0, d1, -, d3, -, f1, -, f3, -⟩ := hat.cells
          have hsz : (ByteArray.mk S.toArray).size = S.length := by rw [Lib.size_eq]
          clear hat hg hin c0 c1 c3 HAT6 HI6 HG6
          by_cases hlt3 : i6 + q < S.length
          · have hlt' : decide ((i6 : Int) + (q : Int) < (S.length : Int)) = true := by simp; omega
            have hb1 : (i6 : Int) + (q : Int) < (S.length : Int) := by omega
            have hb2 : ((i6 : Int) + (q : Int)).toNat = i6 + q := by omega
            have hSn : S.length ≤ 20000 := HNUM.out.1
            have hkr : q < r1.length := by rw [hrl6.out]; omega
            have hc : (ByteArray.mk S.toArray)[i6 + q]'(by rw [hsz]; exact hlt3) = r1.getD q 0 := by
              rw [strAt, ← HDR6.out]
              simp only [List.getD_eq_getElem?_getD, List.getElem?_drop]
            have hb60 : (((r1.getD q 0).toNat : Int) != 60) = !((60 : UInt8) == r1.getD q 0) := by
              rw [Bool.eq_iff_iff]
              simp only [bne_iff_ne, ne_eq, Bool.not_eq_true', beq_eq_false_iff_ne]
              constructor
              · exact fun h e => h (by rw [← e]; rfl)
              · exact fun h e => h (UInt8.toNat_inj.1 (by simpa using (show (60 : Nat) = (r1.getD q 0).toNat by omega)))
            have hst := hid (xall_snoc r1 (fun c => !((60 : UInt8) == c)) q hkr)
            have HFIN := hid (fun (h : (!((60 : UInt8) == r1.getD q 0)) = false) => HSC.out q (by omega) hall.out (.inr ⟨hkr, (by have := h; simp at this; exact this.symm)⟩))
            generalize r1.getD q 0 = cc at *
            generalize (!((60 : UInt8) == cc)) = q60 at *
            have hkr2 := hid hkr
            clear hkr
            go_wp2_with fail
            go_quiet (fail)
            cases q60
            · have HF := hid (HFIN.out rfl)
              have gq := gr_drewN nq (gr_refl wr none)
              have H2 := hid (HAT.out.grow gq)
              have G2 := hid (gr_trans HG7.out (gr_none gq))
              have I2 := hid (HI7.out.grow gq)
              have hqS := hid (show i6 + q ≤ S.length from hq)
              clear gq d0 d1 d3 f1 f3 HAT HG7 HI7 HFIN HSC
              revert H2 G2 I2
              generalize wr.drewN nq = w2
              intro H2 G2 I2
              obtain ⟨d0, d1, -, d3, -, f1, -, f3, -⟩ := H2.out.cells
              have hxe : (ByteArray.mk S.toArray).extract i6 (i6 + q) = ⟨(r1.take q).toArray⟩ := by rw [ext_at, HDR6.out]
              have hxl := hid (show q ≤ r1.length by rw [hrl6.out]; have := hqS.out; omega)
              have HXL := hid (show (r1.take q).length = q by rw [List.length_take]; have := hxl.out; omega)
              have HST := hid (fun (W : World) => (show Calls Tryz.prog 195 #[.string ((ByteArray.mk S.toArray).extract i6 (i6 + q))] W (EntPost W (unescA (r1.take q))) from by
                rw [hxe]; exact stands_r (r1.take q) W (by rw [HXL.out]; have := hxl.out; have := HBD.out; omega)))
              have HUL := hid (fun t (h : unescA (r1.take q) = some t) => unescA_len4 h)
              have HDQ := hid (show S.drop (i6 + q) = r1.drop q by rw [← HDR6.out, List.drop_drop])
              generalize unescA (r1.take q) = U at *
              unfold EntPost at HST
              have hle : (i6 : Int) ≤ (i6 : Int) + (q : Int) := by omega
              have hle2 : (i6 : Int) + (q : Int) ≤ (S.length : Int) := by have := hqS.out; omega
              have hb9 : ((i6 : Int) + (q : Int)).toNat = i6 + q := by omega
              have HXE := hid hxe
              clear hxe hall
              obtain ⟨z, hz⟩ : ∃ z, z = U.getD [] := ⟨_, rfl⟩
              rw [← hz] at HST
              have HZ := hid hz
              obtain ⟨ok, hok⟩ : ∃ ok, ok = U.isSome := ⟨_, rfl⟩
              rw [← hok] at HST
              have HOK := hid hok
              have hzl := hid (show z.length ≤ 4 * q by
                rw [hz]
                cases hU : U with
                | none => simp
                | some t => have h3 := HUL.out t hU; rw [HXL.out] at h3; simpa using h3)
              clear hz hok
              have HD2 := hid (show DcR w2 b S (r1.drop q) (cnt1 : Int) false full1 from ⟨i6 + q, hqS.out, HDQ.out, H2.out⟩)
              have hq9 : ¬ 9223372036854775807 < tx.length + z.length := by have := hzl.out; have := hxl.out; have := HBD.out; omega
              go_wp2_with fail
              go_region_with (go_at_call 195; refine (HST.out _).mono ?_; rintro e w8 ⟨rfl, g8⟩; have g28 : w2.grownBy w8 none := gr_trans (gr_drew (gr_refl w2 none)) g8)
              all_goals
                have HD8 := hid (HD2.out.grow g28)
                have G8 := hid (gr_trans G2.out (gr_none g28))
                have I8 := hid (I2.out.grow g28)
                clear d0 d1 d3 f1 f3 g8 g28 H2 G2 I2 HD2 HST
                unfold str
                obtain ⟨-, -, -, x3, -⟩ := ElB.cells I8.out.blk
                have y3 := ElB.free I8.out.blk 3
                have HX := hid (app_str tx z)
                have HD9 := hid (HD8.out.setEb (o := 3) (v := .string ⟨(tx ++ z).toArray⟩) HLT.out.1)
                have G9 := hid (gr_set_new (o := 3) (v := .string ⟨(tx ++ z).toArray⟩) G8.out HLE.out.1)
                have I9 := hid (I8.out.setT (tx ++ z))
                go_upto_region 19 with fail
                rw [HX.out]
                generalize w8.setCell ⟨eb, 3, none⟩ (.string ⟨(tx ++ z).toArray⟩) = w9 at *
                clear x3 y3 HX HD8 G8 I8
                obtain ⟨-, d3, -, -, f3, -⟩ := HD9.out.cells
                cases ok
                · have HRN := hid (show R = none from HF.out.2.1 (by cases hU : U with | none => rfl | some t => have := HOK.out; rw [hU] at this; cases this))
                  have HDx := hid (HD9.out.setBad true)
                  have gs := gr_set (o := 3) (v := .bool true) (gr_refl w9 (some b))
                  have Gx := hid (gr_trans G9.out gs)
                  have Ix := hid (I9.out.step gs HB.out)
                  clear gs
                  go_wp2_with fail
                  exact ⟨.inr (Ix.out.bd HRN.out HDx.out Gx.out), by rw [inJ_bad HDx.out, HMS.out]; omega⟩
                · have HUN3 := hid (show inL k (r1.drop q) ⟨p, n, s, ats, tx ++ z, kids, L.reverse⟩ deep cnt1 full1 = R from (HF.out.2.2 z (by
                    have h1 := HOK.out
                    have h2 := HZ.out
                    cases hU : U with
                    | none => rw [hU] at h1; cases h1
                    | some t => rw [hU] at h2; rw [h2]; rfl)).symm)
                  have HDx := hid (HD9.out.setBad false)
                  have gs := gr_set (o := 3) (v := .bool false) (gr_refl w9 (some b))
                  have Gx := hid (gr_trans G9.out gs)
                  have Ix := hid (I9.out.step gs HB.out)
                  clear gs
                  go_wp2_with fail
                  refine ⟨.inl ⟨X, r1.drop q, cnt1, full1, k, tx ++ z, _, kids, HDx.out, Gx.out, Ix.out, HUN3, ?_⟩, ?_⟩
                  · have h1 := HBD.out
                    have h2 := hzl.out
                    have h3 := hxl.out
                    have h4 := HF.out.1
                    rw [List.length_append, List.length_drop]
                    omega
                  · rw [inJ_good HDx.out, HMS.out, List.length_drop]
                    have h3 := hxl.out
                    have h4 := HF.out.1
                    omega
            · have H2 := hid (HAT.out.grow (gr_drewN nq (gr_refl _ _)))
              have G2 := hid (gr_drewN nq HG7.out)
              have I2 := hid (HI7.out.grow (gr_drewN nq (gr_refl _ _)))
              clear d0 d1 d3 f1 f3
              have HMZ := hid (upJ_of HAT.out)
              clear HAT HG7 HI7
              revert H2 G2 I2
              generalize wr.drewN nq = w2
              intro H2 G2 I2
              obtain ⟨d0, d1, -, d3, -, f1, -, f3, -⟩ := H2.out.cells
              have hkk : (i6 : Int) + (q : Int) + 1 = ((i6 + (q + 1) : Nat) : Int) := by omega
              have HKK := hid hkk
              have H4 := hid (H2.out.setI (i6 + (q + 1)))
              have I4 := hid (I2.out.step (gr_set (o := 1) (v := .int .i64 ((i6 + (q + 1) : Nat) : Int)) (gr_refl w2 (some b))) HB.out)
              clear hkk
              go_wp2
              go_roundw
              case rel => exact ⟨q + 1, by omega, by rw [HKK.out]; exact H4.out, gr_set G2.out, by rw [HKK.out]; exact I4.out, hid (by rw [hst.out, hall.out]; rfl)⟩
              case measure => rw [HKK.out, upJ_of H4.out, HMZ.out]; omega
          · have HQE := hid (show i6 + q = S.length by omega)
            have hlt' : decide ((i6 : Int) + (q : Int) < (S.length : Int)) = false := by simp; omega
            have HFIN := hid (fun (_ : True) => HSC.out q (by rw [hrl6.out]; have := HQE.out; omega) hall.out (.inl (by rw [hrl6.out]; have := HQE.out; omega)))
            clear hlt3
            go_wp2_with fail
            go_quiet (fail)
            have HF := hid (HFIN.out trivial)
            have gq := gr_drewN nq (gr_refl wr none)
            have H2 := hid (HAT.out.grow gq)
            have G2 := hid (gr_trans HG7.out (gr_none gq))
            have I2 := hid (HI7.out.grow gq)
            have hqS := hid (show i6 + q ≤ S.length from hq)
            clear gq d0 d1 d3 f1 f3 HAT HG7 HI7 HFIN HSC
            revert H2 G2 I2
            generalize wr.drewN nq = w2
            intro H2 G2 I2
            obtain ⟨d0, d1, -, d3, -, f1, -, f3, -⟩ := H2.out.cells
            have hxe : (ByteArray.mk S.toArray).extract i6 (i6 + q) = ⟨(r1.take q).toArray⟩ := by rw [ext_at, HDR6.out]
            have hxl := hid (show q ≤ r1.length by rw [hrl6.out]; have := hqS.out; omega)
            have HXL := hid (show (r1.take q).length = q by rw [List.length_take]; have := hxl.out; omega)
            have HST := hid (fun (W : World) => (show Calls Tryz.prog 195 #[.string ((ByteArray.mk S.toArray).extract i6 (i6 + q))] W (EntPost W (unescA (r1.take q))) from by
              rw [hxe]; exact stands_r (r1.take q) W (by rw [HXL.out]; have := hxl.out; have := HBD.out; omega)))
            have HUL := hid (fun t (h : unescA (r1.take q) = some t) => unescA_len4 h)
            have HDQ := hid (show S.drop (i6 + q) = r1.drop q by rw [← HDR6.out, List.drop_drop])
            generalize unescA (r1.take q) = U at *
            unfold EntPost at HST
            have hle : (i6 : Int) ≤ (i6 : Int) + (q : Int) := by omega
            have hle2 : (i6 : Int) + (q : Int) ≤ (S.length : Int) := by have := hqS.out; omega
            have hb9 : ((i6 : Int) + (q : Int)).toNat = i6 + q := by omega
            have HXE := hid hxe
            clear hxe hall
            obtain ⟨z, hz⟩ : ∃ z, z = U.getD [] := ⟨_, rfl⟩
            rw [← hz] at HST
            have HZ := hid hz
            obtain ⟨ok, hok⟩ : ∃ ok, ok = U.isSome := ⟨_, rfl⟩
            rw [← hok] at HST
            have HOK := hid hok
            have hzl := hid (show z.length ≤ 4 * q by
              rw [hz]
              cases hU : U with
              | none => simp
              | some t => have h3 := HUL.out t hU; rw [HXL.out] at h3; simpa using h3)
            clear hz hok
            have HD2 := hid (show DcR w2 b S (r1.drop q) (cnt1 : Int) false full1 from ⟨i6 + q, hqS.out, HDQ.out, H2.out⟩)
            have hq9 : ¬ 9223372036854775807 < tx.length + z.length := by have := hzl.out; have := hxl.out; have := HBD.out; omega
            go_wp2_with fail
            go_region_with (go_at_call 195; refine (HST.out _).mono ?_; rintro e w8 ⟨rfl, g8⟩; have g28 : w2.grownBy w8 none := gr_trans (gr_drew (gr_refl w2 none)) g8)
            all_goals
              have HD8 := hid (HD2.out.grow g28)
              have G8 := hid (gr_trans G2.out (gr_none g28))
              have I8 := hid (I2.out.grow g28)
              clear d0 d1 d3 f1 f3 g8 g28 H2 G2 I2 HD2 HST
              unfold str
              obtain ⟨-, -, -, x3, -⟩ := ElB.cells I8.out.blk
              have y3 := ElB.free I8.out.blk 3
              have HX := hid (app_str tx z)
              have HD9 := hid (HD8.out.setEb (o := 3) (v := .string ⟨(tx ++ z).toArray⟩) HLT.out.1)
              have G9 := hid (gr_set_new (o := 3) (v := .string ⟨(tx ++ z).toArray⟩) G8.out HLE.out.1)
              have I9 := hid (I8.out.setT (tx ++ z))
              go_upto_region 19 with fail
              rw [HX.out]
              generalize w8.setCell ⟨eb, 3, none⟩ (.string ⟨(tx ++ z).toArray⟩) = w9 at *
              clear x3 y3 HX HD8 G8 I8
              obtain ⟨-, d3, -, -, f3, -⟩ := HD9.out.cells
              cases ok
              · have HRN := hid (show R = none from HF.out.2.1 (by cases hU : U with | none => rfl | some t => have := HOK.out; rw [hU] at this; cases this))
                have HDx := hid (HD9.out.setBad true)
                have gs := gr_set (o := 3) (v := .bool true) (gr_refl w9 (some b))
                have Gx := hid (gr_trans G9.out gs)
                have Ix := hid (I9.out.step gs HB.out)
                clear gs
                go_wp2_with fail
                exact ⟨.inr (Ix.out.bd HRN.out HDx.out Gx.out), by rw [inJ_bad HDx.out, HMS.out]; omega⟩
              · have HUN3 := hid (show inL k (r1.drop q) ⟨p, n, s, ats, tx ++ z, kids, L.reverse⟩ deep cnt1 full1 = R from (HF.out.2.2 z (by
                  have h1 := HOK.out
                  have h2 := HZ.out
                  cases hU : U with
                  | none => rw [hU] at h1; cases h1
                  | some t => rw [hU] at h2; rw [h2]; rfl)).symm)
                have HDx := hid (HD9.out.setBad false)
                have gs := gr_set (o := 3) (v := .bool false) (gr_refl w9 (some b))
                have Gx := hid (gr_trans G9.out gs)
                have Ix := hid (I9.out.step gs HB.out)
                clear gs
                go_wp2_with fail
                refine ⟨.inl ⟨X, r1.drop q, cnt1, full1, k, tx ++ z, _, kids, HDx.out, Gx.out, Ix.out, HUN3, ?_⟩, ?_⟩
                · have h1 := HBD.out
                  have h2 := hzl.out
                  have h3 := hxl.out
                  have h4 := HF.out.1
                  rw [List.length_append, List.length_drop]
                  omega
                · rw [inJ_good HDx.out, HMS.out, List.length_drop]
                  have h3 := hxl.out
                  have h4 := HF.out.1
                  omega
end Go.Proofs.YtmofnoconhgjmaaGreatDoor
/- hearthref17.Parse. -/
namespace Go.Proofs.YtmofnoconhgjmaaGreatDoor
open Go.RowKit
set_option linter.unusedVariables false
set_option linter.unusedSimpArgs false

theorem ins_el : ∀ N, InsideOk N ∧ ElementOk N := by
  intro N
  induction N with
  | zero =>
    have h : InsideOk 0 := fun m _ _ _ _ r _ _ _ _ _ _ _ _ _ _ hm hr => absurd hr (by omega)
    exact ⟨h, element_r 0 h inside_bad⟩
  | succ N ih => exact ⟨inside_r N ih.2, element_r (N + 1) (inside_r N ih.2) inside_bad⟩
set_option maxHeartbeats 4000000 in
theorem around_bad (b : Nat) (S rest : List UInt8) (cnt : Int) (full : Bool) (w : World) (h : DcR w b S rest cnt true full) (hS : S.length ≤ 100000) :
    Calls Tryz.prog 74 #[.pointer (some ⟨b, 0, none⟩)] w fun e w' => e = .returned (.tuple #[]) ∧ w.grownBy w' (some b) ∧ ∃ r', DcR w' b S r' cnt true full := by
  have HB0 := hid (blanks_r b S rest cnt true full w h hS)
  clear h
  go_enter Tryz.func74, Tryz.ntmps74
  go_wp2_with fail
  refine HB0.out.mono ?_
  rintro e w0 ⟨n0, rfl, -, hd0, g0⟩
  have G0 := hid g0
  have HD0 := hid hd0
  clear hd0 g0
  go_wp2_with fail
  go_loopw [4] (fun _ wr => w.grownBy wr (some b) ∧ ∃ r', DcR wr b S r' cnt true full) (fun _ wr => 0)
  case atStart => exact ⟨G0.out, _, HD0.out⟩
  case round =>
    obtain ⟨gw, r', hd⟩ := hrel
    have hbd := hd.bad
    have HD := hid hd
    have GW := hid gw
    clear gw hd
    go_wp2
    refine bodyPost_end (results_none rfl _ _ _) rfl ?_
    exact ⟨rfl, GW.out, _, HD.out⟩
/-- A text's element in the reference's memory. -/
theorem elAt_out {w : World} {base B : Nat} {e : El} {av kv : Value} (hB : B ≤ base) (ha : AtsAt w (· < base) av e.ats) (hk : KidV w (· < base) kv e.kids) : ElAt w (fun k => k < B) (elV e av kv) e :=
  ⟨av, kv, rfl, ha.less (fun k _ h => Nat.lt_of_lt_of_le h hB), hk.less (fun k _ h => Nat.lt_of_lt_of_le h hB)⟩
/-- Behind the declaration. -/
def HdQ (w wx : World) (b : Nat) (S l : Bs) : Prop := w.grownBy wx (some b) ∧ ((∃ r, docHead l = some r ∧ r.length ≤ l.length ∧ DcR wx b S r 0 false false) ∨ (docHead l = none ∧ ∃ r, DcR wx b S r 0 true false))
set_option maxRecDepth 20000 in
set_option maxHeartbeats 20000000 in
theorem rparse_r (w : World) (l : Bs) (hl : l.length ≤ 20000) :
    Calls Tryz.prog 34 #[.string ⟨l.toArray⟩] w (ParseQ w (parseL l)) := by
  obtain ⟨R, hR⟩ : ∃ R, R = parseL l := ⟨_, rfl⟩
  rw [← hR]
  have HL := hid hl
  by_cases h8 : 8192 < l.length
  · have h8' : (8192 : Int) < (l.length : Int) := by omega
    have HV := hid (show R = (El.zero, 14) by rw [hR]; unfold parseL; rw [if_pos h8])
    clear hR hl h8
    go_enter Tryz.func34, Tryz.ntmps34
    go_wp2
    refine bodyPost_ret (v := .tuple #[.agg #[.string ⟨#[]⟩, .string ⟨#[]⟩, .slice none 0 0, .string ⟨#[]⟩, .slice none 0 0], .int .i64 14]) (by simp [results, Tryz.results34, go_sem]) rfl ?_
    rw [HV.out]
    exact ⟨by (repeat (first | exact gr_refl _ _ | assumption | refine gr_drew ?_ | refine gr_drewN _ ?_ | refine gr_alloc ?_ _ | refine gr_set ?_ | refine gr_set_new ?_ (by first | omega | (simp; omega)))), _, rfl, zero_at _ _⟩
  · have h8' : ¬ (8192 : Int) < (l.length : Int) := by omega
    have HV := hid (show R = finL l (docL l) by rw [hR, parseL_fin h8])
    clear hR hl h8
    obtain ⟨w1, hw1⟩ : ∃ w1, w1 = w.alloc (.cells #[.string ⟨#[]⟩, .string ⟨#[]⟩, .slice none 0 0, .string ⟨#[]⟩, .slice none 0 0] 25) := ⟨_, rfl⟩
    obtain ⟨w2, hw2⟩ : ∃ w2, w2 = w1.alloc (.cells #[.string ⟨l.toArray⟩, .int .i64 0, .int .i64 0, .bool false, .bool false] 151) := ⟨_, rfl⟩
    have G1 := hid (show w.grownBy w1 none by rw [hw1]; exact gr_alloc (gr_refl _ _) _)
    have T1 := hid (show ElB w1 w.heap.size [] [] (.slice none 0 0) [] (.slice none 0 0) by rw [hw1]; exact heap_alloc_new w _)
    have HSZ := hid (show w.heap.size + 1 = w1.heap.size by rw [hw1]; simp)
    have G2 := hid (show w1.grownBy w2 (some w1.heap.size) by rw [hw2]; exact gr_alloc (gr_refl _ _) _)
    have D2 := hid (show DcR w2 w1.heap.size l l 0 false false from ⟨0, Nat.zero_le _, rfl, by rw [hw2]; exact heap_alloc_new w1 _⟩)
    have HW1 := hid hw1
    have HW2 := hid hw2
    clear hw1 hw2
    obtain ⟨b, hb⟩ : ∃ b, b = w1.heap.size := ⟨_, rfl⟩
    rw [← hb] at G2 D2
    have HB := hid hb
    clear hb
    -- what is written behind: the place of the result
    have HT := hid (fun (W : World) (g : w1.grownBy W (some b)) => (show ElB W w.heap.size [] [] (.slice none 0 0) [] (.slice none 0 0) from gr_keep g T1.out (by have := HB.out; have := HSZ.out; simp; omega)))
    have HGR := hid (fun (W : World) (g : w1.grownBy W (some b)) => (show w.grownBy W none from gr_new G1.out g (by have := HB.out; have := HSZ.out; omega)))
    have BAD := hid (fun (W : World) (c : Nat) (hR : R = (El.zero, c)) (g : w1.grownBy W (some b)) =>
      (show ParseQ w R (.returned (.tuple #[.agg #[.string ⟨#[]⟩, .string ⟨#[]⟩, .slice none 0 0, .string ⟨#[]⟩, .slice none 0 0], .int .i64 (c : Int)])) (ret5 W w.heap.size [] [] (.slice none 0 0) [] (.slice none 0 0)) from by
        rw [hR]; exact ⟨ret5_gr (HGR.out W g) (Nat.le_refl _), _, rfl, zero_at _ _⟩))
    clear T1 G1
    go_enter Tryz.func34, Tryz.ntmps34
    go_wp2_with fail
    rw [← HW1.out, ← HW2.out]
    rw [HSZ.out, ← HB.out]
    have HT1 := hid (pass_r b l l [60, 63, 120, 109, 108] 0 false false w2 D2.out (by have := HL.out; omega) (by decide))
    obtain ⟨p1, hp1⟩ : ∃ p1, Lib.hasPrefix l [60, 63, 120, 109, 108] = p1 := ⟨_, rfl⟩
    have HDH := hid (show docHead l = if p1 then (if (Lib.cut (Lib.trimPrefix l decO) decC).2.2 then some (Lib.cut (Lib.trimPrefix l decO) decC).2.1 else none) else some l by unfold docHead; rw [show Lib.hasPrefix l decO = p1 from hp1])
    have HN1 := hid (fun (hp : p1 = false) => show Lib.trimPrefix l [60, 63, 120, 109, 108] = l by unfold Lib.trimPrefix; rw [hp1, hp]; rfl)
    rw [hp1] at HT1
    clear hp1 HW1 HW2
    go_wp2_with fail
    refine HT1.out.mono ?_
    rintro e w3 ⟨rfl, hd, g3⟩
    have G3 := hid (gr_trans G2.out g3)
    have D3 := hid hd
    clear hd g3 HT1 G2 D2
    go_upto_if 14 with fail
    go_cut [4] (fun v4 wx => v4 = .pointer (some ⟨b, 0, none⟩) ∧ HdQ w1 wx b l l)
    case first =>
      cases p1
      · have HD := hid (show docHead l = some l from HDH.out)
        rw [HN1.out rfl] at D3
        go_wp2_with fail
        go_meet
        exact ⟨rfl, G3.out, .inl ⟨l, HD.out, Nat.le_refl _, D3.out⟩⟩
      · have HD := hid (show docHead l = if (Lib.cut (Lib.trimPrefix l [60, 63, 120, 109, 108]) [63, 62]).2.2 then some (Lib.cut (Lib.trimPrefix l [60, 63, 120, 109, 108]) [63, 62]).2.1 else none from HDH.out)
        have htl := trim_len l [60, 63, 120, 109, 108]
        generalize Lib.trimPrefix l [60, 63, 120, 109, 108] = la at *
        have hcl := cut_len la [63, 62]
        have HU := hid (upto_r b l la [63, 62] 0 false w3 D3.out (by have := HL.out; omega) (by decide) (by decide))
        unfold UpPost at HU
        generalize Lib.cut la [63, 62] = C at *
        go_wp2_with fail
        refine HU.out.mono ?_
        rintro e w4 ⟨g4, h4⟩
        have G4 := hid (gr_trans G3.out g4)
        rcases h4 with ⟨h4, rfl, h5⟩ | ⟨h4, rfl, r', h5⟩
        · have HD2 := hid (show docHead l = some C.2.1 by rw [HD.out, if_pos h4])
          have H5 := hid h5
          clear h4 h5
          unfold str
          go_wp2_with fail
          go_meet
          exact ⟨rfl, G4.out, .inl ⟨_, HD2.out, by omega, H5.out⟩⟩
        · have HD2 := hid (show docHead l = none by rw [HD.out, h4]; rfl)
          have H5 := hid h5
          clear h4 h5
          unfold str
          go_wp2_with fail
          go_meet
          exact ⟨rfl, G4.out, .inr ⟨HD2.out, _, H5.out⟩⟩
    case rest =>
      obtain ⟨rfl, g4, h4⟩ := hcut
      have G4 := hid g4
      have HX : Hid (∃ (r3 : Option Bs), True ∧ docL l = ((r3.bind fun r' => if Lib.hasPrefix r' [60] then some (Lib.trimPrefix r' [60]) else none).bind (rootL xmlB)).bind (fun x => if miscA x.2.1 = some [] then some (x.1, x.2.2.2) else none) ∧
          Calls Tryz.prog 74 #[.pointer (some ⟨b, 0, none⟩)] wc fun e w' => e = .returned (.tuple #[]) ∧ wc.grownBy w' (some b) ∧ ((∃ t, r3 = some t ∧ t.length ≤ l.length ∧ DcR w' b l t 0 false false) ∨ (r3 = none ∧ ∃ r', DcR w' b l r' 0 true false))) := by
        rcases h4 with ⟨r, h5, h6, h7⟩ | ⟨h5, r, h7⟩
        · refine hid ⟨miscA r, trivial, by unfold docL docBeg; rw [h5]; rfl, (around_r b l r 0 false wc h7 (by have := HL.out; omega)).mono ?_⟩
          rintro e w' ⟨h1, h2, h3⟩
          refine ⟨h1, h2, ?_⟩
          rcases h3 with ⟨t, h3, h8⟩ | ⟨h3, r', h8⟩
          · exact .inl ⟨t, h3, h8.len, h8⟩
          · exact .inr ⟨h3, r', h8⟩
        · refine hid ⟨none, trivial, by unfold docL docBeg; rw [h5]; rfl, (around_bad b l r 0 false wc h7 (by have := HL.out; omega)).mono ?_⟩
          rintro e w' ⟨h1, h2, h3⟩
          exact ⟨h1, h2, .inr ⟨rfl, h3⟩⟩
      clear h4 g4 HN1 HDH G3 D3
      obtain ⟨r3, -, hdoc, hcall⟩ := HX.out
      have HDOC := hid hdoc
      have HCALL := hid hcall
      clear hdoc hcall HX
      go_wp2_with fail
      refine HCALL.out.mono ?_
      rintro e w5 ⟨rfl, g5, h5⟩
      have G5 := hid (gr_trans G4.out g5)
      clear HCALL g5 G4
      rcases h5 with ⟨t, rfl, htl, hd5⟩ | ⟨rfl, r', hd5⟩
      rotate_left
      · -- bad
        have HN := hid (show R = (El.zero, 11) by rw [HV.out, HDOC.out]; rfl)
        have d3 := hd5.bad
        have HT5 := hid (HT.out w5 G5.out)
        obtain ⟨k0, k1, k2, k3, k4⟩ := ElB.cells HT5.out
        have z0 := ElB.free HT5.out 0
        have z1 := ElB.free HT5.out 1
        have z2 := ElB.free HT5.out 2
        have z3 := ElB.free HT5.out 3
        have z4 := ElB.free HT5.out 4
        clear hd5
        go_wp2
        refine bodyPost_ret (v := .tuple #[.agg #[.string ⟨#[]⟩, .string ⟨#[]⟩, .slice none 0 0, .string ⟨#[]⟩, .slice none 0 0], .int .i64 11]) (by simp [results, Tryz.results34, go_sem, k0, k1, k2, k3, k4]) rfl ?_
        exact BAD.out w5 11 HN.out G5.out
      have d3 := hd5.bad
      have D5 := hid hd5
      have HT6 := hid (pass_r b l t [60] 0 false false w5 hd5 (by have := HL.out; omega) (by decide))
      obtain ⟨p2, hp2⟩ : ∃ p2, Lib.hasPrefix t [60] = p2 := ⟨_, rfl⟩
      have HDOC2 := hid (show docL l = ((if p2 then some (Lib.trimPrefix t [60]) else none).bind (rootL xmlB)).bind (fun x => if miscA x.2.1 = some [] then some (x.1, x.2.2.2) else none) by rw [HDOC.out, ← hp2]; rfl)
      have htt := trim_len t [60]
      rw [hp2] at HT6
      clear hp2 hd5 HDOC
      go_wp2_with fail
      refine HT6.out.mono ?_
      rintro e w6 ⟨rfl, hd6, g6⟩
      have G6 := hid (gr_trans G5.out g6)
      have D6 := hid hd6
      clear hd6 g6 HT6 D5 d3 G5
      cases p2
      · have HN := hid (show R = (El.zero, 11) by rw [HV.out, HDOC2.out]; rfl)
        have HT5 := hid (HT.out w6 G6.out)
        obtain ⟨k0, k1, k2, k3, k4⟩ := ElB.cells HT5.out
        have z0 := ElB.free HT5.out 0
        have z1 := ElB.free HT5.out 1
        have z2 := ElB.free HT5.out 2
        have z3 := ElB.free HT5.out 3
        have z4 := ElB.free HT5.out 4
        go_wp2
        refine bodyPost_ret (v := .tuple #[.agg #[.string ⟨#[]⟩, .string ⟨#[]⟩, .slice none 0 0, .string ⟨#[]⟩, .slice none 0 0], .int .i64 11]) (by simp [results, Tryz.results34, go_sem, k0, k1, k2, k3, k4]) rfl ?_
        exact BAD.out w6 11 HN.out G6.out
      generalize Lib.trimPrefix t [60] = r4 at *
      have HDOC3 := hid (show docL l = (elmL (r4.length + 1) xmlB r4 1 0 false).bind (fun x => if miscA x.2.1 = some [] then some (x.1, x.2.2.2) else none) by rw [← rootL_elm]; exact HDOC2.out)
      clear HDOC2
      have CALL := hid (fun (W : World) (g : w6.grownBy W none) (vL : Value) (hv : BnAt W vL xmlB) => (ins_el (r4.length + 1)).2 (r4.length + 1) W b l r4 xmlB vL 1 0 false (Nat.le_refl _) (Nat.lt_succ_self _) (D6.out.grow g) HL.out hv (by decide) (by have := HL.out; simp only [xmlB, List.length_cons, List.length_nil]; omega) (by have := HL.out; omega) (by have := HL.out; omega))
      rw [show xmlB.reverse = xmlB from rfl] at CALL
      have hel := hid (fun x => elmL_cnt (n := r4.length + 1) (up := xmlB) (r := r4) (deep := 1) (cnt := 0) (full := false) (x := x))
      generalize elmL (r4.length + 1) xmlB r4 1 0 false = E at *
      have HBW := hid (show b < w6.heap.size from D6.out.lt)
      rw [show ((1 : Nat) : Int) = 1 from rfl] at CALL
      have BNX := hid (show BnAt (w6.alloc (.cells #[.string ⟨#[120, 109, 108]⟩, .string ⟨#[104, 116, 116, 112, 58, 47, 47, 119, 119, 119, 46, 119, 51, 46, 111, 114, 103, 47, 88, 77, 76, 47, 49, 57, 57, 56, 47, 110, 97, 109, 101, 115, 112, 97, 99, 101]⟩] 155)) (.slice (some ⟨w6.heap.size, 0, none⟩) 1 1) xmlB from
        bn_new w6 [120, 109, 108] [104, 116, 116, 112, 58, 47, 47, 119, 119, 119, 46, 119, 51, 46, 111, 114, 103, 47, 88, 77, 76, 47, 49, 57, 57, 56, 47, 110, 97, 109, 101, 115, 112, 97, 99, 101])
      have GA := hid (gr_alloc (gr_refl w6 none) (.cells #[.string ⟨#[120, 109, 108]⟩, .string ⟨#[104, 116, 116, 112, 58, 47, 47, 119, 119, 119, 46, 119, 51, 46, 111, 114, 103, 47, 88, 77, 76, 47, 49, 57, 57, 56, 47, 110, 97, 109, 101, 115, 112, 97, 99, 101]⟩] 155))
      go_wp2_with fail
      refine (CALL.out _ GA.out _ BNX.out).mono ?_
      obtain ⟨w6', hw6'⟩ : ∃ w6', w6' = w6.alloc (.cells #[.string ⟨#[120, 109, 108]⟩, .string ⟨#[104, 116, 116, 112, 58, 47, 47, 119, 119, 119, 46, 119, 51, 46, 111, 114, 103, 47, 88, 77, 76, 47, 49, 57, 57, 56, 47, 110, 97, 109, 101, 115, 112, 97, 99, 101]⟩] 155) := ⟨_, rfl⟩
      rw [← hw6'] at GA ⊢
      clear hw6' BNX CALL
      rintro e w7 ⟨g7, h7⟩
      have G7 := hid (gr_trans (gr_trans G6.out (gr_none GA.out)) g7)
      have HB7 := hid (show b < w6'.heap.size from Nat.lt_of_lt_of_le HBW.out GA.out.size)
      clear g7 G6 D6 GA
      rcases h7 with ⟨x, av, kv, hx, rfl, hd, ha, hk⟩ | ⟨hx, s', n', tx', a1, a2, l1, l2, l3, l4, r', cnt', full', rfl, hd⟩
      rotate_left
      · have HN := hid (show R = (El.zero, 11) by rw [HV.out, HDOC3.out, hx]; rfl)
        have HD8 := hid (hd.grow (gr_alloc (gr_refl w7 none) (.cells #[.string ⟨s'.toArray⟩, .string ⟨n'.toArray⟩, .slice a1 l1 l2, .string ⟨tx'.toArray⟩, .slice a2 l3 l4] 25)))
        have G8 := hid (gr_alloc G7.out (.cells #[.string ⟨s'.toArray⟩, .string ⟨n'.toArray⟩, .slice a1 l1 l2, .string ⟨tx'.toArray⟩, .slice a2 l3 l4] 25))
        unfold str
        go_upto_region 10 with fail
        generalize w7.alloc (.cells #[.string ⟨s'.toArray⟩, .string ⟨n'.toArray⟩, .slice a1 l1 l2, .string ⟨tx'.toArray⟩, .slice a2 l3 l4] 25) = w8 at *
        have d3 := HD8.out.bad
        clear hd hx G7
        have HT5 := hid (HT.out w8 G8.out)
        obtain ⟨k0, k1, k2, k3, k4⟩ := ElB.cells HT5.out
        have z0 := ElB.free HT5.out 0
        have z1 := ElB.free HT5.out 1
        have z2 := ElB.free HT5.out 2
        have z3 := ElB.free HT5.out 3
        have z4 := ElB.free HT5.out 4
        go_wp2
        refine bodyPost_ret (v := .tuple #[.agg #[.string ⟨#[]⟩, .string ⟨#[]⟩, .slice none 0 0, .string ⟨#[]⟩, .slice none 0 0], .int .i64 11]) (by simp [results, Tryz.results34, go_sem, k0, k1, k2, k3, k4]) rfl ?_
        exact BAD.out w8 11 HN.out G8.out
      have HCT := hid (hel.out x hx)
      have HDOC4 := hid (show docL l = if miscA x.2.1 = some [] then some (x.1, x.2.2.2) else none by rw [HDOC3.out, hx]; rfl)
      have HA := hid ha
      have HK := hid hk
      obtain ⟨xa, xc, rfl, -⟩ := ha
      obtain ⟨ya, yc, rfl, -⟩ := hk
      have HD8 := hid (hd.grow (gr_alloc (gr_refl w7 none) (.cells #[.string ⟨x.1.s.toArray⟩, .string ⟨x.1.n.toArray⟩, .slice xa x.1.ats.length xc, .string ⟨x.1.tx.toArray⟩, .slice ya x.1.kids.len yc] 25)))
      have GA := hid (gr_alloc (gr_refl w7 none) (.cells #[.string ⟨x.1.s.toArray⟩, .string ⟨x.1.n.toArray⟩, .slice xa x.1.ats.length xc, .string ⟨x.1.tx.toArray⟩, .slice ya x.1.kids.len yc] 25))
      have HE8 := hid (show ElB (w7.alloc (.cells #[.string ⟨x.1.s.toArray⟩, .string ⟨x.1.n.toArray⟩, .slice xa x.1.ats.length xc, .string ⟨x.1.tx.toArray⟩, .slice ya x.1.kids.len yc] 25)) w7.heap.size x.1.s x.1.n (.slice xa x.1.ats.length xc) x.1.tx (.slice ya x.1.kids.len yc) from heap_alloc_new w7 _)
      have HW7 := hid (show b < w7.heap.size ∧ w.heap.size < w7.heap.size by have h1 := hd.lt; have h2 := G7.out.size; have := HSZ.out; omega)
      clear hd hx HDOC3 hel
      unfold elV str
      go_upto_region 10 with fail
      generalize w7.alloc (.cells #[.string ⟨x.1.s.toArray⟩, .string ⟨x.1.n.toArray⟩, .slice xa x.1.ats.length xc, .string ⟨x.1.tx.toArray⟩, .slice ya x.1.kids.len yc] 25) = w8 at *
      have G8 := hid (gr_trans G7.out (gr_none GA.out))
      have d3 := HD8.out.bad
      have HAR := hid (around_r b l x.2.1 (x.2.2.1 : Int) x.2.2.2 w8 HD8.out (by have := HL.out; omega))
      go_wp2_with fail
      refine HAR.out.mono ?_
      rintro e w9 ⟨rfl, g9, h9⟩
      have G9 := hid (gr_trans G8.out g9)
      have GK := hid (gr_trans (gr_none GA.out : w7.grownBy w8 (some b)) g9)
      have HE9 := hid (show ElB w9 w7.heap.size x.1.s x.1.n (.slice xa x.1.ats.length xc) x.1.tx (.slice ya x.1.kids.len yc) from gr_keep g9 HE8.out (by have := HW7.out; simp; omega))
      clear HAR g9 d3 HD8 G8 HE8 GA
      rcases h9 with ⟨t5, ht5, hd9⟩ | ⟨ht5, r', hd9⟩
      rotate_left
      · have HN := hid (show R = (El.zero, 11) by rw [HV.out, HDOC4.out, ht5]; rfl)
        have d3 := hd9.bad
        clear hd9 ht5
        have HT5 := hid (HT.out w9 G9.out)
        obtain ⟨k0, k1, k2, k3, k4⟩ := ElB.cells HT5.out
        have z0 := ElB.free HT5.out 0
        have z1 := ElB.free HT5.out 1
        have z2 := ElB.free HT5.out 2
        have z3 := ElB.free HT5.out 3
        have z4 := ElB.free HT5.out 4
        go_wp2
        refine bodyPost_ret (v := .tuple #[.agg #[.string ⟨#[]⟩, .string ⟨#[]⟩, .slice none 0 0, .string ⟨#[]⟩, .slice none 0 0], .int .i64 11]) (by simp [results, Tryz.results34, go_sem, k0, k1, k2, k3, k4]) rfl ?_
        exact BAD.out w9 11 HN.out G9.out
      obtain ⟨i, hi, hdr, hat⟩ := hd9
      obtain ⟨c0, c1, -, d3, c4, -⟩ := hat.cells
      by_cases ht0 : t5 = []
      rotate_left
      · have HN := hid (show R = (El.zero, 11) by rw [HV.out, HDOC4.out, ht5, if_neg (fun h => ht0 (Option.some.inj h))]; rfl)
        have hlt : i < l.length := by
          have h1 : t5.length = l.length - i := by rw [← hdr, List.length_drop]
          have : 0 < t5.length := List.length_pos_iff.2 ht0
          omega
        have hlt2 : decide (i < l.length) = true := by simpa using hlt
        clear hat ht5 hdr ht0
        have HT5 := hid (HT.out w9 G9.out)
        obtain ⟨k0, k1, k2, k3, k4⟩ := ElB.cells HT5.out
        have z0 := ElB.free HT5.out 0
        have z1 := ElB.free HT5.out 1
        have z2 := ElB.free HT5.out 2
        have z3 := ElB.free HT5.out 3
        have z4 := ElB.free HT5.out 4
        go_wp2
        refine bodyPost_ret (v := .tuple #[.agg #[.string ⟨#[]⟩, .string ⟨#[]⟩, .slice none 0 0, .string ⟨#[]⟩, .slice none 0 0], .int .i64 11]) (by simp [results, Tryz.results34, go_sem, k0, k1, k2, k3, k4]) rfl ?_
        exact BAD.out w9 11 HN.out G9.out
      have hlt : ¬ i < l.length := by
        have := hdr
        rw [ht0] at this
        have := List.drop_eq_nil_iff.1 this
        omega
      have hlt2 : decide (i < l.length) = false := by simpa using hlt
      have HDOC5 := hid (show docL l = some (x.1, x.2.2.2) by rw [HDOC4.out, ht5, ht0, if_pos rfl])
      have hpl := hid (rplain_any ⟨l.toArray⟩ w9 (by rw [Lib.size_eq]; have := HL.out; simp; omega))
      rw [show (ByteArray.mk l.toArray).data.toList = l from rfl] at hpl
      obtain ⟨pb, hpb⟩ : ∃ pb, pb = plainB l := ⟨_, rfl⟩
      rw [← hpb] at hpl
      have HPB := hid hpb
      clear hat ht5 hdr ht0 hpb HDOC4 hi
      go_wp2_with fail
      refine hpl.out.mono ?_
      rintro e w10 ⟨rfl, rfl⟩
      clear hpl
      cases pb
      · have HN := hid (show R = (El.zero, 11) by rw [HV.out, HDOC5.out]; unfold finL; simp only; rw [← HPB.out]; rfl)
        have HT5 := hid (HT.out w9 G9.out)
        obtain ⟨k0, k1, k2, k3, k4⟩ := ElB.cells HT5.out
        have z0 := ElB.free HT5.out 0
        have z1 := ElB.free HT5.out 1
        have z2 := ElB.free HT5.out 2
        have z3 := ElB.free HT5.out 3
        have z4 := ElB.free HT5.out 4
        go_wp2
        refine bodyPost_ret (v := .tuple #[.agg #[.string ⟨#[]⟩, .string ⟨#[]⟩, .slice none 0 0, .string ⟨#[]⟩, .slice none 0 0], .int .i64 11]) (by simp [results, Tryz.results34, go_sem, k0, k1, k2, k3, k4]) rfl ?_
        exact BAD.out w9 11 HN.out G9.out
      have HF := hid (show R = if x.2.2.2 then (El.zero, 20) else (x.1, 0) by rw [HV.out, HDOC5.out]; unfold finL; simp only; rw [← HPB.out]; rfl)
      obtain ⟨fl, hfl⟩ : ∃ fl, fl = x.2.2.2 := ⟨_, rfl⟩
      rw [← hfl] at HF c4
      clear hfl
      cases fl
      rotate_left
      · have HN := hid (show R = (El.zero, 20) from HF.out)
        have HT5 := hid (HT.out w9 G9.out)
        obtain ⟨k0, k1, k2, k3, k4⟩ := ElB.cells HT5.out
        have z0 := ElB.free HT5.out 0
        have z1 := ElB.free HT5.out 1
        have z2 := ElB.free HT5.out 2
        have z3 := ElB.free HT5.out 3
        have z4 := ElB.free HT5.out 4
        go_wp2
        refine bodyPost_ret (v := .tuple #[.agg #[.string ⟨#[]⟩, .string ⟨#[]⟩, .slice none 0 0, .string ⟨#[]⟩, .slice none 0 0], .int .i64 20]) (by simp [results, Tryz.results34, go_sem, k0, k1, k2, k3, k4]) rfl ?_
        exact BAD.out w9 20 HN.out G9.out
      have HN := hid (show R = (x.1, 0) from HF.out)
      have HT5 := hid (HT.out w9 G9.out)
      obtain ⟨k0, k1, k2, k3, k4⟩ := ElB.cells HT5.out
      have z0 := ElB.free HT5.out 0
      have z1 := ElB.free HT5.out 1
      have z2 := ElB.free HT5.out 2
      have z3 := ElB.free HT5.out 3
      have z4 := ElB.free HT5.out 4
      obtain ⟨s0, s1, s2, s3, s4⟩ := ElB.cells HE9.out
      go_wp2
      refine bodyPost_ret (v := .tuple #[.agg #[.string ⟨x.1.s.toArray⟩, .string ⟨x.1.n.toArray⟩, .slice xa x.1.ats.length xc, .string ⟨x.1.tx.toArray⟩, .slice ya x.1.kids.len yc], .int .i64 0]) (by simp [results, Tryz.results34, go_sem, k0, k1, k2, k3, k4]) rfl ?_
      rw [HN.out]
      have hk : ∀ k, k < w7.heap.size → ¬ (k < w6'.heap.size) → (ret5 w9 w.heap.size x.1.s x.1.n (.slice xa x.1.ats.length xc) x.1.tx (.slice ya x.1.kids.len yc)).heap[k]? = w7.heap[k]? := fun k h1 h2 => by
        have hw6 : w.heap.size < w6'.heap.size := by have := HB7.out; have := HB.out; have := HSZ.out; omega
        exact (ret5_same k (Nat.lt_of_lt_of_le h1 GK.out.size) (by omega)).trans (GK.out.block k h1 (by have := HB7.out; simp; omega))
      exact ⟨ret5_gr (s := x.1.s) (n := x.1.n) (av := .slice xa x.1.ats.length xc) (tx := x.1.tx) (kv := .slice ya x.1.kids.len yc) (HGR.out w9 G9.out) (Nat.le_refl _), _, rfl, elAt_out (by have := HB7.out; have := HB.out; have := HSZ.out; omega) (HA.out.same hk) (HK.out.same hk)⟩
end Go.Proofs.YtmofnoconhgjmaaGreatDoor
