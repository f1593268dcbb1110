/- xml.write. -/
import Derived.Test.YtmofnoconhgjmaaGreatDoorXv1
import Derived.Test.YtmofnoconhgjmaaGreatDoorXv2
import Derived.Test.YtmofnoconhgjmaaGreatDoorBk1
import Derived.Test.YtmofnoconhgjmaaGreatDoorMF
import Derived.Test.YtmofnoconhgjmaaGreatDoorMR
import Derived.Lib.ItoaLen
namespace Go.Proofs.YtmofnoconhgjmaaGreatDoor
open Go.RowKit
set_option linter.unusedVariables false
set_option linter.unusedSimpArgs false

theorem rawT_app (a b : List At) : rawT (a ++ b) = rawT a ++ rawT b := by unfold rawT; exact List.flatMap_append
theorem rawAt_app (a b : List At) : ∀ k, rawAt k (a ++ b) = rawAt k a ++ rawAt (k + a.length) b := by
  induction a with
  | nil => intro k; rfl
  | cons x a ih =>
    intro k
    show _ ++ rawAt (k + 1) (a ++ b) = (_ ++ rawAt (k + 1) a) ++ _
    rw [ih (k + 1), List.append_assoc, List.length_cons, show k + 1 + a.length = k + (a.length + 1) by omega]
/-- How an attribute's space is written, and the attribute. -/
def spcT (i : Nat) (x : Bs) : Bs := 32 :: (nsT ++ 58 :: (pI i ++ 61 :: quoL x))
def atT (n v : Bs) : Bs := 32 :: (n ++ 61 :: quoL v)
def oneT (i : Nat) (a : At) : Bs := if a.1 = [] then atT a.2.1 a.2.2 else spcT i a.1 ++ atT (pI i ++ 58 :: a.2.1) a.2.2
def rawK (ats : List At) (i : Nat) : Bs := rawT (rawAt 0 (ats.take i))
theorem rawT_one (i : Nat) (a : At) : rawT (rawAt i [a]) = oneT i a := by
  unfold rawAt rawAt oneT
  rw [List.append_nil]
  by_cases h : a.1 = []
  · rw [if_pos h, if_pos h, rawT_cons]
    show 32 :: (fnT ([], a.2.1, a.2.2) ++ 61 :: (quoL a.2.2 ++ [])) = _
    unfold fnT atT
    rw [if_pos rfl, List.append_nil]
  · rw [if_neg h, if_neg h, rawT_cons, rawT_cons]
    show 32 :: (fnT (nsT, pI i, a.1) ++ 61 :: (quoL a.1 ++ 32 :: (fnT (pI i, a.2.1, a.2.2) ++ 61 :: (quoL a.2.2 ++ [])))) = _
    unfold fnT atT spcT
    rw [if_neg (show ¬ nsT = ([] : Bs) by decide +kernel), if_neg (pI_ne i)]
    simp
theorem rawK_succ {ats : List At} {i : Nat} {a : At} (h : ats[i]? = some a) : rawK ats (i + 1) = rawK ats i ++ oneT i a := by
  have hi : i < ats.length := (List.getElem?_eq_some_iff.1 h).1
  unfold rawK
  rw [List.take_add_one, h]
  show rawT (rawAt 0 (ats.take i ++ [a])) = _
  rw [rawAt_app, rawT_app, rawT_one, List.length_take, Nat.zero_add, Nat.min_eq_left (by omega)]
theorem rawK_le (ats : List At) (i : Nat) : (rawK ats i).length ≤ (rawK ats ats.length).length := by
  have h : rawAt 0 ats = rawAt 0 (ats.take i) ++ rawAt (0 + (ats.take i).length) (ats.drop i) := by rw [← rawAt_app, List.take_append_drop]
  unfold rawK
  rw [List.take_length, h, rawT_app, List.length_append]
  omega
theorem rawK_zero (ats : List At) : rawK ats 0 = [] := rfl
/-- A part of the elements as they are written. -/
def textK : Fo → Nat → Bs
  | .nil, _ => []
  | .cons _ _ _ _ _ _, 0 => []
  | .cons s n ats tx kids next, i + 1 => textE ⟨s, n, ats, tx, kids⟩ ++ textK next i
theorem textK_zero (f : Fo) : textK f 0 = [] := by cases f <;> rfl
theorem textF_cons (s n : Bs) (ats : List At) (tx : Bs) (k next : Fo) : textF (.cons s n ats tx k next) = textE ⟨s, n, ats, tx, k⟩ ++ textF next := by
  unfold textE bodyT
  rw [textF_rec]
  simp
theorem textK_len (f : Fo) : textK f f.len = textF f := by
  induction f with
  | nil => rfl
  | cons s n ats tx kids next _ ih => rw [textF_cons]; simp only [Fo.len, textK, ih]
theorem textK_succ : ∀ (f : Fo) (i : Nat), i < f.len → textK f (i + 1) = textK f i ++ textE (f.at i) := by
  intro f
  induction f with
  | nil => intro i hi; simp [Fo.len] at hi
  | cons s n ats tx kids next _ ih =>
    intro i hi
    cases i with
    | zero => simp only [textK, textK_zero, List.append_nil, List.nil_append, Fo.at]
    | succ i => rw [textK, ih i (by simp only [Fo.len] at hi; omega), textK, List.append_assoc]; rfl
theorem textK_le : ∀ (f : Fo) (i : Nat), (textK f i).length ≤ (textF f).length := by
  intro f
  induction f with
  | nil => intro i; cases i <;> exact Nat.le_refl _
  | cons s n ats tx kids next _ ih =>
    intro i
    cases i with
    | zero => exact Nat.zero_le _
    | succ i => rw [textK, textF_cons, List.length_append, List.length_append]; have := ih i; omega
def hdT (n s : Bs) : Bs := 60 :: (n ++ (32 :: (nsT ++ 61 :: quoL s)))
def enT (n : Bs) : Bs := 60 :: 47 :: (n ++ [62])
theorem textE_parts (s n : Bs) (ats : List At) (tx : Bs) (k : Fo) : textE ⟨s, n, ats, tx, k⟩ = hdT n s ++ (rawK ats ats.length ++ (62 :: txtL tx ++ (textF k ++ enT n))) := by
  unfold textE bodyT hdT enT rawK
  rw [List.take_length]
  unfold rawE
  rw [rawT_cons]
  show _ = _
  unfold fnT
  simp
/-- What one keeps that writes a builder: what lies below, and blocks of other types. -/
structure KW (B : Nat) (w w' : World) : Prop where
  b : Below B w w'
  k : KT TW B w w'
theorem KW.refl (B : Nat) (w : World) : KW B w w := ⟨Below.refl B w, KT.refl w⟩
theorem KW.trans {B : Nat} {w w1 w2 : World} (h : KW B w w1) (k : KW B w1 w2) : KW B w w2 := ⟨h.b.trans k.b, h.k.trans k.k⟩
theorem KW.of_gr {B : Nat} {w w' : World} (hB : B ≤ w.heap.size) (g : w.grownBy w' none) : KW B w w' := ⟨(gr_below g).mono hB, KT.of_none g⟩
theorem KW.size {B : Nat} {w w' : World} (h : KW B w w') : w.heap.size ≤ w'.heap.size := h.b.size
theorem KW.ats {B : Nat} {w w' : World} {v : Value} {l : List At} (k : KW B w w') (h : AtsAt w (B ≤ ·) v l) : AtsAt w' (B ≤ ·) v l := h.same fun i _ hx => k.b.block i (Nat.lt_of_not_le hx)
theorem KW.kids {B : Nat} {w w' : World} {v : Value} {f : Fo} (k : KW B w w') (h : KidV w (B ≤ ·) v f) : KidV w' (B ≤ ·) v f := h.same fun i _ hx => k.b.block i (Nat.lt_of_not_le hx)
theorem KW.el {B : Nat} {w w' : World} {bx : Nat} {s n tx : Bs} {av kv : Value} (k : KW B w w') (h : ElB w bx s n av tx kv) : ElB w' bx s n av tx kv := k.k.of_type h (by decide +kernel)
theorem KW.atb {B : Nat} {w w' : World} {bx : Nat} {a : At} (k : KW B w w') (h : AtB w bx a) : AtB w' bx a := k.k.of_type h (by decide +kernel)
theorem KW.c0 {B : Nat} {w w' : World} {v : Value} (hB : 0 < B) (k : KW B w w') (h : w.cell? ⟨0, 0, none⟩ = some v) : w'.cell? ⟨0, 0, none⟩ = some v := (k.b.cell (p := ⟨0, 0, none⟩) hB).trans h
theorem wstr_w (B b : Nat) (l s : Bs) (w : World) (h : IsBld B b l w) (hlen : l.length + s.length ≤ 100000000000) (hBw : B ≤ w.heap.size) :
    Calls Tryz.prog 92 #[.pointer (some ⟨b, 0, none⟩), .string ⟨s.toArray⟩] w fun e w' => (∃ v, e = .returned v) ∧ IsBld B b (l ++ s) w' ∧ KW B w w' := by
  refine (wstr_k B b l s w h hlen hBw).mono ?_
  rintro e w' ⟨h1, h2, h3, h4⟩
  exact ⟨h1, .inr h2, h3, h4⟩
def WrPost (B b : Nat) (w : World) (L : Bs) (e : Ending) (w' : World) : Prop := e = .returned (.tuple #[]) ∧ IsBld B b L w' ∧ KW B w w'
theorem smF_at : ∀ (f : Fo) (i : Nat), i < f.len → SmF f → SmE (f.at i) := by
  intro f
  induction f with
  | nil => intro i hi; simp [Fo.len] at hi
  | cons s n ats tx kids next _ ih =>
    rintro i hi ⟨h1, h2, h3⟩
    cases i with
    | zero => exact ⟨h1, h2⟩
    | succ i => exact ih i (by simp only [Fo.len] at hi; omega) h3
set_option maxRecDepth 20000 in
set_option maxHeartbeats 20000000 in
theorem write_el (m : Int) (B b : Nat) (hB0 : 0 < B) (N : Nat) : ∀ (e : El) (l : Bs) (v : Value) (w : World), e.kids.sz < N → e.kids.sz ≤ 1000000 → SmE e → l.length + (textE e).length ≤ 100000000000 → B ≤ w.heap.size → w.cell? ⟨0, 0, none⟩ = some (.int .i64 m) → IsBld B b l w → ElAt w (B ≤ ·) v e →
    Calls Tryz.prog 50 #[.pointer (some ⟨b, 0, none⟩), v] w (WrPost B b w (l ++ textE e)) := by
  induction N with
  | zero => intro e l v w h; omega
  | succ N ih =>
    intro e l v w hN hsz hsm hlen hBw hm hbl he
    have IH := hid ih
    obtain ⟨s, n, ats, tx, kids⟩ := e
    obtain ⟨av, kv, rfl, ha, hk⟩ := he
    obtain ⟨⟨q1, q2, q3, q4, q5, q6⟩, q7⟩ := hsm
    simp only at hN hsz q1 q2 q3 q4 q5 q6 q7 ha hk
    have HSK := hid (show kids.sz < N + 1 ∧ kids.sz ≤ 1000000 ∧ kids.len ≤ 100 ∧ SmF kids from ⟨hN, hsz, q1, q7⟩)
    have HSA := hid (show ats.length ≤ 40 ∧ ∀ i, i < ats.length → (ats.getD i at0).2.1.length ≤ 300 ∧ (ats.getD i at0).2.2.length ≤ 9000 ∧ (ats.getD i at0).1.length ≤ 9000 from ⟨q2, q6⟩)
    have HPT := hid (textE_parts s n ats tx kids)
    have HLEN := hid (show l.length + ((hdT n s).length + ((rawK ats ats.length).length + ((txtL tx).length + 1 + ((textF kids).length + (enT n).length)))) ≤ 100000000000 by
      rw [HPT.out] at hlen
      simp only [List.length_append, List.length_cons] at hlen ⊢
      omega)
    rw [HPT.out]
    clear hN hsz hlen q1 q2 q6 q7 HPT ih
    have HA := hid ha
    have HK := hid hk
    obtain ⟨aa, ac, rfl, -⟩ := ha
    obtain ⟨ka, kc, rfl, -⟩ := hk
    have HNL := hid q4
    have HQL := hid (show (quoL s).length ≤ 60000 by have := quoL_len s; omega)
    have HTL3 := hid (show (txtL tx).length ≤ 60000 by have := txtL_len tx; omega)
    have QS := hid (fun W => quoted_x W s (by omega))
    have TX := hid (fun W (h : W.cell? ⟨0, 0, none⟩ = some (.int .i64 m)) => text_x W tx m h (by omega))
    have ES := hid (fun W => escape_x W tx (by omega))
    rw [show repL escP tx = escL tx from rfl] at ES
    have HT1 := hid (show ((((⟨#[60]⟩ : ByteArray) ++ ⟨n.toArray⟩) ++ (⟨#[32, 120, 109, 108, 110, 115, 61]⟩ : ByteArray)) ++ (⟨(quoL s).toArray⟩ : ByteArray)) = ⟨(hdT n s).toArray⟩ by
      apply ByteArray.ext
      simp [hdT, nsT])
    have HT5 := hid (show (((⟨#[60, 47]⟩ : ByteArray) ++ ⟨n.toArray⟩) ++ (⟨#[62]⟩ : ByteArray)) = ⟨(enT n).toArray⟩ by
      apply ByteArray.ext
      simp [enT])
    have HT3 := hid (show ((⟨#[62]⟩ : ByteArray) ++ ⟨(txtL tx).toArray⟩) = ⟨(62 :: txtL tx).toArray⟩ from ba_ap [62] (txtL tx))
    have HB0 := hid hB0
    unfold elV str
    simp only
    have E0 := hid (show ElB _ w.heap.size s n (.slice aa ats.length ac) tx (.slice ka kids.len kc) from heap_alloc_new w (.cells #[.string ⟨s.toArray⟩, .string ⟨n.toArray⟩, .slice aa ats.length ac, .string ⟨tx.toArray⟩, .slice ka kids.len kc] 25))
    have g0 := gr_alloc (gr_refl w none) (.cells #[.string ⟨s.toArray⟩, .string ⟨n.toArray⟩, .slice aa ats.length ac, .string ⟨tx.toArray⟩, .slice ka kids.len kc] 25)
    obtain ⟨w0, hw0⟩ : ∃ w0, w0 = w.alloc (.cells #[.string ⟨s.toArray⟩, .string ⟨n.toArray⟩, .slice aa ats.length ac, .string ⟨tx.toArray⟩, .slice ka kids.len kc] 25) := ⟨_, rfl⟩
    obtain ⟨bx, hbx⟩ : ∃ bx, bx = w.heap.size := ⟨_, rfl⟩
    rw [← hw0] at E0 g0
    rw [← hbx] at E0
    have K0 := hid (KW.of_gr hBw g0)
    have BL0 := hid (hbl.keep g0)
    have HS0 := hid (show B ≤ w0.heap.size from Nat.le_trans hBw g0.size)
    have HM := hid hm
    have HW0 := hid hw0
    have HBX := hid hbx
    clear hw0 hbx hbl hm g0 hBw q3 q4 q5 hB0
    go_enter Tryz.func50, Tryz.ntmps50
    go_upto_region 1 with fail
    rw [← HW0.out, ← HBX.out]
    clear HW0 HBX
    obtain ⟨s0, s1, s2, s3, s4⟩ := ElB.cells E0.out
    have zn : n.length ≤ 300 := HNL.out
    have zq : (quoL s).length ≤ 60000 := HQL.out
    refine wp_region_spec3 9 10 none (by kernel_rfl) (by kernel_rfl) (by kernel_rfl) (by kernel_rfl) (by kernel_rfl) (by kernel_rfl) [some 10, some 11, some 12, some 13, some 14, some 15, some 16, some 17, some 18] (by kernel_rfl) _ (fun u => (by simp only [fill, List.zipIdx_cons, List.zipIdx_nil, List.foldl_cons, List.foldl_nil, Act.put, List.setIfInBounds_toArray, List.set_cons_zero, List.set_cons_succ, Nat.zero_add, Nat.reduceAdd]; exact rfl)) (by kernel_rfl)
      (all_succ (all_succ (all_succ (all_succ (all_succ (all_succ (all_succ (all_succ (all_succ (all_zero _) (fun u v => by kernel_rfl)) (fun u v => by kernel_rfl)) (fun u v => by kernel_rfl)) (fun u v => by kernel_rfl)) (fun u v => by kernel_rfl)) (fun u v => by kernel_rfl)) (fun u v => by kernel_rfl)) (fun u v => by kernel_rfl)) (fun u v => by kernel_rfl))
      (fun ri v w => match ri with | 0 => v = .pointer (some ⟨b, 0, none⟩) | 1 => v = .pointer (some ⟨bx, 1, none⟩) | 2 => v = .string ⟨n.toArray⟩ | 3 => v = .string ((⟨#[60]⟩ : ByteArray) ++ ⟨n.toArray⟩) | 4 => v = .string (((⟨#[60]⟩ : ByteArray) ++ ⟨n.toArray⟩) ++ (⟨#[32, 120, 109, 108, 110, 115, 61]⟩ : ByteArray)) | 5 => v = .pointer (some ⟨bx, 0, none⟩) | 6 => v = .string ⟨s.toArray⟩ | 7 => v = .string ⟨(quoL s).toArray⟩ | 8 => v = .string ((((⟨#[60]⟩ : ByteArray) ++ ⟨n.toArray⟩) ++ (⟨#[32, 120, 109, 108, 110, 115, 61]⟩ : ByteArray)) ++ (⟨(quoL s).toArray⟩ : ByteArray)) | _ => True)
      (all_succ (all_succ (all_succ (all_succ (all_succ (all_succ (all_succ (all_succ (all_succ (all_zero _) ?m0) ?m1) ?m2) ?m3) ?m4) ?m5) ?m6) ?m7) ?m8)
      [[], [], [1], [2], [3], [], [5], [6], [4, 7]] (by kernel_rfl)
      ⟨?o0, ?o1, ?o2, ?o3, ?o4, ?o5, ?o6, ?o7, ?o8, trivial⟩ ?done
    case m0 => intro v w w' h g; exact h
    case m1 => intro v w w' h g; exact h
    case m2 => intro v w w' h g; exact h
    case m3 => intro v w w' h g; exact h
    case m4 => intro v w w' h g; exact h
    case m5 => intro v w w' h g; exact h
    case m6 => intro v w w' h g; exact h
    case m7 => intro v w w' h g; exact h
    case m8 => intro v w w' h g; exact h
    case o0 =>
      intro u w g hd K hK
      replace g : w0.grownBy w (none) := g
      clear hd
      simp only [Act.put, List.setIfInBounds_toArray, List.set_cons_zero, List.set_cons_succ] at hK
      go_simp
      exact hK _ _ rfl (gr_refl _ _)
    case o1 =>
      intro u w g hd K hK
      replace g : w0.grownBy w (none) := g
      clear hd
      simp only [Act.put, List.setIfInBounds_toArray, List.set_cons_zero, List.set_cons_succ] at hK
      go_simp
      exact hK _ _ rfl (gr_refl _ _)
    case o2 =>
      intro u w g hd K hK
      replace g : w0.grownBy w (none) := g
      have h1 : (u 1) = .pointer (some ⟨bx, 1, none⟩) := hd 1 (by simp)
      clear hd
      simp only [Act.put, List.setIfInBounds_toArray, List.set_cons_zero, List.set_cons_succ] at hK
      have c := g.cell s1 (by simp)
      simp only [h1] at hK ⊢
      go_simp
      exact hK _ _ rfl (gr_refl _ _)
    case o3 =>
      intro u w g hd K hK
      replace g : w0.grownBy w (none) := g
      have h2 : (u 2) = .string ⟨n.toArray⟩ := hd 2 (by simp)
      clear hd
      simp only [Act.put, List.setIfInBounds_toArray, List.set_cons_zero, List.set_cons_succ] at hK
      simp only [h2] at hK ⊢
      go_simp
      rw [if_neg (by omega), Oper.upon_value]
      exact hK _ _ rfl (gr_refl _ _)
    case o4 =>
      intro u w g hd K hK
      replace g : w0.grownBy w (none) := g
      have h3 : (u 3) = .string ((⟨#[60]⟩ : ByteArray) ++ ⟨n.toArray⟩) := hd 3 (by simp)
      clear hd
      simp only [Act.put, List.setIfInBounds_toArray, List.set_cons_zero, List.set_cons_succ] at hK
      simp only [h3] at hK ⊢
      go_simp
      rw [if_neg (by omega), Oper.upon_value]
      exact hK _ _ rfl (gr_refl _ _)
    case o5 =>
      intro u w g hd K hK
      replace g : w0.grownBy w (none) := g
      clear hd
      simp only [Act.put, List.setIfInBounds_toArray, List.set_cons_zero, List.set_cons_succ] at hK
      go_simp
      exact hK _ _ rfl (gr_refl _ _)
    case o6 =>
      intro u w g hd K hK
      replace g : w0.grownBy w (none) := g
      have h5 : (u 5) = .pointer (some ⟨bx, 0, none⟩) := hd 5 (by simp)
      clear hd
      simp only [Act.put, List.setIfInBounds_toArray, List.set_cons_zero, List.set_cons_succ] at hK
      have c := g.cell s0 (by simp)
      simp only [h5] at hK ⊢
      go_simp
      exact hK _ _ rfl (gr_refl _ _)
    case o7 =>
      intro u w g hd K hK
      replace g : w0.grownBy w (none) := g
      have h6 : (u 6) = .string ⟨s.toArray⟩ := hd 6 (by simp)
      clear hd
      simp only [Act.put, List.setIfInBounds_toArray, List.set_cons_zero, List.set_cons_succ] at hK
      simp only [h6] at hK ⊢
      go_simp
      refine (QS.out w).mono ?_
      rintro e w' ⟨rfl, g'⟩
      exact hK _ _ rfl g'
    case o8 =>
      intro u w g hd K hK
      replace g : w0.grownBy w (none) := g
      have h4 : (u 4) = .string (((⟨#[60]⟩ : ByteArray) ++ ⟨n.toArray⟩) ++ (⟨#[32, 120, 109, 108, 110, 115, 61]⟩ : ByteArray)) := hd 4 (by simp)
      have h7 : (u 7) = .string ⟨(quoL s).toArray⟩ := hd 7 (by simp)
      clear hd
      simp only [Act.put, List.setIfInBounds_toArray, List.set_cons_zero, List.set_cons_succ] at hK
      simp only [h4, h7] at hK ⊢
      go_simp
      rw [if_neg (by omega), Oper.upon_value]
      exact hK _ _ rfl (gr_refl _ _)
    intro u w hS g
    have s0 : (u 0) = .pointer (some ⟨b, 0, none⟩) := hS 0 (by decide)
    have s1 : (u 1) = .pointer (some ⟨bx, 1, none⟩) := hS 1 (by decide)
    have s2 : (u 2) = .string ⟨n.toArray⟩ := hS 2 (by decide)
    have s3 : (u 3) = .string ((⟨#[60]⟩ : ByteArray) ++ ⟨n.toArray⟩) := hS 3 (by decide)
    have s4 : (u 4) = .string (((⟨#[60]⟩ : ByteArray) ++ ⟨n.toArray⟩) ++ (⟨#[32, 120, 109, 108, 110, 115, 61]⟩ : ByteArray)) := hS 4 (by decide)
    have s5 : (u 5) = .pointer (some ⟨bx, 0, none⟩) := hS 5 (by decide)
    have s6 : (u 6) = .string ⟨s.toArray⟩ := hS 6 (by decide)
    have s7 : (u 7) = .string ⟨(quoL s).toArray⟩ := hS 7 (by decide)
    have s8 : (u 8) = .string ((((⟨#[60]⟩ : ByteArray) ++ ⟨n.toArray⟩) ++ (⟨#[32, 120, 109, 108, 110, 115, 61]⟩ : ByteArray)) ++ (⟨(quoL s).toArray⟩ : ByteArray)) := hS 8 (by decide)
    clear hS
    replace g : w0.grownBy w none := g
    change wpList _ _ _ [_] _ _
    simp only [s0, s8]
    rw [HT1.out]
    have GA := hid g
    clear s0 s1 s2 s3 s4 s5 s6 s7 s8 g QS
    generalize u 0 = x0 at *
    generalize u 1 = x1 at *
    generalize u 2 = x2 at *
    generalize u 3 = x3 at *
    generalize u 4 = x4 at *
    generalize u 5 = x5 at *
    generalize u 6 = x6 at *
    generalize u 7 = x7 at *
    generalize u 8 = x8 at *
    clear s0 s1 s2 s3 s4
    go_wp2_with fail
    refine (wstr_w B b l (hdT n s) w (BL0.out.keep GA.out) (by have := HLEN.out; omega) (Nat.le_trans HS0.out GA.out.size)).mono ?_
    rintro e1 w1 ⟨⟨v1, rfl⟩, bl1, k1⟩
    have K1 := hid (K0.out.trans ((KW.of_gr HS0.out GA.out).trans k1))
    have E1 := hid (k1.el (E0.out.grow GA.out))
    have BL1 := hid bl1
    have HS1 := hid (Nat.le_trans (Nat.le_trans HS0.out GA.out.size) k1.size)
    clear bl1 k1 GA E0 BL0 HS0 HT1
    obtain ⟨s0, s1, s2, s3, s4⟩ := ElB.cells E1.out
    go_wp2_with fail
    clear s0 s1 s2 s3 s4
    go_loopw [23] (fun v23 wr => ∃ i : Nat, v23 = .int .i64 (i : Int) ∧ i ≤ ats.length ∧ KW B w1 wr ∧ IsBld B b (l ++ hdT n s ++ rawK ats i) wr) (fun v23 _ => ats.length - (intOf v23).toNat)
    case atStart => exact ⟨0, rfl, Nat.zero_le _, KW.refl _ _, by rw [rawK_zero, List.append_nil]; exact BL1.out⟩
    case round =>
      obtain ⟨i, rfl, hi, hk, hbl⟩ := hrel
      have HKR := hid hk
      have BLR := hid hbl
      have HSR := hid (Nat.le_trans HS1.out hk.size)
      clear hk hbl
      by_cases hlt : i < ats.length
      · obtain ⟨g, o, rfl, -, -, hT⟩ := (HKR.out.ats (K1.out.ats HA.out)).get hlt
        obtain ⟨b2, b3, b1⟩ := HSA.out.2 i hlt
        have HRS := hid (rawK_succ (getD_some hlt))
        have HRL := hid (show (rawK ats (i + 1)).length ≤ (rawK ats ats.length).length from rawK_le ats (i + 1))
        generalize ats.getD i at0 = y at *
        obtain ⟨u1, u2, u3⟩ := y
        have p0 := hT.c0
        have p1 := hT.c1
        have p2 := hT.c2
        simp only at p0 p1 p2 b1 b2 b3
        have hi0 : (0 : Int) ≤ (i : Int) := by omega
        have hi1 : (i : Int) < (ats.length : Int) := by omega
        have hi2 : (i : Int) + 1 ≤ 41 := by have := HSA.out.1; omega
        have hi100 : i < 100 := by omega
        have QU := hid (fun W => quoted_x W u1 (by omega))
        have QV := hid (fun W => quoted_x W u3 (by omega))
        have HLU := hid (show u2.length ≤ 300 ∧ (quoL u1).length ≤ 60000 ∧ (quoL u3).length ≤ 60000 from ⟨b2, by have := quoL_len u1; omega, by have := quoL_len u3; omega⟩)
        have F0 := hid (AtB.new wr (u1, u2, u3))
        have g4 := gr_alloc (gr_refl wr none) (.cells #[.string ⟨u1.toArray⟩, .string ⟨u2.toArray⟩, .string ⟨u3.toArray⟩] 102)
        obtain ⟨w4, hw4⟩ : ∃ w4, w4 = wr.alloc (.cells #[.string ⟨u1.toArray⟩, .string ⟨u2.toArray⟩, .string ⟨u3.toArray⟩] 102) := ⟨_, rfl⟩
        obtain ⟨bb, hbb⟩ : ∃ bb, bb = wr.heap.size := ⟨_, rfl⟩
        simp only at F0
        rw [← hw4] at F0 g4
        rw [← hbb] at F0
        have HW4 := hid hw4
        have HBB := hid hbb
        have K4 := hid (HKR.out.trans (KW.of_gr HSR.out g4))
        have BL4 := hid (BLR.out.keep g4)
        have HS4 := hid (show B ≤ w4.heap.size from Nat.le_trans HSR.out g4.size)
        clear hw4 hbb g4 hT
        go_upto_region 5 with fail
        rw [← HW4.out, ← HBB.out]
        clear HW4 HBB p0 p1 p2 BLR HKR HSR
        obtain ⟨c0, c1, c2⟩ := F0.out.cells
        simp only at c0 c1 c2
        by_cases h0 : u1 = []
        · have q : u1.isEmpty = true := by rw [h0]; rfl
          have HON := hid (show oneT i (u1, u2, u3) = atT u2 u3 by unfold oneT; rw [if_pos h0])
          have HAT := hid (show ((((⟨#[32]⟩ : ByteArray) ++ ⟨u2.toArray⟩) ++ (⟨#[61]⟩ : ByteArray)) ++ (⟨(quoL u3).toArray⟩ : ByteArray)) = ⟨(atT u2 u3).toArray⟩ by
            apply ByteArray.ext
            simp [atT])
          clear h0
          have z1 : ¬ 9223372036854775807 < 1 + u2.length := by have := HLU.out; omega
          have z2 : ¬ 9223372036854775807 < 1 + u2.length + 1 := by have := HLU.out; omega
          have z3 : ¬ 9223372036854775807 < 1 + u2.length + 1 + (quoL u3).length := by have := HLU.out; omega
          go_wp2_with fail
          refine (QV.out w4).mono ?_
          rintro e5 w5 ⟨rfl, g5⟩
          have K5 := hid (K4.out.trans (KW.of_gr HS4.out g5))
          have BL5 := hid (BL4.out.keep g5)
          have HS5 := hid (Nat.le_trans HS4.out g5.size)
          clear g5 c0 c1 c2 QU QV
          go_wp2_with fail
          rw [HAT.out]
          refine (wstr_w B b _ (atT u2 u3) w5 BL5.out (by have h1 := HLEN.out; have h2 := HRL.out; rw [HRS.out, HON.out, List.length_append] at h2; simp only [List.length_append]; omega) HS5.out).mono ?_
          rintro e6 w6 ⟨⟨v6, rfl⟩, bl6, k6⟩
          have K6 := hid (K5.out.trans k6)
          have BL6 := hid (show IsBld B b (l ++ hdT n s ++ rawK ats (i + 1)) w6 by rw [HRS.out, HON.out, ← List.append_assoc]; exact bl6)
          clear bl6 k6 K5 BL5 K4 BL4
          go_wp2_with fail
          go_roundw
          case rel => exact ⟨i + 1, by go_num, by omega, K6.out, BL6.out⟩
          case measure => simp [intOf]; omega
        · have q : u1.isEmpty = false := by
            cases u1 with
            | nil => exact absurd rfl h0
            | cons _ _ => rfl
          have HON := hid (show oneT i (u1, u2, u3) = spcT i u1 ++ atT (pI i ++ 58 :: u2) u3 by unfold oneT; rw [if_neg h0])
          have HPI := hid (show ((⟨#[112]⟩ : ByteArray) ++ ⟨(Lib.decDigits i).toArray⟩) = ⟨(pI i).toArray⟩ from ba_ap [112] (Lib.decDigits i))
          have HSP := hid (show ((((⟨#[32, 120, 109, 108, 110, 115, 58]⟩ : ByteArray) ++ ⟨(pI i).toArray⟩) ++ (⟨#[61]⟩ : ByteArray)) ++ (⟨(quoL u1).toArray⟩ : ByteArray)) = ⟨(spcT i u1).toArray⟩ by
            apply ByteArray.ext
            simp [spcT, nsT])
          have HNM := hid (show (((⟨(pI i).toArray⟩ : ByteArray) ++ (⟨#[58]⟩ : ByteArray)) ++ (⟨u2.toArray⟩ : ByteArray)) = ⟨(pI i ++ 58 :: u2).toArray⟩ by
            apply ByteArray.ext
            simp)
          have HAT := hid (show ((((⟨#[32]⟩ : ByteArray) ++ ⟨(pI i ++ 58 :: u2).toArray⟩) ++ (⟨#[61]⟩ : ByteArray)) ++ (⟨(quoL u3).toArray⟩ : ByteArray)) = ⟨(atT (pI i ++ 58 :: u2) u3).toArray⟩ by
            apply ByteArray.ext
            simp [atT])
          have HDL := hid (show (Lib.decDigits i).length ≤ 20 by rw [Lib.decDigits_length]; exact Lib.nDigits_le20 i (by omega))
          have HPL := hid (show (pI i).length ≤ 21 by unfold pI; rw [List.length_cons]; have := HDL.out; omega)
          have HNL2 := hid (show (pI i ++ 58 :: u2).length ≤ 400 by rw [List.length_append, List.length_cons]; have := HPL.out; have := HLU.out; omega)
          generalize pI i ++ 58 :: u2 = nm at *
          generalize pI i = pp at *
          clear h0
          have y1 : ¬ 9223372036854775807 < 1 + (Lib.decDigits i).length := by have := HDL.out; omega
          go_wp2_with fail
          refine (Tryz.strconv_Itoa_small i hi100 w4).mono ?_
          rintro e5 w5 ⟨rfl, rfl⟩
          go_upto_region 8 with fail
          rw [HPI.out]
          have y2 : ¬ 9223372036854775807 < 7 + pp.length := by have := HPL.out; have := HLU.out; omega
          have y3 : ¬ 9223372036854775807 < 7 + pp.length + 1 := by have := HPL.out; have := HLU.out; omega
          have y4 : ¬ 9223372036854775807 < 7 + pp.length + 1 + (quoL u1).length := by have := HPL.out; have := HLU.out; omega
          have y5 : ¬ 9223372036854775807 < pp.length + 1 := by have := HPL.out; have := HLU.out; omega
          have y6 : ¬ 9223372036854775807 < pp.length + 1 + u2.length := by have := HPL.out; have := HLU.out; omega
          go_wp2_with fail
          refine (QU.out w5).mono ?_
          rintro e6 w6 ⟨rfl, g6⟩
          have K6 := hid (K4.out.trans (KW.of_gr HS4.out g6))
          have BL6 := hid (BL4.out.keep g6)
          have HS6 := hid (Nat.le_trans HS4.out g6.size)
          have F6 := hid (F0.out.grow g6)
          clear g6 c0 c1 c2 QU K4 BL4 HS4 F0
          go_wp2_with fail
          rw [HSP.out]
          refine (wstr_w B b _ (spcT i u1) w6 BL6.out (by have h1 := HLEN.out; have h2 := HRL.out; rw [HRS.out, HON.out] at h2; simp only [List.length_append] at h2 ⊢; omega) HS6.out).mono ?_
          rintro e7 w7 ⟨⟨v7, rfl⟩, bl7, k7⟩
          have K7 := hid (K6.out.trans k7)
          have BL7 := hid bl7
          have F7 := hid (k7.atb F6.out)
          have HS7 := hid (Nat.le_trans HS6.out k7.size)
          clear bl7 k7 K6 BL6 F6
          obtain ⟨c0, c1, c2⟩ := F7.out.cells
          simp only at c0 c1 c2
          go_upto_region 10 with fail
          rw [HNM.out]
          have x1 : ¬ 9223372036854775807 < 1 + nm.length := by have := HNL2.out; have := HLU.out; omega
          have x2 : ¬ 9223372036854775807 < 1 + nm.length + 1 := by have := HNL2.out; have := HLU.out; omega
          have x3 : ¬ 9223372036854775807 < 1 + nm.length + 1 + (quoL u3).length := by have := HNL2.out; have := HLU.out; omega
          go_wp2_with fail
          refine (QV.out w7).mono ?_
          rintro e8 w8 ⟨rfl, g8⟩
          have K8 := hid (K7.out.trans (KW.of_gr HS7.out g8))
          have BL8 := hid (BL7.out.keep g8)
          have HS8 := hid (Nat.le_trans HS7.out g8.size)
          clear g8 c0 c1 c2 QV
          go_wp2_with fail
          rw [HAT.out]
          refine (wstr_w B b _ (atT nm u3) w8 BL8.out (by have h1 := HLEN.out; have h2 := HRL.out; rw [HRS.out, HON.out] at h2; simp only [List.length_append] at h2 ⊢; omega) HS8.out).mono ?_
          rintro e9 w9 ⟨⟨v9, rfl⟩, bl9, k9⟩
          have K9 := hid (K8.out.trans k9)
          have BL9 := hid (show IsBld B b (l ++ hdT n s ++ rawK ats (i + 1)) w9 by rw [HRS.out, HON.out, ← List.append_assoc, ← List.append_assoc]; exact bl9)
          clear bl9 k9 K8 BL8 K7 BL7
          go_wp2_with fail
          go_roundw
          case rel => exact ⟨i + 1, by go_num, by omega, K9.out, BL9.out⟩
          case measure => simp [intOf]; omega
      · obtain rfl : i = ats.length := by omega
        have KR := hid (K1.out.trans HKR.out)
        have ER := hid (HKR.out.el E1.out)
        clear hi hlt HKR
        obtain ⟨s0, s1, s2, s3, s4⟩ := ElB.cells ER.out
        go_wp2_with fail
        refine (ES.out wr).mono ?_
        rintro e2 w2 ⟨rfl, g2⟩
        go_wp2_with fail
        refine (TX.out w2 (g2.cell (KR.out.c0 HB0.out HM.out) (by simp))).mono ?_
        rintro e3 w3 ⟨rfl, g3⟩
        have g23 := gr_trans g2 g3
        have K3 := hid (KR.out.trans (KW.of_gr HSR.out g23))
        have BL3 := hid (BLR.out.keep g23)
        have HS3 := hid (Nat.le_trans HSR.out g23.size)
        have E3 := hid (ER.out.grow g23)
        clear g2 g3 g23 s0 s1 s2 s3 s4 ES TX
        have z1 : ¬ 9223372036854775807 < 1 + (txtL tx).length := by have := HTL3.out; omega
        go_wp2_with fail
        rw [HT3.out]
        refine (wstr_w B b _ (62 :: txtL tx) w3 BL3.out (by have h1 := HLEN.out; simp only [List.length_append, List.length_cons]; omega) HS3.out).mono ?_
        rintro e4 w4 ⟨⟨v4, rfl⟩, bl4, k4⟩
        have K4 := hid (K3.out.trans k4)
        have BL4 := hid bl4
        have HS4 := hid (Nat.le_trans HS3.out k4.size)
        have E4 := hid (k4.el E3.out)
        clear bl4 k4 K3 BL3 HS3 E3 KR ER BLR HSR HT3
        obtain ⟨s0, s1, s2, s3, s4⟩ := ElB.cells E4.out
        go_wp2_with fail
        clear s0 s1 s2 s3 s4
        go_loopw [69] (fun v69 wr => ∃ j : Nat, v69 = .int .i64 (j : Int) ∧ j ≤ kids.len ∧ KW B w4 wr ∧ IsBld B b (l ++ hdT n s ++ rawK ats ats.length ++ 62 :: txtL tx ++ textK kids j) wr) (fun v69 _ => kids.len - (intOf v69).toNat)
        case atStart => exact ⟨0, rfl, Nat.zero_le _, KW.refl _ _, by rw [textK_zero, List.append_nil]; exact BL4.out⟩
        case round =>
          obtain ⟨j, rfl, hj, hk, hbl⟩ := hrel
          have HKR := hid hk
          have BLR := hid hbl
          have HSR := hid (Nat.le_trans HS4.out hk.size)
          clear hk hbl
          by_cases hlt : j < kids.len
          · have KR := hid (K4.out.trans HKR.out)
            obtain ⟨b', c', e', h'⟩ := KR.out.kids HK.out
            simp only [Value.slice.injEq] at e'
            obtain ⟨rfl, -, rfl⟩ := e'
            obtain ⟨k1, o1, rfl, -, hF1⟩ := h' (by omega)
            obtain ⟨av3, kv3, m0, m1, m2, m3, m4, hA3, hK3⟩ := hF1.get hlt
            have hsz := at_sz kids j hlt
            have HSM := hid (smF_at kids j hlt HSK.out.2.2.2)
            have HTS := hid (textK_succ kids j hlt)
            have HTL := hid (show (textK kids (j + 1)).length ≤ (textF kids).length from textK_le _ _)
            have HA3 := hid hA3
            have HK3 := hid hK3
            generalize kids.at j = y at *
            obtain ⟨y1, y2, y3, y4, y5⟩ := y
            obtain ⟨i1, i2, rfl, -⟩ := hA3
            obtain ⟨i5, i6, rfl, -⟩ := hK3
            simp only at m0 m1 m2 m3 m4 hsz HA3 HK3
            have GA := hid (gr_alloc (gr_refl wr none) (.cells #[.string ⟨y1.toArray⟩, .string ⟨y2.toArray⟩, .slice i1 y3.length i2, .string ⟨y4.toArray⟩, .slice i5 y5.len i6] 25))
            have KA := hid (KW.of_gr HSR.out GA.out)
            have CALL := hid (IH.out ⟨y1, y2, y3, y4, y5⟩ (l ++ hdT n s ++ rawK ats ats.length ++ 62 :: txtL tx ++ textK kids j) (.agg #[.string ⟨y1.toArray⟩, .string ⟨y2.toArray⟩, .slice i1 y3.length i2, .string ⟨y4.toArray⟩, .slice i5 y5.len i6]) _ (by have := HSK.out.1; show y5.sz < N; omega) (by have := HSK.out.2.1; show y5.sz ≤ 1000000; omega) HSM.out
              (by have h1 := HLEN.out; have h2 := HTL.out; rw [HTS.out] at h2; simp only [List.length_append, List.length_cons] at h2 ⊢; omega)
              (Nat.le_trans HSR.out GA.out.size) (KA.out.c0 HB0.out (KR.out.c0 HB0.out HM.out)) (BLR.out.keep GA.out) ⟨_, _, rfl, KA.out.ats HA3.out, KA.out.kids HK3.out⟩)
            have HKA := hid (HKR.out.trans KA.out)
            have hi0 : (0 : Int) ≤ (j : Int) := by omega
            have hi1 : (j : Int) < (kids.len : Int) := by omega
            have hi2 : (j : Int) + 1 ≤ 101 := by have := HSK.out.2.2.1; omega
            clear h' hF1 hsz GA HA3 HK3
            go_wp2_with fail
            refine CALL.out.mono ?_
            rintro e' w5 ⟨rfl, bl5, k5⟩
            have HK5 := hid (HKA.out.trans k5)
            have BL5 := hid (show IsBld B b (l ++ hdT n s ++ rawK ats ats.length ++ 62 :: txtL tx ++ textK kids (j + 1)) w5 by rw [HTS.out, ← List.append_assoc]; exact bl5)
            clear CALL k5 bl5 m0 m1 m2 m3 m4
            go_wp2_with fail
            go_roundw
            case rel => exact ⟨j + 1, by go_num, by omega, HK5.out, BL5.out⟩
            case measure => simp [intOf]; omega
          · obtain rfl : j = kids.len := by omega
            have KR := hid (K4.out.trans HKR.out)
            have ER := hid (HKR.out.el E4.out)
            have BLQ := hid (show IsBld B b (l ++ hdT n s ++ rawK ats ats.length ++ 62 :: txtL tx ++ textF kids) wr by rw [← textK_len]; exact BLR.out)
            clear hj hlt HKR BLR
            obtain ⟨s0, s1, s2, s3, s4⟩ := ElB.cells ER.out
            have z1 : ¬ 9223372036854775807 < 2 + n.length := by have := HNL.out; omega
            have z2 : ¬ 9223372036854775807 < 2 + n.length + 1 := by have := HNL.out; omega
            go_wp2_with fail
            rw [HT5.out]
            refine (wstr_w B b _ (enT n) wr BLQ.out (by have h1 := HLEN.out; simp only [List.length_append, List.length_cons]; omega) HSR.out).mono ?_
            rintro e5 w5 ⟨⟨v5, rfl⟩, bl5, k5⟩
            have K5 := hid (KR.out.trans k5)
            have BL5 := hid bl5
            clear bl5 k5
            go_wp2
            go_end0
            refine ⟨rfl, ?_, K5.out⟩
            have := BL5.out
            simp only [List.append_assoc] at this ⊢
            exact this
end Go.Proofs.YtmofnoconhgjmaaGreatDoor
