/- Texts of one proof, put together: Sf1, Sp1, Sp2, Sp3, Sp4, Sp5. -/
import Derived.Test.YtmofnoconhgjmaaGreatDoorStrs
import Derived.Test.YtmofnoconhgjmaaGreatDoorMA
import Derived.Test.YtmofnoconhgjmaaGreatDoorMW
import Derived.Test.YtmofnoconhgjmaaGreatDoorXn1
import Derived.Test.YtmofnoconhgjmaaGreatDoorMT
import Derived.Test.YtmofnoconhgjmaaGreatDoorMF
import Derived.Test.YtmofnoconhgjmaaGreatDoorShelf
import Derived.Shelf.Strings.SlTrimAscii
import Derived.BigQuiet
import Derived.Test.YtmofnoconhgjmaaGreatDoorApG
/- The two Finds, beside the text of pairs. -/
namespace Go.Proofs.YtmofnoconhgjmaaGreatDoor
open Go.RowKit

def fnd (ns vs : Nat → ByteArray) (len : Nat) (name : ByteArray) : ByteArray × Bool :=
  match (List.range len).find? (fun i => decide (ns i = name)) with
  | some i => (vs i, true)
  | none => (ByteArray.empty, false)
theorem fnd_hit {ns vs : Nat → ByteArray} {len k : Nat} {name : ByteArray} (hk : k < len) (h : ∀ j, j < k → ns j ≠ name) (he : ns k = name) : fnd ns vs len name = (vs k, true) := by
  have : (List.range len).find? (fun i => decide (ns i = name)) = some k := by
    rw [List.find?_range_eq_some]
    refine ⟨by simp [he], by simpa using hk, ?_⟩
    intro j hj; simpa using h j hj
  unfold fnd; rw [this]
theorem fnd_miss {ns vs : Nat → ByteArray} {len : Nat} {name : ByteArray} (h : ∀ j, j < len → ns j ≠ name) : fnd ns vs len name = (ByteArray.empty, false) := by
  have : (List.range len).find? (fun i => decide (ns i = name)) = none := by
    rw [List.find?_eq_none]
    intro x hx; simp at hx; simpa using h x hx
  unfold fnd; rw [this]
set_option maxHeartbeats 1000000 in
theorem find_any (w : World) (a : Option Addr) (len cap : Nat) (ns vs : Nat → ByteArray) (name : ByteArray) (h : PairsAt w a len ns vs) (hlen : len ≤ 100) :
    Calls Tryz.prog 31 #[.slice a len cap, .string name] w fun e w' => e = .returned (.tuple #[.string (fnd ns vs len name).1, .bool (fnd ns vs len name).2]) ∧ w.grownBy w' none := by
  go_enter Tryz.func31, Tryz.ntmps31
  go_wp2_with fail
  go_loopw [10] (fun vk wr => ∃ k : Nat, vk = .int .i64 k ∧ k ≤ len ∧ w.grownBy wr none ∧ Hid (∀ j, j < k → ns j ≠ name)) (fun vk _ => len - (intOf vk).toNat)
  case atStart => exact ⟨0, rfl, Nat.zero_le _, gr_refl _ _, fun j hj => by omega⟩
  case round =>
    obtain ⟨k, rfl, hk, gw, hno⟩ := hrel
    by_cases hkl : k < len
    · rcases h with h0 | ⟨b, o, rfl, hp⟩
      · omega
      have c0 := ((hp k hkl).grown gw).c0
      have c1 := ((hp k hkl).grown gw).c1
      clear hp
      by_cases he : ns k = name
      · have R := hid (fnd_hit (vs := vs) hkl hno.out he)
        rw [he] at c0
        clear he
        go_wp2
        go_ret2
        exact ⟨by rw [R.out]; rfl, by (repeat (first | exact gr_refl _ _ | assumption | refine gr_drew ?_ | refine gr_drewN _ ?_ | refine gr_alloc ?_ _ | refine gr_set ?_ | refine gr_set_new ?_ (by first | omega | (simp; omega))))⟩
      · have hno' : Hid (∀ j, j < k + 1 → ns j ≠ name) := fun j hj => by
          by_cases hjk : j = k
          · subst hjk; exact he
          · exact hno.out j (by omega)
        have hne : ((ns k).toList == name.toList) = false := by rw [toList_beq]; simpa using he
        clear he hno
        go_wp2
        go_roundw
        case rel => exact ⟨k + 1, by go_num, by omega, by (repeat (first | exact gr_refl _ _ | assumption | refine gr_drew ?_ | refine gr_drewN _ ?_ | refine gr_alloc ?_ _ | refine gr_set ?_ | refine gr_set_new ?_ (by first | omega | (simp; omega)))), hno'⟩
        case measure => simp [intOf]; omega
    · obtain rfl : k = len := by omega
      have R := hid (fnd_miss (vs := vs) hno.out)
      go_wp2
      go_ret2
      exact ⟨by rw [R.out]; rfl, gw⟩
set_option maxHeartbeats 1000000 in
theorem rfind_any (w : World) (a : Option Addr) (len cap : Nat) (ns vs : Nat → ByteArray) (name : ByteArray) (h : PairsAt w a len ns vs) (hlen : len ≤ 100) :
    Calls Tryz.prog 78 #[.slice a len cap, .string name] w fun e w' => e = .returned (.tuple #[.string (fnd ns vs len name).1, .bool (fnd ns vs len name).2]) ∧ w.grownBy w' none := by
  go_enter Tryz.func78, Tryz.ntmps78
  go_wp2_with fail
  go_loopw [6] (fun vk wr => ∃ k : Nat, vk = .int .i64 k ∧ k ≤ len ∧ w.grownBy wr none ∧ Hid (∀ j, j < k → ns j ≠ name)) (fun vk _ => len - (intOf vk).toNat)
  case atStart => exact ⟨0, rfl, Nat.zero_le _, gr_refl _ _, fun j hj => by omega⟩
  case round =>
    obtain ⟨k, rfl, hk, gw, hno⟩ := hrel
    by_cases hkl : k < len
    · rcases h with h0 | ⟨b, o, rfl, hp⟩
      · omega
      have c0 := ((hp k hkl).grown gw).c0
      have c1 := ((hp k hkl).grown gw).c1
      clear hp
      by_cases he : ns k = name
      · have R := hid (fnd_hit (vs := vs) hkl hno.out he)
        rw [he] at c0
        clear he
        go_wp2
        go_ret2
        exact ⟨by rw [R.out]; rfl, by (repeat (first | exact gr_refl _ _ | assumption | refine gr_drew ?_ | refine gr_drewN _ ?_ | refine gr_alloc ?_ _ | refine gr_set ?_ | refine gr_set_new ?_ (by first | omega | (simp; omega))))⟩
      · have hno' : Hid (∀ j, j < k + 1 → ns j ≠ name) := fun j hj => by
          by_cases hjk : j = k
          · subst hjk; exact he
          · exact hno.out j (by omega)
        have hne : ((ns k).toList == name.toList) = false := by rw [toList_beq]; simpa using he
        clear he hno
        go_wp2
        go_roundw
        case rel => exact ⟨k + 1, by go_num, by omega, by (repeat (first | exact gr_refl _ _ | assumption | refine gr_drew ?_ | refine gr_drewN _ ?_ | refine gr_alloc ?_ _ | refine gr_set ?_ | refine gr_set_new ?_ (by first | omega | (simp; omega)))), hno'⟩
        case measure => simp [intOf]; omega
    · obtain rfl : k = len := by omega
      have R := hid (fnd_miss (vs := vs) hno.out)
      go_wp2
      go_ret2
      exact ⟨by rw [R.out]; rfl, gw⟩
end Go.Proofs.YtmofnoconhgjmaaGreatDoor
/- SOAP, plainly: what an envelope tells, and what a call is put into. It speaks of no program. -/
namespace Go.Proofs.YtmofnoconhgjmaaGreatDoor
open Go.RowKit
set_option linter.unusedVariables false
set_option linter.unusedSimpArgs false

def Fo.hd : Fo → El
  | .nil => El.zero
  | .cons s n a t k _ => ⟨s, n, a, t, k⟩
def Fo.tl : Fo → Fo
  | .nil => .nil
  | .cons _ _ _ _ _ f => f
abbrev Ar := List (Bs × Bs)
def hasN (l : Ar) (n : Bs) : Bool := l.any fun a => decide (a.1 = n)
/-- A call: its service, its action, its arguments. -/
abbrev Ca := Bs × Bs × Ar
def Ca.zero : Ca := ([], [], [])
/-- The first one of a name. -/
def fndA (l : Ar) (n : Bs) : Option Bs := (l.find? fun a => decide (a.1 = n)).map (·.2)
theorem fnd_none {l : Ar} {n : Bs} (h : hasN l n = false) : fndA l n = none := by
  unfold hasN at h
  unfold fndA
  rw [List.any_eq_false] at h
  rw [List.find?_eq_none.2 (fun a ha => by simpa using h a ha)]
  rfl
end Go.Proofs.YtmofnoconhgjmaaGreatDoor
/- soap.is, soap.blank, soap.open. -/
namespace Go.Proofs.YtmofnoconhgjmaaGreatDoor
open Go.RowKit
set_option linter.unusedVariables false
set_option linter.unusedSimpArgs false

theorem ElAt.same {w w' : World} {X : Nat → Prop} {v : Value} {e : El} (h : ElAt w X v e) (k : ∀ b, b < w.heap.size → ¬ X b → w'.heap[b]? = w.heap[b]?) : ElAt w' X v e := by
  obtain ⟨av, kv, rfl, ha, hk⟩ := h
  exact ⟨av, kv, rfl, ha.same k, hk.same k⟩
theorem ElAt.less {w : World} {X X' : Nat → Prop} {v : Value} {e : El} (h : ElAt w X v e) (k : ∀ b, b < w.heap.size → X' b → X b) : ElAt w X' v e := by
  obtain ⟨av, kv, rfl, ha, hk⟩ := h
  exact ⟨av, kv, rfl, ha.less k, hk.less k⟩
theorem ElAt.keep {w w' : World} {X : Nat → Prop} {v : Value} {e : El} (h : ElAt w X v e) (g : w.grownBy w' none) : ElAt w' X v e := h.same fun b hb _ => g.block b hb (by simp)
theorem bs_ne {a b : Bs} (h : a ≠ b) : ((ByteArray.mk a.toArray).toList == (ByteArray.mk b.toArray).toList) = false := by
  rw [Lib.toList_data, Lib.toList_data, beq_eq_false_iff_ne]
  exact h
theorem bs_nel {a b : Bs} (h : a ≠ b) : ((ByteArray.mk a.toArray).toList == b) = false := by
  rw [Lib.toList_data, beq_eq_false_iff_ne]
  exact h
/-- The first element of a row, by its cells. -/
theorem FoAt.first {w : World} {X : Nat → Prop} {f : Fo} {b o : Nat} (h : FoAt w X f b o) (hp : 0 < f.len) : ∃ aa ac ka kc, w.cell? ⟨b, o, none⟩ = some (.string ⟨f.hd.s.toArray⟩) ∧ w.cell? ⟨b, o + 1, none⟩ = some (.string ⟨f.hd.n.toArray⟩) ∧ w.cell? ⟨b, o + 2, none⟩ = some (.slice aa f.hd.ats.length ac) ∧ w.cell? ⟨b, o + 3, none⟩ = some (.string ⟨f.hd.tx.toArray⟩) ∧ w.cell? ⟨b, o + 4, none⟩ = some (.slice ka f.hd.kids.len kc) ∧
    ElAt w X (.agg #[.string ⟨f.hd.s.toArray⟩, .string ⟨f.hd.n.toArray⟩, .slice aa f.hd.ats.length ac, .string ⟨f.hd.tx.toArray⟩, .slice ka f.hd.kids.len kc]) f.hd := by
  cases f with
  | nil => simp [Fo.len] at hp
  | cons s n ats tx kids next =>
    obtain ⟨⟨c0, c1, c3⟩, ⟨av, c2, ha⟩, ⟨a, c, c4, hk⟩, hn⟩ := h
    obtain ⟨aa, ac, rfl, h2⟩ := ha
    exact ⟨aa, ac, a, c, c0, c1, c2, c3, c4, _, _, rfl, ⟨aa, ac, rfl, h2⟩, ⟨a, c, rfl, hk⟩⟩
end Go.Proofs.YtmofnoconhgjmaaGreatDoor
/- soap.open, of a document whose element has not just two elements. -/
namespace Go.Proofs.YtmofnoconhgjmaaGreatDoor
open Go.RowKit
set_option linter.unusedVariables false
set_option linter.unusedSimpArgs false

/-- What may be asked of a document, so that its call is looked for. -/
structure SmO (x : El) : Prop where
  k : x.kids.len ≠ 2
  t : x.tx.length ≤ 100000
  b : x.kids.hd.tx.length ≤ 100000
end Go.Proofs.YtmofnoconhgjmaaGreatDoor
/- soap.Find of arguments as a list. -/
namespace Go.Proofs.YtmofnoconhgjmaaGreatDoor
open Go.RowKit
set_option linter.unusedVariables false
set_option linter.unusedSimpArgs false

def aN (l : Ar) (i : Nat) : ByteArray := ⟨(l.getD i ([], [])).1.toArray⟩
def aV (l : Ar) (i : Nat) : ByteArray := ⟨(l.getD i ([], [])).2.toArray⟩
/-- Arguments in memory. -/
def ArgsAt (w : World) (v : Value) (l : Ar) : Prop := ∃ a c, v = .slice a l.length c ∧ PairsAt w a l.length (aN l) (aV l)
theorem ArgsAt.grow {w w' : World} {v : Value} {l : Ar} (h : ArgsAt w v l) (g : w.grownBy w' none) : ArgsAt w' v l := by
  obtain ⟨a, c, e, h⟩ := h
  exact ⟨a, c, e, h.grown g⟩
theorem args_own {w : World} {N : Nat} {t : TypeId} {v : Value} {l : Ar} (h : w.ownsRow N t 2 v l.length (duo l)) : ArgsAt w v l := by
  rcases h.2 with ⟨rfl, h0⟩ | ⟨g, cap, cur, rfl, hg, hh, hc, hm, hs, ht⟩
  · exact ⟨none, 0, by rw [h0], .inl h0⟩
  · refine ⟨_, cap, rfl, .inr ⟨g, 0, rfl, fun i hi => ?_⟩⟩
    obtain ⟨d1, d2⟩ := duo_get l i hi
    have c1 := h.cells (g := g) rfl _ _ d1
    have c2 := h.cells (g := g) rfl _ _ d2
    rw [Go.WideShapes.add_plain] at c1 c2
    exact ⟨c1, c2⟩
theorem ba_ne {a b : Bs} (h : a ≠ b) : (ByteArray.mk a.toArray) ≠ (ByteArray.mk b.toArray) := by
  intro e
  exact h (by simpa using congrArg ByteArray.data e)
theorem has_idx : ∀ (l : Ar) (n : Bs), hasN l n = true → ∃ k, k < l.length ∧ (l.getD k ([], [])).1 = n ∧ ∀ j, j < k → (l.getD j ([], [])).1 ≠ n := by
  intro l n h
  induction l with
  | nil => simp [hasN] at h
  | cons a l ih =>
    by_cases ha : a.1 = n
    · exact ⟨0, by simp, by simpa using ha, fun j hj => by omega⟩
    · have h' : hasN l n = true := by
        unfold hasN at h ⊢
        rw [List.any_cons, Bool.or_eq_true] at h
        rcases h with h | h
        · exact absurd (by simpa using h) ha
        · exact h
      obtain ⟨k, h1, h2, h3⟩ := ih h'
      refine ⟨k + 1, by simp; omega, by simpa using h2, fun j hj => ?_⟩
      cases j with
      | zero => simpa using ha
      | succ j => simpa using h3 j (by omega)
theorem fnd_eq (l : Ar) (n : Bs) : fnd (aN l) (aV l) l.length ⟨n.toArray⟩ = (⟨((fndA l n).getD []).toArray⟩, hasN l n) := by
  cases h : hasN l n with
  | false =>
    rw [fnd_none h]
    refine fnd_miss fun j hj => ?_
    unfold hasN at h
    rw [List.any_eq_false] at h
    have := h l[j] (List.getElem_mem hj)
    unfold aN
    rw [List.getD_eq_getElem?_getD, List.getElem?_eq_getElem hj]
    exact ba_ne (by simpa using this)
  | true =>
    obtain ⟨k, h1, h2, h3⟩ := has_idx l n h
    have hf : fndA l n = some (l.getD k ([], [])).2 := by
      unfold fndA
      have : l.find? (fun a => decide (a.1 = n)) = some (l.getD k ([], [])) := by
        rw [List.find?_eq_some_iff_getElem]
        refine ⟨by simpa using h2, k, h1, ?_, fun j hj => ?_⟩
        · rw [List.getD_eq_getElem?_getD, List.getElem?_eq_getElem h1]; rfl
        · have := h3 j hj
          rw [List.getD_eq_getElem?_getD, List.getElem?_eq_getElem (by omega)] at this
          simpa using this
      rw [this]
      rfl
    rw [hf]
    refine fnd_hit h1 (fun j hj => ba_ne (h3 j hj)) ?_
    unfold aN
    rw [h2]
theorem find_args (w : World) (v : Value) (l : Ar) (n : Bs) (h : ArgsAt w v l) (hl : l.length ≤ 100) :
    Calls Tryz.prog 31 #[v, .string ⟨n.toArray⟩] w fun e w' => e = .returned (.tuple #[.string ⟨((fndA l n).getD []).toArray⟩, .bool (hasN l n)]) ∧ w.grownBy w' none := by
  obtain ⟨a, c, rfl, h⟩ := h
  have := find_any w a l.length c (aN l) (aV l) ⟨n.toArray⟩ h hl
  rw [fnd_eq] at this
  exact this
/-- Elements behind the first ones. -/
def Fo.drop : Nat → Fo → Fo
  | 0, f => f
  | _ + 1, .nil => .nil
  | n + 1, .cons _ _ _ _ _ f => f.drop n
theorem Fo.drop_len : ∀ (f : Fo), f.drop f.len = .nil := by
  intro f
  induction f with
  | nil => rfl
  | cons s n ats tx k next _ ih => exact ih
theorem Fo.drop_lt : ∀ (k : Nat) (f : Fo), k < f.len → ∃ s n a t q, (f.drop k).hd = ⟨s, n, a, t, q⟩ ∧ f.drop k = .cons s n a t q (f.drop (k + 1)) := by
  intro k
  induction k with
  | zero =>
    intro f hf
    cases f with
    | nil => simp [Fo.len] at hf
    | cons s n a t q next => exact ⟨s, n, a, t, q, rfl, rfl⟩
  | succ k ih =>
    intro f hf
    cases f with
    | nil => simp [Fo.len] at hf
    | cons s n a t q next =>
      simp only [Fo.len] at hf
      exact ih next (by omega)
theorem FoAt.drop {w : World} {X : Nat → Prop} : ∀ (k : Nat) {f : Fo} {b o : Nat}, FoAt w X f b o → k ≤ f.len → FoAt w X (f.drop k) b (o + k * 5) := by
  intro k
  induction k with
  | zero => intro f b o h _; rw [Nat.zero_mul]; exact h
  | succ k ih =>
    intro f b o h hk
    cases f with
    | nil => simp [Fo.len] at hk
    | cons s n a t q next =>
      obtain ⟨-, -, -, hn⟩ := h
      simp only [Fo.len] at hk
      have := ih hn (by omega)
      rw [show o + 5 + k * 5 = o + (k + 1) * 5 by omega] at this
      exact this
end Go.Proofs.YtmofnoconhgjmaaGreatDoor
/- soap.Decode. -/
namespace Go.Proofs.YtmofnoconhgjmaaGreatDoor
open Go.RowKit
set_option linter.unusedVariables false
set_option linter.unusedSimpArgs false

abbrev tArg : TypeId := 46
abbrev tCall : TypeId := 59
theorem infoArg : (Tryz.prog.info? tArg).map (fun i => (i.zero, i.size, i.bytes)) = some (some (.agg #[.string ⟨#[]⟩, .string ⟨#[]⟩]), 2, 32) := by kernel_rfl
theorem own_setB {w : World} {N b i size n : Nat} {t : TypeId} {v x : Value} {xs : List Value} (h : w.ownsRow N t size v n xs) (hb : b < N) : (w.setCell ⟨b, i, none⟩ x).ownsRow N t size v n xs := by
  refine ⟨h.1, ?_⟩
  rcases h.2 with h0 | ⟨g, cap, cur, rfl, hg, hh, r⟩
  · exact .inl h0
  · exact .inr ⟨g, cap, cur, rfl, hg, (heap_set_other (by omega)).trans hh, r⟩
end Go.Proofs.YtmofnoconhgjmaaGreatDoor
