/- Texts of one proof, put together: Sf1, Sp1, Sp2, Sp3, Sp4, Sp5. -/
import Derived.Test.YtmofnoconhgjmaaGreatDoorStrs
import Derived.Test.YtmofnoconhgjmaaGreatDoorMA
import Derived.Test.YtmofnoconhgjmaaGreatDoorMW
import Derived.Test.YtmofnoconhgjmaaGreatDoorXn1
import Derived.Test.YtmofnoconhgjmaaGreatDoorMT
import Derived.Test.YtmofnoconhgjmaaGreatDoorMF
import Derived.Test.YtmofnoconhgjmaaGreatDoorShelf
import Derived.Shelf.Strings.SlTrimAscii
import Derived.BigQuiet
import Derived.Test.YtmofnoconhgjmaaGreatDoorApG
/- The two Finds, beside the text of pairs. -/
namespace Go.Proofs.YtmofnoconhgjmaaGreatDoor
open Go.RowKit

def fnd (ns vs : Nat → ByteArray) (len : Nat) (name : ByteArray) : ByteArray × Bool :=
  match (List.range len).find? (fun i => decide (ns i = name)) with
  | some i => (vs i, true)
  | none => (ByteArray.empty, false)
theorem fnd_hit {ns vs : Nat → ByteArray} {len k : Nat} {name : ByteArray} (hk : k < len) (h : ∀ j, j < k → ns j ≠ name) (he : ns k = name) : fnd ns vs len name = (vs k, true) := by
  have : (List.range len).find? (fun i => decide (ns i = name)) = some k := by
    rw [List.find?_range_eq_some]
    refine ⟨by simp [he], by simpa using hk, ?_⟩
    intro j hj; simpa using h j hj
  unfold fnd; rw [this]
theorem fnd_miss {ns vs : Nat → ByteArray} {len : Nat} {name : ByteArray} (h : ∀ j, j < len → ns j ≠ name) : fnd ns vs len name = (ByteArray.empty, false) := by
  have : (List.range len).find? (fun i => decide (ns i = name)) = none := by
    rw [List.find?_eq_none]
    intro x hx; simp at hx; simpa using h x hx
  unfold fnd; rw [this]
set_option maxHeartbeats 1000000 in
theorem find_any (w : World) (a : Option Addr) (len cap : Nat) (ns vs : Nat → ByteArray) (name : ByteArray) (h : PairsAt w a len ns vs) (hlen : len ≤ 100) :
    Calls Tryz.prog 31 #[.slice a len cap, .string name] w fun e w' => e = .returned (.tuple #[.string (fnd ns vs len name).1, .bool (fnd ns vs len name).2]) ∧ w.grownBy w' none := by
  go_enter Tryz.func31, Tryz.ntmps31
  go_wp2_with fail
  go_loopw [10] (fun vk wr => ∃ k : Nat, vk = .int .i64 k ∧ k ≤ len ∧ w.grownBy wr none ∧ Hid (∀ j, j < k → ns j ≠ name)) (fun vk _ => len - (intOf vk).toNat)
  case atStart => exact ⟨0, rfl, Nat.zero_le _, gr_refl _ _, fun j hj => by omega⟩
  case round =>
    obtain ⟨k, rfl, hk, gw, hno⟩ := hrel
    by_cases hkl : k < len
    · rcases h with h0 | ⟨b, o, rfl, hp⟩
      · omega
      have c0 := ((hp k hkl).grown gw).c0
      have c1 := ((hp k hkl).grown gw).c1
      clear hp
      by_cases he : ns k = name
      · have R := hid (fnd_hit (vs := vs) hkl hno.out he)
        rw [he] at c0
        clear he
        go_wp2
        go_ret2
        exact ⟨by rw [R.out]; rfl, by (repeat (first | exact gr_refl _ _ | assumption | refine gr_drew ?_ | refine gr_drewN _ ?_ | refine gr_alloc ?_ _ | refine gr_set ?_ | refine gr_set_new ?_ (by first | omega | (simp; omega))))⟩
      · have hno' : Hid (∀ j, j < k + 1 → ns j ≠ name) := fun j hj => by
          by_cases hjk : j = k
          · subst hjk; exact he
          · exact hno.out j (by omega)
        have hne : ((ns k).toList == name.toList) = false := by rw [toList_beq]; simpa using he
        clear he hno
        go_wp2
        go_roundw
        case rel => exact ⟨k + 1, by go_num, by omega, by (repeat (first | exact gr_refl _ _ | assumption | refine gr_drew ?_ | refine gr_drewN _ ?_ | refine gr_alloc ?_ _ | refine gr_set ?_ | refine gr_set_new ?_ (by first | omega | (simp; omega)))), hno'⟩
        case measure => simp [intOf]; omega
    · obtain rfl : k = len := by omega
      have R := hid (fnd_miss (vs := vs) hno.out)
      go_wp2
      go_ret2
      exact ⟨by rw [R.out]; rfl, gw⟩
set_option maxHeartbeats 1000000 in
theorem rfind_any (w : World) (a : Option Addr) (len cap : Nat) (ns vs : Nat → ByteArray) (name : ByteArray) (h : PairsAt w a len ns vs) (hlen : len ≤ 100) :
    Calls Tryz.prog 78 #[.slice a len cap, .string name] w fun e w' => e = .returned (.tuple #[.string (fnd ns vs len name).1, .bool (fnd ns vs len name).2]) ∧ w.grownBy w' none := by
  go_enter Tryz.func78, Tryz.ntmps78
  go_wp2_with fail
  go_loopw [6] (fun vk wr => ∃ k : Nat, vk = .int .i64 k ∧ k ≤ len ∧ w.grownBy wr none ∧ Hid (∀ j, j < k → ns j ≠ name)) (fun vk _ => len - (intOf vk).toNat)
  case atStart => exact ⟨0, rfl, Nat.zero_le _, gr_refl _ _, fun j hj => by omega⟩
  case round =>
    obtain ⟨k, rfl, hk, gw, hno⟩ := hrel
    by_cases hkl : k < len
    · rcases h with h0 | ⟨b, o, rfl, hp⟩
      · omega
      have c0 := ((hp k hkl).grown gw).c0
      have c1 := ((hp k hkl).grown gw).c1
      clear hp
      by_cases he : ns k = name
      · have R := hid (fnd_hit (vs := vs) hkl hno.out he)
        rw [he] at c0
        clear he
        go_wp2
        go_ret2
        exact ⟨by rw [R.out]; rfl, by (repeat (first | exact gr_refl _ _ | assumption | refine gr_drew ?_ | refine gr_drewN _ ?_ | refine gr_alloc ?_ _ | refine gr_set ?_ | refine gr_set_new ?_ (by first | omega | (simp; omega))))⟩
      · have hno' : Hid (∀ j, j < k + 1 → ns j ≠ name) := fun j hj => by
          by_cases hjk : j = k
          · subst hjk; exact he
          · exact hno.out j (by omega)
        have hne : ((ns k).toList == name.toList) = false := by rw [toList_beq]; simpa using he
        clear he hno
        go_wp2
        go_roundw
        case rel => exact ⟨k + 1, by go_num, by omega, by (repeat (first | exact gr_refl _ _ | assumption | refine gr_drew ?_ | refine gr_drewN _ ?_ | refine gr_alloc ?_ _ | refine gr_set ?_ | refine gr_set_new ?_ (by first | omega | (simp; omega)))), hno'⟩
        case measure => simp [intOf]; omega
    · obtain rfl : k = len := by omega
      have R := hid (fnd_miss (vs := vs) hno.out)
      go_wp2
      go_ret2
      exact ⟨by rw [R.out]; rfl, gw⟩
end Go.Proofs.YtmofnoconhgjmaaGreatDoor
/- SOAP, plainly: what an envelope tells, and what a call is put into. It speaks of no program. -/
namespace Go.Proofs.YtmofnoconhgjmaaGreatDoor
open Go.RowKit
set_option linter.unusedVariables false
set_option linter.unusedSimpArgs false

def sEnv : Bs := [104, 116, 116, 112, 58, 47, 47, 115, 99, 104, 101, 109, 97, 115, 46, 120, 109, 108, 115, 111, 97, 112, 46, 111, 114, 103, 47, 115, 111, 97, 112, 47, 101, 110, 118, 101, 108, 111, 112, 101, 47]
def sEnc : Bs := [104, 116, 116, 112, 58, 47, 47, 115, 99, 104, 101, 109, 97, 115, 46, 120, 109, 108, 115, 111, 97, 112, 46, 111, 114, 103, 47, 115, 111, 97, 112, 47, 101, 110, 99, 111, 100, 105, 110, 103, 47]
def sCtl : Bs := [117, 114, 110, 58, 115, 99, 104, 101, 109, 97, 115, 45, 117, 112, 110, 112, 45, 111, 114, 103, 58, 99, 111, 110, 116, 114, 111, 108, 45, 49, 45, 48]
def nEnv : Bs := [69, 110, 118, 101, 108, 111, 112, 101]
def nHdr : Bs := [72, 101, 97, 100, 101, 114]
def nBody : Bs := [66, 111, 100, 121]
def nFault : Bs := [70, 97, 117, 108, 116]
def nStyle : Bs := [101, 110, 99, 111, 100, 105, 110, 103, 83, 116, 121, 108, 101]
def isE (e : El) (s n : Bs) : Bool := decide (e.s = s) && decide (e.n = n)
def blankT (t : Bs) : Bool := decide (Lib.trimS t blkL = [])
def Fo.hd : Fo → El
  | .nil => El.zero
  | .cons s n a t k _ => ⟨s, n, a, t, k⟩
def Fo.tl : Fo → Fo
  | .nil => .nil
  | .cons _ _ _ _ _ f => f
def openK (k : Fo) : Fo := if decide (k.len = 2) && isE k.hd sEnv nHdr then k.tl else k
/-- The one element in an envelope's body. -/
def openL (x : El × Nat) : El × Nat :=
  if x.2 ≠ 0 then (El.zero, x.2)
  else if isE x.1 sEnv nEnv && blankT x.1.tx && decide ((openK x.1.kids).len = 1) then
    if isE (openK x.1.kids).hd sEnv nBody && blankT (openK x.1.kids).hd.tx && decide ((openK x.1.kids).hd.kids.len = 1) then ((openK x.1.kids).hd.kids.hd, 0) else (El.zero, 11)
  else (El.zero, 11)
abbrev Ar := List (Bs × Bs)
def hasN (l : Ar) (n : Bs) : Bool := l.any fun a => decide (a.1 = n)
def argL : Fo → Ar → Option Ar
  | .nil, acc => some acc
  | .cons _ n _ t k next, acc => if hasN acc n || decide (0 < k.len) then none else argL next (acc ++ [(n, t)])
/-- A call: its service, its action, its arguments. -/
abbrev Ca := Bs × Bs × Ar
def Ca.zero : Ca := ([], [], [])
def decE (e : El) : Ca × Nat := match argL e.kids [] with
  | none => (Ca.zero, 11)
  | some l => if decide (e.s = []) || decide (16 < l.length) then (Ca.zero, 11) else ((e.s, e.n, l), 0)
def decL (x : El × Nat) : Ca × Nat := if (openL x).2 ≠ 0 then (Ca.zero, (openL x).2) else decE (openL x).1
def sealE (e : El) : El := ⟨sEnv, nEnv, [(sEnv, nStyle, sEnc)], [], .cons sEnv nBody [] [] (.cons e.s e.n e.ats e.tx e.kids .nil) .nil⟩
def encF : Ar → Fo
  | [] => .nil
  | a :: l => .cons [] a.1 [] a.2 .nil (encF l)
def encE (c : Ca) : El := ⟨c.1, c.2.1, [], [], encF c.2.2⟩
theorem encF_len (l : Ar) : (encF l).len = l.length := by
  induction l with
  | nil => rfl
  | cons a l ih => simp only [encF, Fo.len, List.length_cons, ih]
theorem encF_snoc (l : Ar) (a : Bs × Bs) : encF (l ++ [a]) = (encF l).snoc ⟨[], a.1, [], a.2, .nil⟩ := by
  induction l with
  | nil => rfl
  | cons b l ih => simp only [List.cons_append, encF, Fo.snoc, ih]
theorem open_seal (e : El) : openL (sealE e, 0) = (e, 0) := by
  obtain ⟨s, n, a, t, k⟩ := e
  have h1 : openK (sealE ⟨s, n, a, t, k⟩).kids = (sealE ⟨s, n, a, t, k⟩).kids := by unfold openK; rw [if_neg]; simp [sealE, Fo.len]
  unfold openL
  rw [h1]
  simp [sealE, isE, Fo.hd, Fo.len, show blankT [] = true by decide]
theorem hasN_false {l : Ar} {n : Bs} (h : ∀ a ∈ l, a.1 ≠ n) : hasN l n = false := by
  unfold hasN
  rw [List.any_eq_false]
  intro a ha
  simpa using h a ha
/-- No name comes twice. -/
def oneN : Ar → Ar → Bool
  | _, [] => true
  | acc, a :: l => !hasN acc a.1 && oneN (acc ++ [a]) l
theorem arg_enc : ∀ (l acc : Ar), oneN acc l = true → argL (encF l) acc = some (acc ++ l) := by
  intro l
  induction l with
  | nil => intro acc _; simp [encF, argL]
  | cons a l ih =>
    intro acc h
    unfold oneN at h
    rw [Bool.and_eq_true, Bool.not_eq_true'] at h
    simp only [encF, argL, h.1, Fo.len, Nat.lt_irrefl, decide_false, Bool.or_self, Bool.false_eq_true, if_false]
    rw [ih _ h.2, List.append_assoc]
    rfl
theorem dec_enc (c : Ca) (h1 : c.1 ≠ []) (h2 : oneN [] c.2.2 = true) (h3 : c.2.2.length ≤ 16) : decL (sealE (encE c), 0) = (c, 0) := by
  unfold decL
  rw [open_seal]
  simp only [ne_eq, not_true_eq_false, if_false]
  unfold decE
  rw [show (encE c).kids = encF c.2.2 from rfl, arg_enc _ _ h2]
  simp only [List.nil_append]
  rw [if_neg (by simp [encE, h1]; omega)]
  rfl
/-- The first one of a name. -/
def fndA (l : Ar) (n : Bs) : Option Bs := (l.find? fun a => decide (a.1 = n)).map (·.2)
theorem oneN_mem : ∀ (l acc : Ar), oneN acc l = true → ∀ a ∈ l, hasN acc a.1 = false ∧ fndA l a.1 = some a.2 := by
  intro l
  induction l with
  | nil => intro acc _ a ha; cases ha
  | cons b l ih =>
    intro acc h a ha
    unfold oneN at h
    rw [Bool.and_eq_true, Bool.not_eq_true'] at h
    rcases List.mem_cons.1 ha with rfl | ha
    · exact ⟨h.1, by unfold fndA; simp⟩
    · obtain ⟨h3, h4⟩ := ih _ h.2 a ha
      unfold hasN at h3
      rw [List.any_append, Bool.or_eq_false_iff] at h3
      refine ⟨h3.1, ?_⟩
      have hne : ¬ b.1 = a.1 := by simpa using h3.2
      unfold fndA at h4 ⊢
      rw [List.find?_cons_of_neg (by simpa using hne)]
      exact h4
theorem fnd_none {l : Ar} {n : Bs} (h : hasN l n = false) : fndA l n = none := by
  unfold hasN at h
  unfold fndA
  rw [List.any_eq_false] at h
  rw [List.find?_eq_none.2 (fun a ha => by simpa using h a ha)]
  rfl
theorem fnd_some {l : Ar} {n : Bs} (h : hasN l n = true) : ∃ v, fndA l n = some v := by
  unfold hasN at h
  unfold fndA
  rw [List.any_eq_true] at h
  obtain ⟨a, ha, h⟩ := h
  cases hf : l.find? (fun a => decide (a.1 = n)) with
  | none => exact absurd h (by simpa using List.find?_eq_none.1 hf a ha)
  | some x => exact ⟨x.2, rfl⟩
/-- An error's element. -/
def faultE (num words : Bs) : El :=
  ⟨sEnv, nFault, [], [], .cons [] [102, 97, 117, 108, 116, 99, 111, 100, 101] [] [115, 58, 67, 108, 105, 101, 110, 116] .nil (.cons [] [102, 97, 117, 108, 116, 115, 116, 114, 105, 110, 103] [] [85, 80, 110, 80, 69, 114, 114, 111, 114] .nil
    (.cons [] [100, 101, 116, 97, 105, 108] [] [] (.cons sCtl [85, 80, 110, 80, 69, 114, 114, 111, 114] [] [] (.cons sCtl [101, 114, 114, 111, 114, 67, 111, 100, 101] [] num .nil (.cons sCtl [101, 114, 114, 111, 114, 68, 101, 115, 99, 114, 105, 112, 116, 105, 111, 110] [] words .nil .nil)) .nil) .nil))⟩
theorem dec_fault (num words : Bs) : (decL (sealE (faultE num words), 0)).2 = 11 := by
  unfold decL
  rw [open_seal]
  simp only [ne_eq, not_true_eq_false, if_false]
  unfold decE
  rw [show argL (faultE num words).kids [] = none by
    unfold faultE
    simp only [argL]
    rw [show hasN ([] : Ar) [102, 97, 117, 108, 116, 99, 111, 100, 101] = false from rfl]
    simp only [Fo.len, Nat.lt_irrefl, decide_false, Bool.or_self, Bool.false_eq_true, if_false, List.nil_append]
    rw [show hasN [(([102, 97, 117, 108, 116, 99, 111, 100, 101], [115, 58, 67, 108, 105, 101, 110, 116]) : Bs × Bs)] [102, 97, 117, 108, 116, 115, 116, 114, 105, 110, 103] = false by decide]
    simp]
theorem dec_nil : (decL (parseL [])).2 = 11 := by decide +kernel
/-- What was put into an envelope is read as it. -/
theorem parse_seal {e : El} (h : ∀ y ∈ flatE 0 e, OkX y.1 y.2) (hc : (flatE 0 e).length ≤ 64) (hl : (textE e).length ≤ 8192) : parseL (textE e) = (e, 0) := by
  obtain ⟨w1, w2, w3, w4⟩ := ok_wfe h hc
  exact parse_text w1 w2 w3 w4 hl
end Go.Proofs.YtmofnoconhgjmaaGreatDoor
/- soap.is, soap.blank, soap.open. -/
namespace Go.Proofs.YtmofnoconhgjmaaGreatDoor
open Go.RowKit
set_option linter.unusedVariables false
set_option linter.unusedSimpArgs false

theorem ElAt.same {w w' : World} {X : Nat → Prop} {v : Value} {e : El} (h : ElAt w X v e) (k : ∀ b, b < w.heap.size → ¬ X b → w'.heap[b]? = w.heap[b]?) : ElAt w' X v e := by
  obtain ⟨av, kv, rfl, ha, hk⟩ := h
  exact ⟨av, kv, rfl, ha.same k, hk.same k⟩
theorem ElAt.less {w : World} {X X' : Nat → Prop} {v : Value} {e : El} (h : ElAt w X v e) (k : ∀ b, b < w.heap.size → X' b → X b) : ElAt w X' v e := by
  obtain ⟨av, kv, rfl, ha, hk⟩ := h
  exact ⟨av, kv, rfl, ha.less k, hk.less k⟩
theorem ElAt.keep {w w' : World} {X : Nat → Prop} {v : Value} {e : El} (h : ElAt w X v e) (g : w.grownBy w' none) : ElAt w' X v e := h.same fun b hb _ => g.block b hb (by simp)
theorem bs_ne {a b : Bs} (h : a ≠ b) : ((ByteArray.mk a.toArray).toList == (ByteArray.mk b.toArray).toList) = false := by
  rw [Lib.toList_data, Lib.toList_data, beq_eq_false_iff_ne]
  exact h
theorem bs_nel {a b : Bs} (h : a ≠ b) : ((ByteArray.mk a.toArray).toList == b) = false := by
  rw [Lib.toList_data, beq_eq_false_iff_ne]
  exact h
/-- The first element of a row, by its cells. -/
theorem FoAt.first {w : World} {X : Nat → Prop} {f : Fo} {b o : Nat} (h : FoAt w X f b o) (hp : 0 < f.len) : ∃ aa ac ka kc, w.cell? ⟨b, o, none⟩ = some (.string ⟨f.hd.s.toArray⟩) ∧ w.cell? ⟨b, o + 1, none⟩ = some (.string ⟨f.hd.n.toArray⟩) ∧ w.cell? ⟨b, o + 2, none⟩ = some (.slice aa f.hd.ats.length ac) ∧ w.cell? ⟨b, o + 3, none⟩ = some (.string ⟨f.hd.tx.toArray⟩) ∧ w.cell? ⟨b, o + 4, none⟩ = some (.slice ka f.hd.kids.len kc) ∧
    ElAt w X (.agg #[.string ⟨f.hd.s.toArray⟩, .string ⟨f.hd.n.toArray⟩, .slice aa f.hd.ats.length ac, .string ⟨f.hd.tx.toArray⟩, .slice ka f.hd.kids.len kc]) f.hd := by
  cases f with
  | nil => simp [Fo.len] at hp
  | cons s n ats tx kids next =>
    obtain ⟨⟨c0, c1, c3⟩, ⟨av, c2, ha⟩, ⟨a, c, c4, hk⟩, hn⟩ := h
    obtain ⟨aa, ac, rfl, h2⟩ := ha
    exact ⟨aa, ac, a, c, c0, c1, c2, c3, c4, _, _, rfl, ⟨aa, ac, rfl, h2⟩, ⟨a, c, rfl, hk⟩⟩
set_option maxHeartbeats 1000000 in
theorem is_any (w : World) (X : Nat → Prop) (v : Value) (e : El) (s n : Bs) (he : ElAt w X v e) :
    Calls Tryz.prog 116 #[v, .string ⟨s.toArray⟩, .string ⟨n.toArray⟩] w fun e' w' => e' = .returned (.bool (isE e s n)) ∧ w.grownBy w' none := by
  obtain ⟨es, en, ats, tx, kids⟩ := e
  obtain ⟨av, kv, rfl, ha, hk⟩ := he
  obtain ⟨aa, ac, rfl, -⟩ := ha
  obtain ⟨ka, kc, rfl, -⟩ := hk
  unfold elV str
  dsimp only
  by_cases h1 : es = s
  · subst h1
    by_cases h2 : en = n
    · subst h2
      have HR := hid (show isE ⟨es, en, ats, tx, kids⟩ es en = true by simp [isE])
      go_enter Tryz.func116, Tryz.ntmps116
      go_wp2
      go_ret
      rw [HR.out]
      exact ⟨rfl, by (repeat (first | exact gr_refl _ _ | assumption | refine gr_drew ?_ | refine gr_drewN _ ?_ | refine gr_alloc ?_ _ | refine gr_set ?_ | refine gr_set_new ?_ (by first | omega | (simp; omega))))⟩
    · have HR := hid (show isE ⟨es, en, ats, tx, kids⟩ es n = false by simp [isE, h2])
      have e1 : (en == n) = false := beq_eq_false_iff_ne.2 h2
      clear h2
      go_enter Tryz.func116, Tryz.ntmps116
      go_wp2
      go_ret
      rw [HR.out]
      exact ⟨rfl, by (repeat (first | exact gr_refl _ _ | assumption | refine gr_drew ?_ | refine gr_drewN _ ?_ | refine gr_alloc ?_ _ | refine gr_set ?_ | refine gr_set_new ?_ (by first | omega | (simp; omega))))⟩
  · have HR := hid (show isE ⟨es, en, ats, tx, kids⟩ s n = false by simp [isE, h1])
    have e1 : (es == s) = false := beq_eq_false_iff_ne.2 h1
    clear h1
    go_enter Tryz.func116, Tryz.ntmps116
    go_wp2
    go_ret
    rw [HR.out]
    exact ⟨rfl, by (repeat (first | exact gr_refl _ _ | assumption | refine gr_drew ?_ | refine gr_drewN _ ?_ | refine gr_alloc ?_ _ | refine gr_set ?_ | refine gr_set_new ?_ (by first | omega | (simp; omega))))⟩
theorem info256 : (Tryz.prog.info? (Tryz.lays160_ren.t 116)).map (fun i => (i.zero, i.size)) = some (some (.agg (Array.replicate 256 (.bool false))), 256) := by kernel_rfl
theorem trim_b (s : ByteArray) (w : World) (hs : s.size ≤ 9223372036854775807) :
    Calls Tryz.prog 192 #[.string s, .string ⟨#[32, 9, 10, 13]⟩] w fun e w' => e = .returned (.string ⟨(Lib.trimS s.data.toList blkL).toArray⟩) ∧ w.grownBy w' none :=
  (Any.strings_Trim_laid Tryz.lays160 info256 s ⟨#[32, 9, 10, 13]⟩ w hs (by decide) (ascii_of_all (by decide))).mono fun e w' ⟨h1, h2⟩ => ⟨h1, gr_of_below h2⟩
set_option maxHeartbeats 1000000 in
theorem blank_any (t : Bs) (w : World) (ht : t.length ≤ 9223372036854775807) :
    Calls Tryz.prog 117 #[.string ⟨t.toArray⟩] w fun e' w' => e' = .returned (.bool (blankT t)) ∧ w.grownBy w' none := by
  have HT := hid (trim_b ⟨t.toArray⟩ w (by rw [Lib.size_eq]; exact ht))
  rw [show (ByteArray.mk t.toArray).data.toList = t from rfl] at HT
  have HR := hid (show blankT t = decide (Lib.trimS t blkL = []) from rfl)
  generalize Lib.trimS t blkL = x at *
  by_cases hx : x = []
  · subst hx
    go_enter Tryz.func117, Tryz.ntmps117
    go_wp2_with fail
    refine HT.out.mono ?_
    rintro e w1 ⟨rfl, g1⟩
    go_wp2
    go_ret
    rw [HR.out]
    exact ⟨rfl, g1⟩
  · have e1 : x.isEmpty = false := by cases x with
      | nil => exact absurd rfl hx
      | cons => rfl
    rw [decide_eq_false hx] at HR
    clear hx
    go_enter Tryz.func117, Tryz.ntmps117
    go_wp2_with fail
    refine HT.out.mono ?_
    rintro e w1 ⟨rfl, g1⟩
    go_wp2
    go_ret
    rw [HR.out]
    exact ⟨rfl, g1⟩
end Go.Proofs.YtmofnoconhgjmaaGreatDoor
/- soap.open, of a document whose element has not just two elements. -/
namespace Go.Proofs.YtmofnoconhgjmaaGreatDoor
open Go.RowKit
set_option linter.unusedVariables false
set_option linter.unusedSimpArgs false

/-- What may be asked of a document, so that its call is looked for. -/
structure SmO (x : El) : Prop where
  k : x.kids.len ≠ 2
  t : x.tx.length ≤ 100000
  b : x.kids.hd.tx.length ≤ 100000
def OpenQ (w : World) (x : El × Nat) (e : Ending) (w' : World) : Prop := w.grownBy w' none ∧ ∃ v, e = .returned (.tuple #[v, .int .i64 (x.2 : Int)]) ∧ ElAt w' (fun k => k < w.heap.size) v x.1
theorem openK_id {k : Fo} (h : k.len ≠ 2) : openK k = k := by unfold openK; rw [if_neg]; simp [h]
set_option maxRecDepth 100000 in
set_option maxHeartbeats 20000000 in
theorem open_any (w : World) (vb : Value) (l : Bs) (m : Int) (hb : Bytes w vb l) (hm : w.cell? ⟨0, 0, none⟩ = some (.int .i64 m)) (hl : l.length ≤ 20000) (hs : SmO (parseL l).1) :
    Calls Tryz.prog 64 #[vb] w (OpenQ w (openL (parseL l))) := by
  have g1 := gr_alloc (gr_refl w none) (.cells #[.string ⟨#[]⟩, .string ⟨#[]⟩, .slice none 0 0, .string ⟨#[]⟩, .slice none 0 0] 25)
  have n1 := heap_alloc_new w (.cells #[.string ⟨#[]⟩, .string ⟨#[]⟩, .slice none 0 0, .string ⟨#[]⟩, .slice none 0 0] 25)
  have z1 : w.heap.size < (w.alloc (.cells #[.string ⟨#[]⟩, .string ⟨#[]⟩, .slice none 0 0, .string ⟨#[]⟩, .slice none 0 0] 25)).heap.size := by simp
  obtain ⟨w1, hw1⟩ : ∃ w1, w1 = w.alloc (.cells #[.string ⟨#[]⟩, .string ⟨#[]⟩, .slice none 0 0, .string ⟨#[]⟩, .slice none 0 0] 25) := ⟨_, rfl⟩
  obtain ⟨rb, hrb⟩ : ∃ rb, rb = w.heap.size := ⟨_, rfl⟩
  rw [← hw1] at g1 n1 z1
  rw [← hrb] at n1
  have HP := hid (parse_q w1 vb l m (hb.grown g1) (g1.cell hm (by simp)) hl)
  obtain ⟨x, hx⟩ : ∃ x, x = parseL l := ⟨_, rfl⟩
  rw [← hx] at HP hs ⊢
  obtain ⟨aB, cB, rfl, -⟩ := hb
  have N1 := hid n1
  have G1 := hid g1
  have Z1 := hid z1
  have HW1 := hid hw1
  have HLE := hid (show w.heap.size ≤ rb by omega)
  have HRB := hid hrb
  have HSM := hid hs
  clear hw1 hrb g1 n1 z1 hx hm hs
  go_enter Tryz.func64, Tryz.ntmps64
  go_upto_region 1 with fail
  rw [← HW1.out, ← HRB.out]
  clear HW1
  go_wp2_with fail
  refine HP.out.mono ?_
  rintro e2 w2 ⟨g2, v2, rfl, he2⟩
  have HE2 := hid he2
  obtain ⟨av2, kv2, rfl, ha2, hk2⟩ := he2
  have HK2 := hid hk2
  obtain ⟨aa, ac, rfl, -⟩ := ha2
  obtain ⟨ka, kc, rfl, -⟩ := hk2
  unfold elV str
  dsimp only
  obtain ⟨⟨es, en, ea, et, ek⟩, code⟩ := x
  dsimp only
  have g3 := World.grownBy_alloc w2 (.cells #[.string ⟨es.toArray⟩, .string ⟨en.toArray⟩, .slice aa ea.length ac, .string ⟨et.toArray⟩, .slice ka ek.len kc] 25) none
  have n3 := heap_alloc_new w2 (.cells #[.string ⟨es.toArray⟩, .string ⟨en.toArray⟩, .slice aa ea.length ac, .string ⟨et.toArray⟩, .slice ka ek.len kc] 25)
  obtain ⟨w3, hw3⟩ : ∃ w3, w3 = w2.alloc (.cells #[.string ⟨es.toArray⟩, .string ⟨en.toArray⟩, .slice aa ea.length ac, .string ⟨et.toArray⟩, .slice ka ek.len kc] 25) := ⟨_, rfl⟩
  obtain ⟨bx, hbx⟩ : ∃ bx, bx = w2.heap.size := ⟨_, rfl⟩
  rw [← hw3] at g3 n3
  rw [← hbx] at n3
  have E3 := hid (show ElB w3 bx es en (.slice aa ea.length ac) et (.slice ka ek.len kc) from n3)
  have N3 := hid (gr_keep (gr_trans g2 g3) N1.out (by simp))
  have G3 := hid (gr_trans G1.out (gr_trans g2 g3))
  have HE3 := hid (HE2.out.keep g3)
  have HK3 := hid (HK2.out.same fun b hb _ => g3.block b hb (by simp))
  have HW3 := hid hw3
  have HBX := hid hbx
  clear g2 g3 n3 hw3 hbx HP G1 N1 HE2 HK2
  dsimp only at HK3
  go_upto_region 2 with fail
  rw [← HW3.out, ← HBX.out]
  clear HW3 HBX
  have GZ := G3
  by_cases hk0 : code = 0
  · subst hk0
    have hk2 : ((ek.len : Int) == 2) = false := beq_eq_false_iff_ne.2 (by have := HSM.out.k; simp only at this; omega)
    have HV := hid (show openL ((⟨es, en, ea, et, ek⟩ : El), 0) = if isE ⟨es, en, ea, et, ek⟩ sEnv nEnv && blankT et && decide (ek.len = 1) then (if isE ek.hd sEnv nBody && blankT ek.hd.tx && decide (ek.hd.kids.len = 1) then (ek.hd.kids.hd, 0) else (El.zero, 11)) else (El.zero, 11) by
      unfold openL
      simp only [ne_eq, not_true_eq_false, if_false]
      rw [openK_id HSM.out.k])
    generalize openL ((⟨es, en, ea, et, ek⟩ : El), 0) = R at *
    obtain ⟨s0, s1, s2, s3, s4⟩ := ElB.cells E3.out
    go_wp2_with fail
    refine (is_any w3 (fun k => k < w1.heap.size) _ ⟨es, en, ea, et, ek⟩ sEnv nEnv HE3.out).mono ?_
    rintro e4 w4 ⟨rfl, g4⟩
    have E4 := hid (E3.out.grow g4)
    have N4 := hid (gr_keep g4 N3.out (by simp))
    have G4 := hid (gr_trans G3.out g4)
    have HK4 := hid (HK3.out.same fun b hb _ => g4.block b hb (by simp))
    clear g4 E3 N3 G3 HE3 HK3 s0 s1 s2 s3 s4 GZ
    cases hI : isE ⟨es, en, ea, et, ek⟩ sEnv nEnv with
    | false =>
      have HN := hid (show R = (El.zero, 11) by rw [HV.out, hI]; rfl)
      have GZ := G4
      clear hI HV
      have k0 : w4.cell? ⟨rb, 0, none⟩ = some (.string ⟨#[]⟩) := cell_of_block N4.out 0
      have k1 : w4.cell? ⟨rb, 1, none⟩ = some (.string ⟨#[]⟩) := cell_of_block N4.out 1
      have k2 : w4.cell? ⟨rb, 2, none⟩ = some (.slice none 0 0) := cell_of_block N4.out 2
      have k3 : w4.cell? ⟨rb, 3, none⟩ = some (.string ⟨#[]⟩) := cell_of_block N4.out 3
      have k4 : w4.cell? ⟨rb, 4, none⟩ = some (.slice none 0 0) := cell_of_block N4.out 4
      have z0 := free_of_block N4.out 0
      have z1 := free_of_block N4.out 1
      have z2 := free_of_block N4.out 2
      have z3 := free_of_block N4.out 3
      have z4 := free_of_block N4.out 4
      go_wp2
      refine bodyPost_ret (v := .tuple #[.agg #[.string ⟨#[]⟩, .string ⟨#[]⟩, .slice none 0 0, .string ⟨#[]⟩, .slice none 0 0], .int .i64 11]) (by simp [results, Tryz.results64, go_sem, k0, k1, k2, k3, k4]) rfl ?_
      rw [HN.out]
      exact ⟨gr_set_new (gr_set_new (gr_set_new (gr_set_new (gr_set_new GZ.out HLE.out) HLE.out) HLE.out) HLE.out) HLE.out, _, rfl, zero_at _ _⟩
    | true =>
    rw [hI] at HV
    clear hI
    obtain ⟨s0, s1, s2, s3, s4⟩ := ElB.cells E4.out
    go_wp2_with fail
    refine (blank_any et w4 (by have := HSM.out.t; simp only at this; omega)).mono ?_
    rintro e5 w5 ⟨rfl, g5⟩
    have E5 := hid (E4.out.grow g5)
    have N5 := hid (gr_keep g5 N4.out (by simp))
    have G5 := hid (gr_trans G4.out g5)
    have HK5 := hid (HK4.out.same fun b hb _ => g5.block b hb (by simp))
    clear g5 E4 N4 G4 HK4 s0 s1 s2 s3 s4
    cases hB : blankT et with
    | false =>
      have HN := hid (show R = (El.zero, 11) by rw [HV.out, hB]; rfl)
      have GZ := G5
      clear hB HV
      have k0 : w5.cell? ⟨rb, 0, none⟩ = some (.string ⟨#[]⟩) := cell_of_block N5.out 0
      have k1 : w5.cell? ⟨rb, 1, none⟩ = some (.string ⟨#[]⟩) := cell_of_block N5.out 1
      have k2 : w5.cell? ⟨rb, 2, none⟩ = some (.slice none 0 0) := cell_of_block N5.out 2
      have k3 : w5.cell? ⟨rb, 3, none⟩ = some (.string ⟨#[]⟩) := cell_of_block N5.out 3
      have k4 : w5.cell? ⟨rb, 4, none⟩ = some (.slice none 0 0) := cell_of_block N5.out 4
      have z0 := free_of_block N5.out 0
      have z1 := free_of_block N5.out 1
      have z2 := free_of_block N5.out 2
      have z3 := free_of_block N5.out 3
      have z4 := free_of_block N5.out 4
      go_wp2
      refine bodyPost_ret (v := .tuple #[.agg #[.string ⟨#[]⟩, .string ⟨#[]⟩, .slice none 0 0, .string ⟨#[]⟩, .slice none 0 0], .int .i64 11]) (by simp [results, Tryz.results64, go_sem, k0, k1, k2, k3, k4]) rfl ?_
      rw [HN.out]
      exact ⟨gr_set_new (gr_set_new (gr_set_new (gr_set_new (gr_set_new GZ.out HLE.out) HLE.out) HLE.out) HLE.out) HLE.out, _, rfl, zero_at _ _⟩
    | true =>
    rw [hB] at HV
    clear hB
    by_cases hl1 : ek.len = 1
    rotate_left
    · have HN := hid (show R = (El.zero, 11) by rw [HV.out, decide_eq_false hl1]; rfl)
      have hne : ((ek.len : Int) == 1) = false := beq_eq_false_iff_ne.2 (by omega)
      have GZ := G5
      clear hl1 HV
      have k0 : w5.cell? ⟨rb, 0, none⟩ = some (.string ⟨#[]⟩) := cell_of_block N5.out 0
      have k1 : w5.cell? ⟨rb, 1, none⟩ = some (.string ⟨#[]⟩) := cell_of_block N5.out 1
      have k2 : w5.cell? ⟨rb, 2, none⟩ = some (.slice none 0 0) := cell_of_block N5.out 2
      have k3 : w5.cell? ⟨rb, 3, none⟩ = some (.string ⟨#[]⟩) := cell_of_block N5.out 3
      have k4 : w5.cell? ⟨rb, 4, none⟩ = some (.slice none 0 0) := cell_of_block N5.out 4
      have z0 := free_of_block N5.out 0
      have z1 := free_of_block N5.out 1
      have z2 := free_of_block N5.out 2
      have z3 := free_of_block N5.out 3
      have z4 := free_of_block N5.out 4
      go_wp2
      refine bodyPost_ret (v := .tuple #[.agg #[.string ⟨#[]⟩, .string ⟨#[]⟩, .slice none 0 0, .string ⟨#[]⟩, .slice none 0 0], .int .i64 11]) (by simp [results, Tryz.results64, go_sem, k0, k1, k2, k3, k4]) rfl ?_
      rw [HN.out]
      exact ⟨gr_set_new (gr_set_new (gr_set_new (gr_set_new (gr_set_new GZ.out HLE.out) HLE.out) HLE.out) HLE.out) HLE.out, _, rfl, zero_at _ _⟩
    obtain ⟨kb, ko, rfl, hx, hf⟩ : ∃ b o, ka = some ⟨b, o, none⟩ ∧ ¬ b < w1.heap.size ∧ FoAt w5 (fun k => k < w1.heap.size) ek b o := by
      obtain ⟨a', c', e, h⟩ := HK5.out
      simp only [Value.slice.injEq] at e
      obtain ⟨rfl, -, rfl⟩ := e
      exact h (by omega)
    obtain ⟨ba, bc, bka, bkc, c0, c1, c2, c3, c4, hE⟩ := hf.first (by omega)
    have HBL := hid (show ek.hd.tx.length ≤ 100000 from HSM.out.b)
    have HL1 := hid hl1
    rw [decide_eq_true hl1] at HV
    rw [hl1] at E5 ⊢
    clear hl1 hf HK5 HSM hk2 hx
    generalize ek.hd = hd at *
    obtain ⟨bs, bn, bat, bt, bk⟩ := hd
    dsimp only at c0 c1 c2 c3 c4 HBL HV hE
    have HKB := hid (show KidV w5 (fun k => k < w1.heap.size) (.slice bka bk.len bkc) bk from by
      obtain ⟨av, kv, e, -, hk⟩ := hE
      unfold elV at e
      simp only [Value.agg.injEq] at e
      have : kv = .slice bka bk.len bkc := by
        have := congrArg (fun a : Array Value => a[4]?) e
        simpa using this.symm
      rw [← this]
      exact hk)
    have g6 := World.grownBy_alloc w5 (.cells #[.string ⟨bs.toArray⟩, .string ⟨bn.toArray⟩, .slice ba bat.length bc, .string ⟨bt.toArray⟩, .slice bka bk.len bkc] 25) none
    have n6 := heap_alloc_new w5 (.cells #[.string ⟨bs.toArray⟩, .string ⟨bn.toArray⟩, .slice ba bat.length bc, .string ⟨bt.toArray⟩, .slice bka bk.len bkc] 25)
    obtain ⟨w6, hw6⟩ : ∃ w6, w6 = w5.alloc (.cells #[.string ⟨bs.toArray⟩, .string ⟨bn.toArray⟩, .slice ba bat.length bc, .string ⟨bt.toArray⟩, .slice bka bk.len bkc] 25) := ⟨_, rfl⟩
    obtain ⟨by7, hby7⟩ : ∃ b, b = w5.heap.size := ⟨_, rfl⟩
    rw [← hw6] at g6 n6
    rw [← hby7] at n6
    have E6 := hid (show ElB w6 by7 bs bn (.slice ba bat.length bc) bt (.slice bka bk.len bkc) from n6)
    have N6 := hid (gr_keep g6 N5.out (by simp))
    have G6 := hid (gr_trans G5.out g6)
    have HE6 := hid (hE.keep g6)
    have HK6 := hid (HKB.out.same fun b hb _ => g6.block b hb (by simp))
    have HW6 := hid hw6
    have HB7 := hid hby7
    obtain ⟨s0, s1, s2, s3, s4⟩ := ElB.cells E5.out
    clear g6 n6 hw6 hby7 hE HKB N5 G5
    go_upto_region 10 with fail
    rw [← HW6.out, ← HB7.out]
    clear HW6 HB7 c0 c1 c2 c3 c4 s0 s1 s2 s3 s4 E5
    obtain ⟨s0, s1, s2, s3, s4⟩ := ElB.cells E6.out
    go_wp2_with fail
    refine (is_any w6 (fun k => k < w1.heap.size) _ ⟨bs, bn, bat, bt, bk⟩ sEnv nBody HE6.out).mono ?_
    rintro e7 w7 ⟨rfl, g7⟩
    have E7 := hid (E6.out.grow g7)
    have N7 := hid (gr_keep g7 N6.out (by simp))
    have G7 := hid (gr_trans G6.out g7)
    have HK7 := hid (HK6.out.same fun b hb _ => g7.block b hb (by simp))
    clear g7 E6 N6 G6 HE6 HK6 s0 s1 s2 s3 s4
    cases hI : isE ⟨bs, bn, bat, bt, bk⟩ sEnv nBody with
    | false =>
      have HN := hid (show R = (El.zero, 11) by rw [HV.out, hI]; rfl)
      have GZ := G7
      clear hI HV
      have k0 : w7.cell? ⟨rb, 0, none⟩ = some (.string ⟨#[]⟩) := cell_of_block N7.out 0
      have k1 : w7.cell? ⟨rb, 1, none⟩ = some (.string ⟨#[]⟩) := cell_of_block N7.out 1
      have k2 : w7.cell? ⟨rb, 2, none⟩ = some (.slice none 0 0) := cell_of_block N7.out 2
      have k3 : w7.cell? ⟨rb, 3, none⟩ = some (.string ⟨#[]⟩) := cell_of_block N7.out 3
      have k4 : w7.cell? ⟨rb, 4, none⟩ = some (.slice none 0 0) := cell_of_block N7.out 4
      have z0 := free_of_block N7.out 0
      have z1 := free_of_block N7.out 1
      have z2 := free_of_block N7.out 2
      have z3 := free_of_block N7.out 3
      have z4 := free_of_block N7.out 4
      go_wp2
      refine bodyPost_ret (v := .tuple #[.agg #[.string ⟨#[]⟩, .string ⟨#[]⟩, .slice none 0 0, .string ⟨#[]⟩, .slice none 0 0], .int .i64 11]) (by simp [results, Tryz.results64, go_sem, k0, k1, k2, k3, k4]) rfl ?_
      rw [HN.out]
      exact ⟨gr_set_new (gr_set_new (gr_set_new (gr_set_new (gr_set_new GZ.out HLE.out) HLE.out) HLE.out) HLE.out) HLE.out, _, rfl, zero_at _ _⟩
    | true =>
    rw [hI] at HV
    clear hI
    obtain ⟨s0, s1, s2, s3, s4⟩ := ElB.cells E7.out
    go_wp2_with fail
    refine (blank_any bt w7 (by have := HBL.out; omega)).mono ?_
    rintro e8 w8 ⟨rfl, g8⟩
    have E8 := hid (E7.out.grow g8)
    have N8 := hid (gr_keep g8 N7.out (by simp))
    have G8 := hid (gr_trans G7.out g8)
    have HK8 := hid (HK7.out.same fun b hb _ => g8.block b hb (by simp))
    clear g8 E7 N7 G7 HK7 s0 s1 s2 s3 s4
    cases hB : blankT bt with
    | false =>
      have HN := hid (show R = (El.zero, 11) by rw [HV.out, hB]; rfl)
      have GZ := G8
      clear hB HV
      have k0 : w8.cell? ⟨rb, 0, none⟩ = some (.string ⟨#[]⟩) := cell_of_block N8.out 0
      have k1 : w8.cell? ⟨rb, 1, none⟩ = some (.string ⟨#[]⟩) := cell_of_block N8.out 1
      have k2 : w8.cell? ⟨rb, 2, none⟩ = some (.slice none 0 0) := cell_of_block N8.out 2
      have k3 : w8.cell? ⟨rb, 3, none⟩ = some (.string ⟨#[]⟩) := cell_of_block N8.out 3
      have k4 : w8.cell? ⟨rb, 4, none⟩ = some (.slice none 0 0) := cell_of_block N8.out 4
      have z0 := free_of_block N8.out 0
      have z1 := free_of_block N8.out 1
      have z2 := free_of_block N8.out 2
      have z3 := free_of_block N8.out 3
      have z4 := free_of_block N8.out 4
      go_wp2
      refine bodyPost_ret (v := .tuple #[.agg #[.string ⟨#[]⟩, .string ⟨#[]⟩, .slice none 0 0, .string ⟨#[]⟩, .slice none 0 0], .int .i64 11]) (by simp [results, Tryz.results64, go_sem, k0, k1, k2, k3, k4]) rfl ?_
      rw [HN.out]
      exact ⟨gr_set_new (gr_set_new (gr_set_new (gr_set_new (gr_set_new GZ.out HLE.out) HLE.out) HLE.out) HLE.out) HLE.out, _, rfl, zero_at _ _⟩
    | true =>
    rw [hB] at HV
    clear hB
    obtain ⟨s0, s1, s2, s3, s4⟩ := ElB.cells E8.out
    by_cases hl1 : bk.len = 1
    rotate_left
    · have HN := hid (show R = (El.zero, 11) by rw [HV.out, decide_eq_false hl1]; rfl)
      have hne : ((bk.len : Int) == 1) = false := beq_eq_false_iff_ne.2 (by omega)
      have GZ := G8
      clear hl1 HV
      have k0 : w8.cell? ⟨rb, 0, none⟩ = some (.string ⟨#[]⟩) := cell_of_block N8.out 0
      have k1 : w8.cell? ⟨rb, 1, none⟩ = some (.string ⟨#[]⟩) := cell_of_block N8.out 1
      have k2 : w8.cell? ⟨rb, 2, none⟩ = some (.slice none 0 0) := cell_of_block N8.out 2
      have k3 : w8.cell? ⟨rb, 3, none⟩ = some (.string ⟨#[]⟩) := cell_of_block N8.out 3
      have k4 : w8.cell? ⟨rb, 4, none⟩ = some (.slice none 0 0) := cell_of_block N8.out 4
      have z0 := free_of_block N8.out 0
      have z1 := free_of_block N8.out 1
      have z2 := free_of_block N8.out 2
      have z3 := free_of_block N8.out 3
      have z4 := free_of_block N8.out 4
      go_wp2
      refine bodyPost_ret (v := .tuple #[.agg #[.string ⟨#[]⟩, .string ⟨#[]⟩, .slice none 0 0, .string ⟨#[]⟩, .slice none 0 0], .int .i64 11]) (by simp [results, Tryz.results64, go_sem, k0, k1, k2, k3, k4]) rfl ?_
      rw [HN.out]
      exact ⟨gr_set_new (gr_set_new (gr_set_new (gr_set_new (gr_set_new GZ.out HLE.out) HLE.out) HLE.out) HLE.out) HLE.out, _, rfl, zero_at _ _⟩
    obtain ⟨cb, co, rfl, hx, hf⟩ : ∃ b o, bka = some ⟨b, o, none⟩ ∧ ¬ b < w1.heap.size ∧ FoAt w8 (fun k => k < w1.heap.size) bk b o := by
      obtain ⟨a', c', e, h⟩ := HK8.out
      simp only [Value.slice.injEq] at e
      obtain ⟨rfl, -, rfl⟩ := e
      exact h (by omega)
    obtain ⟨ca, cc, cka, ckc, c0, c1, c2, c3, c4, hE⟩ := hf.first (by omega)
    have HN := hid (show R = (bk.hd, 0) by rw [HV.out, decide_eq_true hl1]; rfl)
    rw [hl1] at s4 ⊢
    clear hl1 hf HK8 HV hx E8
    generalize bk.hd = hd at *
    obtain ⟨fs, fn, fat, ft, fk⟩ := hd
    dsimp only at c0 c1 c2 c3 c4 hE
    have hX : ∀ k, k < w8.heap.size → ¬ (k < w1.heap.size) → (((((w8.setCell ⟨rb, 0, none⟩ (.string ⟨fs.toArray⟩)).setCell ⟨rb, 1, none⟩ (.string ⟨fn.toArray⟩)).setCell ⟨rb, 2, none⟩ (.slice ca fat.length cc)).setCell ⟨rb, 3, none⟩ (.string ⟨ft.toArray⟩)).setCell ⟨rb, 4, none⟩ (.slice cka fk.len ckc)).heap[k]? = w8.heap[k]? := fun k h1 h2 =>
      (gr_set (gr_set (gr_set (gr_set (gr_set (gr_refl w8 (some rb)))))) : w8.grownBy (((((w8.setCell ⟨rb, 0, none⟩ (.string ⟨fs.toArray⟩)).setCell ⟨rb, 1, none⟩ (.string ⟨fn.toArray⟩)).setCell ⟨rb, 2, none⟩ (.slice ca fat.length cc)).setCell ⟨rb, 3, none⟩ (.string ⟨ft.toArray⟩)).setCell ⟨rb, 4, none⟩ (.slice cka fk.len ckc)) (some rb)).block k h1 (fun e => by
        have e' : k = rb := by simpa using e
        have := Z1.out
        have := HRB.out
        exact h2 (by omega))
    have HF := hid ((hE.same hX).less (X' := fun k => k < w.heap.size) (fun k _ h => by have := Z1.out; show k < w1.heap.size; have h' : k < w.heap.size := h; omega))
    have GZ := G8
    clear hX hE
    have k0 : w8.cell? ⟨rb, 0, none⟩ = some (.string ⟨#[]⟩) := cell_of_block N8.out 0
    have k1 : w8.cell? ⟨rb, 1, none⟩ = some (.string ⟨#[]⟩) := cell_of_block N8.out 1
    have k2 : w8.cell? ⟨rb, 2, none⟩ = some (.slice none 0 0) := cell_of_block N8.out 2
    have k3 : w8.cell? ⟨rb, 3, none⟩ = some (.string ⟨#[]⟩) := cell_of_block N8.out 3
    have k4 : w8.cell? ⟨rb, 4, none⟩ = some (.slice none 0 0) := cell_of_block N8.out 4
    have z0 := free_of_block N8.out 0
    have z1 := free_of_block N8.out 1
    have z2 := free_of_block N8.out 2
    have z3 := free_of_block N8.out 3
    have z4 := free_of_block N8.out 4
    go_wp2
    refine bodyPost_ret (v := .tuple #[.agg #[.string ⟨fs.toArray⟩, .string ⟨fn.toArray⟩, .slice ca fat.length cc, .string ⟨ft.toArray⟩, .slice cka fk.len ckc], .int .i64 0]) (by simp [results, Tryz.results64, go_sem, k0, k1, k2, k3, k4]) rfl ?_
    rw [HN.out]
    exact ⟨gr_set_new (gr_set_new (gr_set_new (gr_set_new (gr_set_new GZ.out HLE.out) HLE.out) HLE.out) HLE.out) HLE.out, _, rfl, HF.out⟩
  · have HN := hid (show openL ((⟨es, en, ea, et, ek⟩ : El), code) = (El.zero, code) by unfold openL; rw [if_pos hk0])
    obtain ⟨kk, hkk⟩ : ∃ kk : Int, kk = (code : Int) := ⟨_, rfl⟩
    have hne : (kk == 0) = false := beq_eq_false_iff_ne.2 (by omega)
    have HKK := hid hkk
    rw [← hkk]
    clear hkk hk0
    have k0 : w3.cell? ⟨rb, 0, none⟩ = some (.string ⟨#[]⟩) := cell_of_block N3.out 0
    have k1 : w3.cell? ⟨rb, 1, none⟩ = some (.string ⟨#[]⟩) := cell_of_block N3.out 1
    have k2 : w3.cell? ⟨rb, 2, none⟩ = some (.slice none 0 0) := cell_of_block N3.out 2
    have k3 : w3.cell? ⟨rb, 3, none⟩ = some (.string ⟨#[]⟩) := cell_of_block N3.out 3
    have k4 : w3.cell? ⟨rb, 4, none⟩ = some (.slice none 0 0) := cell_of_block N3.out 4
    have z0 := free_of_block N3.out 0
    have z1 := free_of_block N3.out 1
    have z2 := free_of_block N3.out 2
    have z3 := free_of_block N3.out 3
    have z4 := free_of_block N3.out 4
    go_wp2
    refine bodyPost_ret (v := .tuple #[.agg #[.string ⟨#[]⟩, .string ⟨#[]⟩, .slice none 0 0, .string ⟨#[]⟩, .slice none 0 0], .int .i64 kk]) (by simp [results, Tryz.results64, go_sem, k0, k1, k2, k3, k4]) rfl ?_
    rw [HN.out]
    exact ⟨gr_set_new (gr_set_new (gr_set_new (gr_set_new (gr_set_new GZ.out HLE.out) HLE.out) HLE.out) HLE.out) HLE.out, _, by rw [HKK.out], zero_at _ _⟩
end Go.Proofs.YtmofnoconhgjmaaGreatDoor
/- soap.Find of arguments as a list. -/
namespace Go.Proofs.YtmofnoconhgjmaaGreatDoor
open Go.RowKit
set_option linter.unusedVariables false
set_option linter.unusedSimpArgs false

def aN (l : Ar) (i : Nat) : ByteArray := ⟨(l.getD i ([], [])).1.toArray⟩
def aV (l : Ar) (i : Nat) : ByteArray := ⟨(l.getD i ([], [])).2.toArray⟩
/-- Arguments in memory. -/
def ArgsAt (w : World) (v : Value) (l : Ar) : Prop := ∃ a c, v = .slice a l.length c ∧ PairsAt w a l.length (aN l) (aV l)
theorem ArgsAt.grow {w w' : World} {v : Value} {l : Ar} (h : ArgsAt w v l) (g : w.grownBy w' none) : ArgsAt w' v l := by
  obtain ⟨a, c, e, h⟩ := h
  exact ⟨a, c, e, h.grown g⟩
theorem args_own {w : World} {N : Nat} {t : TypeId} {v : Value} {l : Ar} (h : w.ownsRow N t 2 v l.length (duo l)) : ArgsAt w v l := by
  rcases h.2 with ⟨rfl, h0⟩ | ⟨g, cap, cur, rfl, hg, hh, hc, hm, hs, ht⟩
  · exact ⟨none, 0, by rw [h0], .inl h0⟩
  · refine ⟨_, cap, rfl, .inr ⟨g, 0, rfl, fun i hi => ?_⟩⟩
    obtain ⟨d1, d2⟩ := duo_get l i hi
    have c1 := h.cells (g := g) rfl _ _ d1
    have c2 := h.cells (g := g) rfl _ _ d2
    rw [Go.WideShapes.add_plain] at c1 c2
    exact ⟨c1, c2⟩
theorem ba_ne {a b : Bs} (h : a ≠ b) : (ByteArray.mk a.toArray) ≠ (ByteArray.mk b.toArray) := by
  intro e
  exact h (by simpa using congrArg ByteArray.data e)
theorem has_idx : ∀ (l : Ar) (n : Bs), hasN l n = true → ∃ k, k < l.length ∧ (l.getD k ([], [])).1 = n ∧ ∀ j, j < k → (l.getD j ([], [])).1 ≠ n := by
  intro l n h
  induction l with
  | nil => simp [hasN] at h
  | cons a l ih =>
    by_cases ha : a.1 = n
    · exact ⟨0, by simp, by simpa using ha, fun j hj => by omega⟩
    · have h' : hasN l n = true := by
        unfold hasN at h ⊢
        rw [List.any_cons, Bool.or_eq_true] at h
        rcases h with h | h
        · exact absurd (by simpa using h) ha
        · exact h
      obtain ⟨k, h1, h2, h3⟩ := ih h'
      refine ⟨k + 1, by simp; omega, by simpa using h2, fun j hj => ?_⟩
      cases j with
      | zero => simpa using ha
      | succ j => simpa using h3 j (by omega)
theorem fnd_eq (l : Ar) (n : Bs) : fnd (aN l) (aV l) l.length ⟨n.toArray⟩ = (⟨((fndA l n).getD []).toArray⟩, hasN l n) := by
  cases h : hasN l n with
  | false =>
    rw [fnd_none h]
    refine fnd_miss fun j hj => ?_
    unfold hasN at h
    rw [List.any_eq_false] at h
    have := h l[j] (List.getElem_mem hj)
    unfold aN
    rw [List.getD_eq_getElem?_getD, List.getElem?_eq_getElem hj]
    exact ba_ne (by simpa using this)
  | true =>
    obtain ⟨k, h1, h2, h3⟩ := has_idx l n h
    have hf : fndA l n = some (l.getD k ([], [])).2 := by
      unfold fndA
      have : l.find? (fun a => decide (a.1 = n)) = some (l.getD k ([], [])) := by
        rw [List.find?_eq_some_iff_getElem]
        refine ⟨by simpa using h2, k, h1, ?_, fun j hj => ?_⟩
        · rw [List.getD_eq_getElem?_getD, List.getElem?_eq_getElem h1]; rfl
        · have := h3 j hj
          rw [List.getD_eq_getElem?_getD, List.getElem?_eq_getElem (by omega)] at this
          simpa using this
      rw [this]
      rfl
    rw [hf]
    refine fnd_hit h1 (fun j hj => ba_ne (h3 j hj)) ?_
    unfold aN
    rw [h2]
theorem find_args (w : World) (v : Value) (l : Ar) (n : Bs) (h : ArgsAt w v l) (hl : l.length ≤ 100) :
    Calls Tryz.prog 31 #[v, .string ⟨n.toArray⟩] w fun e w' => e = .returned (.tuple #[.string ⟨((fndA l n).getD []).toArray⟩, .bool (hasN l n)]) ∧ w.grownBy w' none := by
  obtain ⟨a, c, rfl, h⟩ := h
  have := find_any w a l.length c (aN l) (aV l) ⟨n.toArray⟩ h hl
  rw [fnd_eq] at this
  exact this
/-- Elements behind the first ones. -/
def Fo.drop : Nat → Fo → Fo
  | 0, f => f
  | _ + 1, .nil => .nil
  | n + 1, .cons _ _ _ _ _ f => f.drop n
theorem Fo.drop_len : ∀ (f : Fo), f.drop f.len = .nil := by
  intro f
  induction f with
  | nil => rfl
  | cons s n ats tx k next _ ih => exact ih
theorem Fo.drop_lt : ∀ (k : Nat) (f : Fo), k < f.len → ∃ s n a t q, (f.drop k).hd = ⟨s, n, a, t, q⟩ ∧ f.drop k = .cons s n a t q (f.drop (k + 1)) := by
  intro k
  induction k with
  | zero =>
    intro f hf
    cases f with
    | nil => simp [Fo.len] at hf
    | cons s n a t q next => exact ⟨s, n, a, t, q, rfl, rfl⟩
  | succ k ih =>
    intro f hf
    cases f with
    | nil => simp [Fo.len] at hf
    | cons s n a t q next =>
      simp only [Fo.len] at hf
      exact ih next (by omega)
theorem FoAt.drop {w : World} {X : Nat → Prop} : ∀ (k : Nat) {f : Fo} {b o : Nat}, FoAt w X f b o → k ≤ f.len → FoAt w X (f.drop k) b (o + k * 5) := by
  intro k
  induction k with
  | zero => intro f b o h _; rw [Nat.zero_mul]; exact h
  | succ k ih =>
    intro f b o h hk
    cases f with
    | nil => simp [Fo.len] at hk
    | cons s n a t q next =>
      obtain ⟨-, -, -, hn⟩ := h
      simp only [Fo.len] at hk
      have := ih hn (by omega)
      rw [show o + 5 + k * 5 = o + (k + 1) * 5 by omega] at this
      exact this
end Go.Proofs.YtmofnoconhgjmaaGreatDoor
/- soap.Decode. -/
namespace Go.Proofs.YtmofnoconhgjmaaGreatDoor
open Go.RowKit
set_option linter.unusedVariables false
set_option linter.unusedSimpArgs false

def DecQ (w : World) (x : Ca × Nat) (e : Ending) (w' : World) : Prop := w.grownBy w' none ∧ ∃ v, e = .returned (.tuple #[.agg #[.string ⟨x.1.1.toArray⟩, .string ⟨x.1.2.1.toArray⟩, v], .int .i64 (x.2 : Int)]) ∧ ArgsAt w' v x.1.2.2
abbrev tArg : TypeId := 46
abbrev tCall : TypeId := 59
theorem infoArg : (Tryz.prog.info? tArg).map (fun i => (i.zero, i.size, i.bytes)) = some (some (.agg #[.string ⟨#[]⟩, .string ⟨#[]⟩]), 2, 32) := by kernel_rfl
theorem own_setB {w : World} {N b i size n : Nat} {t : TypeId} {v x : Value} {xs : List Value} (h : w.ownsRow N t size v n xs) (hb : b < N) : (w.setCell ⟨b, i, none⟩ x).ownsRow N t size v n xs := by
  refine ⟨h.1, ?_⟩
  rcases h.2 with h0 | ⟨g, cap, cur, rfl, hg, hh, r⟩
  · exact .inl h0
  · exact .inr ⟨g, cap, cur, rfl, hg, (heap_set_other (by omega)).trans hh, r⟩
theorem duo_src {w : World} {a : Bs × Bs} {t : TypeId} : SrcAt (w.alloc (.cells #[.string ⟨a.1.toArray⟩, .string ⟨a.2.toArray⟩] t)) (some ⟨w.heap.size, 0, none⟩) (duo [a]) := by
  refine .inr ⟨_, rfl, fun j u hj => ?_⟩
  rw [Go.WideShapes.add_plain, cell_of_block (heap_alloc_new w _), Nat.zero_add]
  match j, hj with
  | 0, hj => exact hj
  | 1, hj => exact hj
  | j + 2, hj => simp [duo] at hj
set_option maxRecDepth 100000 in
set_option maxHeartbeats 20000000 in
theorem decode_any (w : World) (vb : Value) (l : Bs) (m : Int) (hb : Bytes w vb l) (hm : w.cell? ⟨0, 0, none⟩ = some (.int .i64 m)) (hl : l.length ≤ 20000) (hs : SmO (parseL l).1) (hkn : (openL (parseL l)).1.kids.len ≤ 100) :
    Calls Tryz.prog 30 #[vb] w (DecQ w (decL (parseL l))) := by
  have g1 := gr_alloc (gr_refl w none) (.cells #[.string ⟨#[]⟩, .string ⟨#[]⟩, .slice none 0 0] tCall)
  have n1 := heap_alloc_new w (.cells #[.string ⟨#[]⟩, .string ⟨#[]⟩, .slice none 0 0] tCall)
  have z1 : w.heap.size < (w.alloc (.cells #[.string ⟨#[]⟩, .string ⟨#[]⟩, .slice none 0 0] tCall)).heap.size := by simp
  obtain ⟨w1, hw1⟩ : ∃ w1, w1 = w.alloc (.cells #[.string ⟨#[]⟩, .string ⟨#[]⟩, .slice none 0 0] tCall) := ⟨_, rfl⟩
  obtain ⟨rb, hrb⟩ : ∃ rb, rb = w.heap.size := ⟨_, rfl⟩
  rw [← hw1] at g1 n1 z1
  rw [← hrb] at n1
  have HO := hid (open_any w1 vb l m (hb.grown g1) (g1.cell hm (by simp)) hl hs)
  have HV := hid (show decL (parseL l) = if (openL (parseL l)).2 ≠ 0 then (Ca.zero, (openL (parseL l)).2) else decE (openL (parseL l)).1 from rfl)
  generalize decL (parseL l) = R at *
  generalize openL (parseL l) = x at *
  obtain ⟨aB, cB, rfl, -⟩ := hb
  have N1 := hid n1
  have G1 := hid g1
  have Z1 := hid z1
  have HW1 := hid hw1
  have HLE := hid (show w.heap.size ≤ rb by omega)
  have HRB := hid hrb
  clear hw1 hrb g1 n1 z1 hm hs
  go_enter Tryz.func30, Tryz.ntmps30
  go_upto_region 1 with fail
  rw [← HW1.out, ← HRB.out]
  clear HW1
  go_wp2_with fail
  refine HO.out.mono ?_
  rintro e2 w2 ⟨g2, v2, rfl, he2⟩
  obtain ⟨av2, kv2, rfl, ha2, hk2⟩ := he2
  have HK2 := hid hk2
  obtain ⟨aa, ac, rfl, -⟩ := ha2
  obtain ⟨ka, kc, rfl, -⟩ := hk2
  unfold elV str
  dsimp only
  obtain ⟨⟨es, en, ea, et, ek⟩, code⟩ := x
  dsimp only at HK2 hkn HV ⊢
  have g3 := World.grownBy_alloc w2 (.cells #[.string ⟨es.toArray⟩, .string ⟨en.toArray⟩, .slice aa ea.length ac, .string ⟨et.toArray⟩, .slice ka ek.len kc] 25) none
  have n3 := heap_alloc_new w2 (.cells #[.string ⟨es.toArray⟩, .string ⟨en.toArray⟩, .slice aa ea.length ac, .string ⟨et.toArray⟩, .slice ka ek.len kc] 25)
  obtain ⟨w3, hw3⟩ : ∃ w3, w3 = w2.alloc (.cells #[.string ⟨es.toArray⟩, .string ⟨en.toArray⟩, .slice aa ea.length ac, .string ⟨et.toArray⟩, .slice ka ek.len kc] 25) := ⟨_, rfl⟩
  obtain ⟨bx, hbx⟩ : ∃ bx, bx = w2.heap.size := ⟨_, rfl⟩
  rw [← hw3] at g3 n3
  rw [← hbx] at n3
  have E3 := hid (show ElB w3 bx es en (.slice aa ea.length ac) et (.slice ka ek.len kc) from n3)
  have N3 := hid (gr_keep (gr_trans g2 g3) N1.out (by simp))
  have G3 := hid (gr_trans G1.out (gr_trans g2 g3))
  have HK3 := hid (HK2.out.same fun b hb _ => g3.block b hb (by simp))
  have HS3 := hid (show w1.heap.size ≤ w3.heap.size from (gr_trans g2 g3).size)
  have HW3 := hid hw3
  have HBX := hid hbx
  clear g2 g3 n3 hw3 hbx HO G1 N1 HK2
  go_upto_region 2 with fail
  rw [← HW3.out, ← HBX.out]
  clear HW3 HBX
  obtain ⟨kk, hkk⟩ : ∃ kk : Int, kk = (code : Int) := ⟨_, rfl⟩
  rw [← hkk]
  by_cases hk0 : code = 0
  rotate_left
  · have HN := hid (show R = (Ca.zero, code) by rw [HV.out, if_pos hk0])
    have hne : (kk == 0) = false := beq_eq_false_iff_ne.2 (by omega)
    have HKK := hid hkk
    have GZ := G3
    clear hkk hk0
    have k0 : w3.cell? ⟨rb, 0, none⟩ = some (.string ⟨#[]⟩) := cell_of_block N3.out 0
    have k1 : w3.cell? ⟨rb, 1, none⟩ = some (.string ⟨#[]⟩) := cell_of_block N3.out 1
    have k2 : w3.cell? ⟨rb, 2, none⟩ = some (.slice none 0 0) := cell_of_block N3.out 2
    have z0 := free_of_block N3.out 0
    have z1 := free_of_block N3.out 1
    have z2 := free_of_block N3.out 2
    go_wp2
    refine bodyPost_ret (v := .tuple #[.agg #[.string ⟨#[]⟩, .string ⟨#[]⟩, .slice none 0 0], .int .i64 kk]) (by simp [results, Tryz.results30, go_sem, k0, k1, k2]) rfl ?_
    rw [HN.out]
    exact ⟨gr_set_new (gr_set_new (gr_set_new GZ.out HLE.out) HLE.out) HLE.out, .slice none 0 0, by rw [HKK.out]; rfl, none, 0, rfl, .inl rfl⟩
  subst hk0
  obtain rfl : kk = 0 := hkk
  obtain ⟨s0, s1, s2, s3, s4⟩ := ElB.cells E3.out
  have g4 := World.grownBy_alloc w3 (.cells #[.string ⟨es.toArray⟩, .string ⟨en.toArray⟩, .slice none 0 0] tCall) none
  have n4 := heap_alloc_new w3 (.cells #[.string ⟨es.toArray⟩, .string ⟨en.toArray⟩, .slice none 0 0] tCall)
  have z4 : w3.heap.size < (w3.alloc (.cells #[.string ⟨es.toArray⟩, .string ⟨en.toArray⟩, .slice none 0 0] tCall)).heap.size := by simp
  obtain ⟨w4, hw4⟩ : ∃ w4, w4 = w3.alloc (.cells #[.string ⟨es.toArray⟩, .string ⟨en.toArray⟩, .slice none 0 0] tCall) := ⟨_, rfl⟩
  obtain ⟨cb, hcb⟩ : ∃ cb, cb = w3.heap.size := ⟨_, rfl⟩
  rw [← hw4] at g4 n4 z4
  rw [← hcb] at n4 z4
  have C4 := hid n4
  have E4 := hid (E3.out.grow g4)
  have N4 := hid (gr_keep g4 N3.out (by simp))
  have G4 := hid (gr_trans G3.out g4)
  have HK4 := hid ((HK3.out.less (X' := fun k => k < w1.heap.size ∨ k = cb) (fun b hb h => by
    rcases h with h | h
    · exact h
    · have hb' : b < w3.heap.size := hb
      omega)).same fun b hb _ => g4.block b hb (by simp))
  have Z4 := hid z4
  have HCL := hid (show w.heap.size ≤ cb by rw [hcb]; exact G3.out.size)
  have HRC := hid (show rb < cb by have := HS3.out; have := Z1.out; have := HRB.out; omega)
  have HW4 := hid hw4
  have HCB := hid hcb
  clear g4 n4 z4 hw4 hcb
  go_upto_region 5 with fail
  rw [← HW4.out, ← HCB.out]
  clear HW4 s0 s1 s2 s3 s4
  obtain ⟨s0, s1, s2, s3, s4⟩ := ElB.cells E4.out
  go_wp2_with fail
  clear s0 s1 s2 s3 s4 E4 E3 HK3 N3 G3
  obtain ⟨i0, hi, hz0, hz1, hz2⟩ := info_parts infoArg
  go_loopw [28] (fun vk wr => ∃ (k : Nat) (acc : Ar) (vA : Value), vk = .int .i64 k ∧ k ≤ ek.len ∧ acc.length ≤ k ∧ Hid (w4.grownBy wr (some cb)) ∧ Hid (wr.heap[cb]? = some (.cells #[.string ⟨es.toArray⟩, .string ⟨en.toArray⟩, vA] tCall (0, 0))) ∧ Hid (wr.ownsRow w4.heap.size tArg 2 vA acc.length (duo acc)) ∧ Hid (argL ek [] = argL (ek.drop k) acc)) (fun vk _ => ek.len - (intOf vk).toNat)
  case atStart => exact ⟨0, [], .slice none 0 0, rfl, Nat.zero_le _, Nat.le_refl _, hid (gr_refl _ _), C4, hid ⟨rfl, .inl ⟨rfl, rfl⟩⟩, hid rfl⟩
  case round =>
    obtain ⟨k, acc, vA, rfl, hk, hacc, gr, hC, hO, hA⟩ := hrel
    have GR := hid (gr_new G4.out gr.out HCL.out)
    have NR := hid (gr_keep gr.out N4.out (by have := HRC.out; intro e; simp at e; omega))
    by_cases hlt : k < ek.len
    · obtain ⟨s', n', a', t', q', -, hdr⟩ := Fo.drop_lt k ek hlt
      obtain ⟨kb, ko, rfl, hx, hf⟩ : ∃ b o, ka = some ⟨b, o, none⟩ ∧ ¬ (b < w1.heap.size ∨ b = cb) ∧ FoAt wr (fun k => k < w1.heap.size ∨ k = cb) ek b o := by
        have HKr := HK4.out.same (w' := wr) fun b hb hX => gr.out.block b hb (by intro e; exact hX (.inr (by simpa using e)))
        obtain ⟨a', c', e, h⟩ := HKr
        simp only [Value.slice.injEq] at e
        obtain ⟨rfl, -, rfl⟩ := e
        exact h (by omega)
      have hfd := hf.drop k (by omega)
      rw [hdr] at hfd
      rw [hdr] at hA
      obtain ⟨⟨c0, c1, c3⟩, ⟨av, c2, ha⟩, ⟨qa, qc, c4, -⟩, -⟩ := hfd
      obtain ⟨pa, pc, rfl, -⟩ := ha
      clear hdr hf hx
      have hk0 : (0 : Int) ≤ (k : Int) := by omega
      have hk1 : (k : Int) < (ek.len : Int) := by omega
      have hk2 : (k : Int) + 1 ≤ 101 := by omega
      obtain ⟨vaA, vaC, rfl⟩ := own_shapeG hO.out
      have gk := World.grownBy_alloc wr (.cells #[.string ⟨s'.toArray⟩, .string ⟨n'.toArray⟩, .slice pa a'.length pc, .string ⟨t'.toArray⟩, .slice qa q'.len qc] 25) none
      have nk := heap_alloc_new wr (.cells #[.string ⟨s'.toArray⟩, .string ⟨n'.toArray⟩, .slice pa a'.length pc, .string ⟨t'.toArray⟩, .slice qa q'.len qc] 25)
      obtain ⟨wk, hwk⟩ : ∃ wk, wk = wr.alloc (.cells #[.string ⟨s'.toArray⟩, .string ⟨n'.toArray⟩, .slice pa a'.length pc, .string ⟨t'.toArray⟩, .slice qa q'.len qc] 25) := ⟨_, rfl⟩
      obtain ⟨kx, hkx⟩ : ∃ b, b = wr.heap.size := ⟨_, rfl⟩
      rw [← hwk] at gk nk
      rw [← hkx] at nk
      have EK := hid (show ElB wk kx s' n' (.slice pa a'.length pc) t' (.slice qa q'.len qc) from nk)
      have CK := hid (gr_keep gk hC.out (by simp))
      have OK := hid (own_growG hO.out gk)
      have NK := hid (gr_keep gk NR.out (by simp))
      have GK := hid (gr_trans GR.out gk)
      have HK := hid (gr_trans gr.out (gr_none gk))
      have HWK := hid hwk
      have HKX := hid hkx
      clear gk nk hwk hkx hC hO NR GR gr
      go_upto_region 8 with fail
      rw [← HWK.out, ← HKX.out]
      clear HWK HKX c0 c1 c2 c3 c4
      obtain ⟨s0, s1, s2, s3, s4⟩ := ElB.cells EK.out
      have p2 : wk.cell? ⟨cb, 2, none⟩ = some (.slice vaA acc.length vaC) := cell_of_block CK.out 2
      go_wp2_with fail
      refine (find_args wk _ acc n' (args_own OK.out) (by omega)).mono ?_
      rintro e ws ⟨rfl, gs⟩
      have ES := hid (EK.out.grow gs)
      have CS := hid (gr_keep gs CK.out (by simp))
      have OS := hid (own_growG OK.out gs)
      have NS := hid (gr_keep gs NK.out (by simp))
      have GS := hid (gr_trans GK.out gs)
      have HS := hid (gr_trans HK.out (gr_none gs))
      clear gs EK CK OK NK GK HK s0 s1 s2 s3 s4 p2
      cases hN' : hasN acc n' with
      | true =>
        have HN := hid (show R = (Ca.zero, 11) by
          rw [HV.out]
          simp only [ne_eq, not_true_eq_false, if_false]
          unfold decE
          dsimp only
          rw [hA.out]
          simp [argL, hN'])
        have GZ := GS
        clear hN' hA HV
        generalize (fndA acc n').getD [] = fv
        have k0 : ws.cell? ⟨rb, 0, none⟩ = some (.string ⟨#[]⟩) := cell_of_block NS.out 0
        have k1 : ws.cell? ⟨rb, 1, none⟩ = some (.string ⟨#[]⟩) := cell_of_block NS.out 1
        have k2 : ws.cell? ⟨rb, 2, none⟩ = some (.slice none 0 0) := cell_of_block NS.out 2
        have z0 := free_of_block NS.out 0
        have z1 := free_of_block NS.out 1
        have z2 := free_of_block NS.out 2
        go_wp2
        refine bodyPost_ret (v := .tuple #[.agg #[.string ⟨#[]⟩, .string ⟨#[]⟩, .slice none 0 0], .int .i64 11]) (by simp [results, Tryz.results30, go_sem, k0, k1, k2]) rfl ?_
        rw [HN.out]
        exact ⟨gr_set_new (gr_set_new (gr_set_new GZ.out HLE.out) HLE.out) HLE.out, .slice none 0 0, rfl, none, 0, rfl, .inl rfl⟩
      | false =>
      obtain ⟨s0, s1, s2, s3, s4⟩ := ElB.cells ES.out
      by_cases hq : 0 < q'.len
      · have HN := hid (show R = (Ca.zero, 11) by
          rw [HV.out]
          simp only [ne_eq, not_true_eq_false, if_false]
          unfold decE
          dsimp only
          rw [hA.out]
          simp [argL, hN', hq])
        have GZ := GS
        have hq1 : (0 : Int) < (q'.len : Int) := by omega
        clear hN' hA HV hq
        generalize (fndA acc n').getD [] = fv
        have k0 : ws.cell? ⟨rb, 0, none⟩ = some (.string ⟨#[]⟩) := cell_of_block NS.out 0
        have k1 : ws.cell? ⟨rb, 1, none⟩ = some (.string ⟨#[]⟩) := cell_of_block NS.out 1
        have k2 : ws.cell? ⟨rb, 2, none⟩ = some (.slice none 0 0) := cell_of_block NS.out 2
        have z0 := free_of_block NS.out 0
        have z1 := free_of_block NS.out 1
        have z2 := free_of_block NS.out 2
        go_wp2
        refine bodyPost_ret (v := .tuple #[.agg #[.string ⟨#[]⟩, .string ⟨#[]⟩, .slice none 0 0], .int .i64 11]) (by simp [results, Tryz.results30, go_sem, k0, k1, k2]) rfl ?_
        rw [HN.out]
        exact ⟨gr_set_new (gr_set_new (gr_set_new GZ.out HLE.out) HLE.out) HLE.out, .slice none 0 0, rfl, none, 0, rfl, .inl rfl⟩
      · have hq0 : q'.len = 0 := by omega
        have HA2 := hid (show argL ek [] = argL (ek.drop (k + 1)) (acc ++ [(n', t')]) by
          rw [hA.out]
          simp [argL, hN', hq0])
        rw [hq0] at s4
        have p2 : ws.cell? ⟨cb, 2, none⟩ = some (.slice vaA acc.length vaC) := cell_of_block CS.out 2
        have gb := World.grownBy_alloc ws (.cells #[.string ⟨n'.toArray⟩, .string ⟨t'.toArray⟩] tArg) none
        have OB := hid (own_growG OS.out gb)
        have CB := hid (gr_keep gb CS.out (by simp))
        have NB := hid (gr_keep gb NS.out (by simp))
        have HB := hid (gr_trans HS.out (gr_none gb))
        have HLB := hid (show w4.heap.size ≤ (ws.alloc (.cells #[.string ⟨n'.toArray⟩, .string ⟨t'.toArray⟩] tArg)).heap.size from HB.out.size)
        have SB := hid (duo_src (w := ws) (a := (n', t')) (t := tArg))
        clear hN' hA hq hq0 gb
        generalize (fndA acc n').getD [] = fv
        go_wp2_with (at_builtin; refine wpl_appG rfl _ _ 44 rfl (size := 2) (bytes := 32) Tryz.underlying44 hi hz0 hz1 hz2 rfl (by decide) rfl OB.out rfl (m := 1) (news := duo [(n', t')]) rfl SB.out (duo_one _) (by unfold maxLen; omega) (by omega) HLB.out ?_; intro v3 w6 h3 g3 _; obtain ⟨a3, c3, rfl⟩ := own_shapeG h3; have C6 := hid (gr_keep g3 CB.out (by intro e; have h1 := (OB.out.lt cb e.symm).1; have h2 := Z4.out; omega)); have q2 : w6.cell? ⟨cb, 2, none⟩ = some (.slice vaA acc.length vaC) := cell_of_block C6.out 2; have y2 := free_of_block C6.out 2; have G6 := hid (gr_own HB.out OB.out (Nat.le_refl _) g3); have O6 := hid h3; clear g3 h3)
        go_roundw
        case rel =>
          refine ⟨k + 1, acc ++ [(n', t')], .slice a3 (acc.length + 1) c3, by go_num, by omega, by simp; omega, hid (gr_set G6.out), hid (heap_set (o := 2) (v := .slice a3 (acc.length + 1) c3) C6.out), ?_, HA2⟩
          have := own_setB (b := cb) (i := 2) (x := .slice a3 (acc.length + 1) c3) O6.out (by have := Z4.out; omega)
          rw [← duo_app] at this
          rw [List.length_append]
          exact hid this
        case measure => simp [intOf]; omega
    · obtain rfl : k = ek.len := by omega
      rw [Fo.drop_len] at hA
      have HA := hid (show argL ek [] = some acc from hA.out)
      have AR := hid (args_own hO.out)
      obtain ⟨vaA, vaC, rfl⟩ := own_shapeG hO.out
      have p0 : wr.cell? ⟨cb, 0, none⟩ = some (.string ⟨es.toArray⟩) := cell_of_block hC.out 0
      have p1 : wr.cell? ⟨cb, 1, none⟩ = some (.string ⟨en.toArray⟩) := cell_of_block hC.out 1
      have p2 : wr.cell? ⟨cb, 2, none⟩ = some (.slice vaA acc.length vaC) := cell_of_block hC.out 2
      have GZ := GR
      have hD : R = if decide (es = []) || decide (16 < acc.length) then (Ca.zero, 11) else ((es, en, acc), 0) := by
        rw [HV.out]
        simp only [ne_eq, not_true_eq_false, if_false]
        unfold decE
        dsimp only
        rw [HA.out]
      have HD := hid hD
      clear hD HA hA hlt HV gr hk
      by_cases he : es = []
      · subst he
        have HN := hid (show R = (Ca.zero, 11) by rw [HD.out]; rfl)
        clear HD
        have k0 : wr.cell? ⟨rb, 0, none⟩ = some (.string ⟨#[]⟩) := cell_of_block NR.out 0
        have k1 : wr.cell? ⟨rb, 1, none⟩ = some (.string ⟨#[]⟩) := cell_of_block NR.out 1
        have k2 : wr.cell? ⟨rb, 2, none⟩ = some (.slice none 0 0) := cell_of_block NR.out 2
        have z0 := free_of_block NR.out 0
        have z1 := free_of_block NR.out 1
        have z2 := free_of_block NR.out 2
        go_wp2
        refine bodyPost_ret (v := .tuple #[.agg #[.string ⟨#[]⟩, .string ⟨#[]⟩, .slice none 0 0], .int .i64 11]) (by simp [results, Tryz.results30, go_sem, k0, k1, k2]) rfl ?_
        rw [HN.out]
        exact ⟨gr_set_new (gr_set_new (gr_set_new GZ.out HLE.out) HLE.out) HLE.out, .slice none 0 0, rfl, none, 0, rfl, .inl rfl⟩
      · have e1 : es.isEmpty = false := by cases es with
          | nil => exact absurd rfl he
          | cons => rfl
        by_cases h16 : 16 < acc.length
        · have HN := hid (show R = (Ca.zero, 11) by rw [HD.out, decide_eq_true h16, Bool.or_true]; rfl)
          have h16' : (16 : Int) < (acc.length : Int) := by omega
          clear HD he h16
          have k0 : wr.cell? ⟨rb, 0, none⟩ = some (.string ⟨#[]⟩) := cell_of_block NR.out 0
          have k1 : wr.cell? ⟨rb, 1, none⟩ = some (.string ⟨#[]⟩) := cell_of_block NR.out 1
          have k2 : wr.cell? ⟨rb, 2, none⟩ = some (.slice none 0 0) := cell_of_block NR.out 2
          have z0 := free_of_block NR.out 0
          have z1 := free_of_block NR.out 1
          have z2 := free_of_block NR.out 2
          go_wp2
          refine bodyPost_ret (v := .tuple #[.agg #[.string ⟨#[]⟩, .string ⟨#[]⟩, .slice none 0 0], .int .i64 11]) (by simp [results, Tryz.results30, go_sem, k0, k1, k2]) rfl ?_
          rw [HN.out]
          exact ⟨gr_set_new (gr_set_new (gr_set_new GZ.out HLE.out) HLE.out) HLE.out, .slice none 0 0, rfl, none, 0, rfl, .inl rfl⟩
        · have HN := hid (show R = ((es, en, acc), 0) by rw [HD.out, decide_eq_false he, decide_eq_false h16]; rfl)
          have h16' : ¬ (16 : Int) < (acc.length : Int) := by omega
          clear HD he h16
          have k0 : wr.cell? ⟨rb, 0, none⟩ = some (.string ⟨#[]⟩) := cell_of_block NR.out 0
          have k1 : wr.cell? ⟨rb, 1, none⟩ = some (.string ⟨#[]⟩) := cell_of_block NR.out 1
          have k2 : wr.cell? ⟨rb, 2, none⟩ = some (.slice none 0 0) := cell_of_block NR.out 2
          have z0 := free_of_block NR.out 0
          have z1 := free_of_block NR.out 1
          have z2 := free_of_block NR.out 2
          go_wp2
          refine bodyPost_ret (v := .tuple #[.agg #[.string ⟨es.toArray⟩, .string ⟨en.toArray⟩, .slice vaA acc.length vaC], .int .i64 0]) (by simp [results, Tryz.results30, go_sem, k0, k1, k2]) rfl ?_
          rw [HN.out]
          have hrb : rb < w4.heap.size := by have := HRC.out; have := Z4.out; omega
          exact ⟨gr_set_new (gr_set_new (gr_set_new GZ.out HLE.out) HLE.out) HLE.out, _, rfl, args_own (own_setB (own_setB (own_setB hO.out hrb) hrb) hrb)⟩
end Go.Proofs.YtmofnoconhgjmaaGreatDoor
