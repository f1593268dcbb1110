/- What GenaTells sees of one subscription, plainly. -/
import Derived.Test.YtfceodbpkghkaaaGreatDoorGmg
import Derived.Test.YtfceodbpkghkaaaGreatDoorGmc
import Derived.Test.YtfceodbpkghkaaaGreatDoorMS
import Derived.Test.YtfceodbpkghkaaaGreatDoorGn8
import Derived.Test.YtfceodbpkghkaaaGreatDoorArg
namespace Go.Proofs.YtfceodbpkghkaaaGreatDoor
open Go.RowKit
set_option linter.unusedVariables false
set_option linter.unusedSimpArgs false

def cbT : Gs := [60, 104, 116, 116, 112, 58, 47, 47, 49, 46, 50, 46, 51, 46, 52, 47, 101, 62]
theorem cbT_is : cbL cbT = some (16909060, 80, [47, 101]) := by decide +kernel
theorem tells_first (a b : Nat) : subsL 3 [] [(kNt, kEvent), (kCall, cbT)] 16909060 0 a b = ([⟨sidL a b, 16909060, 80, [47, 101], 0, 1800, false, 0, []⟩], 200, grantL (sidL a b) 1800) := by
  rw [subsL_new (by decide), show getL [(kNt, kEvent), (kCall, cbT)] kNt = [kEvent] by decide, show getL [(kNt, kEvent), (kCall, cbT)] kCall = [cbT] by decide]
  simp only [if_true, cbT_is]
  rw [if_neg (by decide), if_neg (by simp [findL]), show secsL [(kNt, kEvent), (kCall, cbT)] = 1800 by decide]
  rfl
theorem tells_renew (x : Sb) (s : Gs) (h : x.sid = s) (hh : x.host = 16909060) (now a b : Nat) : subsL 3 [x] [(kSid, s)] 16909060 now a b = ([{ x with ends := laterL now 1800 }], 200, grantL x.sid 1800) := by
  have e1 : getL [(kSid, s)] kSid = [s] := by simp [getL]
  have e2 : getL [(kSid, s)] kNt = [] := by simp [getL, kSid, kNt]
  have e3 : getL [(kSid, s)] kCall = [] := by simp [getL, kSid, kCall]
  have e4 : secsL [(kSid, s)] = 1800 := by unfold secsL; rw [show getL [(kSid, s)] kTime = [] by simp [getL, kSid, kTime]]
  have e5 : findL [x] s = 0 := by unfold findL; rw [if_pos h]
  rw [subsL_sid e1, e2, e3, e4, e5, if_neg (by simp)]
  simp [hh]
theorem told_no {x : Sb} {now : Nat} {vars : Gp} (h : dueB now vars x = false) : toldL [x] now vars = [x] ∧ ([x] : List Sb)[nextL [x] now vars]? = none := by
  have e : nextL [x] now vars = 1 := by unfold nextL; rw [List.takeWhile_cons_of_pos (by simp [h])]; rfl
  unfold toldL
  rw [e]
  exact ⟨rfl, rfl⟩
theorem told_yes {x : Sb} {now : Nat} {vars : Gp} (h : dueB now vars x = true) : toldL [x] now vars = [{ x with busy := true, last := vars }] ∧ ([x] : List Sb)[nextL [x] now vars]? = some x := by
  have e : nextL [x] now vars = 0 := by unfold nextL; rw [List.takeWhile_cons_of_neg (by simp [h])]; rfl
  unfold toldL
  rw [e]
  exact ⟨rfl, rfl⟩
theorem done_one (x : Sb) (now : Nat) (h : x.busy = true) : doneL [x] x.sid true now = [{ x with busy := false, ready := laterL now 1, seq := if x.seq = 4294967295 then 1 else x.seq + 1 }] := by
  have e5 : findL [x] x.sid = 0 := by unfold findL; rw [if_pos rfl]
  unfold doneL
  rw [e5]
  simp [h]
theorem news_one (x : Sb) (y : Gs × Gs) (h : y ∉ x.last) : newsL x [y] = [y] := by
  unfold newsL; simp [h]
def kV : Gs := [86]
theorem args_one {w : World} {g : Nat} {n v : Gs} (h : w.heap[g]? = some (.cells #[.string ⟨n.toArray⟩, .string ⟨v.toArray⟩] 58 (0, 0))) (c : Nat) : ArgsAt w (.slice (some ⟨g, 0, none⟩) 1 c) [(n, v)] :=
  ⟨_, c, rfl, .inr ⟨g, 0, rfl, fun i hi => by
    obtain rfl : i = 0 := by simpa using hi
    exact ⟨(cell_of_block h 0).trans rfl, (cell_of_block h 1).trans rfl⟩⟩⟩
theorem fs_one {w : World} {g : Nat} {a b : Gs} (h : w.heap[g]? = some (.cells #[.string ⟨a.toArray⟩, .string ⟨b.toArray⟩] 47 (0, 0))) : FsAt w (.slice (some ⟨g, 0, none⟩) 1 1) [(a, b)] :=
  .inr ⟨g, 1, _, rfl, h, Nat.le_refl _, by simp [maxLen], rfl, by simp⟩
/-- A row of strings that came in. -/
def StrsAt (w : World) (a : Option Addr) (len : Nat) (vs : Nat → ByteArray) : Prop := len = 0 ∨ ∃ b o, a = some ⟨b, o, none⟩ ∧ ∀ i, i < len → w.cell? ⟨b, o + i, none⟩ = some (.string (vs i))
theorem StrsAt.kt {T : TypeId → Bool} {N : Nat} {w w' : World} {a : Option Addr} {len : Nat} {vs : Nat → ByteArray} (h : StrsAt w a len vs) (k : KT T N w w') (hN : w.heap.size ≤ N) : StrsAt w' a len vs := by
  rcases h with h | ⟨b, o, rfl, h⟩
  · exact .inl h
  · refine .inr ⟨b, o, rfl, fun i hi => k.cell_low (h i hi) ?_⟩
    have := World.block_lt_of_cell? w _ (h i hi)
    simp only at this ⊢
    omega
theorem IsRow.kt {T : TypeId → Bool} {N : Nat} {k : IntKind} {w w' : World} {a : Option Addr} {len cap : Nat} {zs : List Int} (h : IsRow k w a len cap zs) (kt : KT T N w w') (hN : w.heap.size ≤ N) : IsRow k w' a len cap zs := h.grown (kt.gr hN)
/-- What holds of the one subscription between two rounds. -/
structure OneSub (a b now sq : Nat) (last : Gp) (x : Sb) : Prop where
  sid : x.sid = sidL a b
  host : x.host = 16909060
  seq : x.seq = sq
  busy : x.busy = false
  ready : x.ready ≤ now
  last : x.last = last
/-- The row of subscriptions that holds one. -/
def OneAt (w : World) (N B : Nat) (x : Sb) : Prop := ∃ d, PAt w N (fun _ => True) B [(d, x)] 3
theorem OneAt.of_all {w : World} {N B : Nat} {x : Sb} (h : PAll w N (fun _ => True) B [x] 3) : OneAt w N B x := by
  obtain ⟨E, hE, hP⟩ := h
  match E, hE with
  | [e], hE =>
    obtain rfl : e.2 = x := by simpa using hE
    exact ⟨e.1, hP⟩
theorem OneAt.grow {w w' : World} {N B : Nat} {x : Sb} (h : OneAt w N B x) (g : w.grownBy w' none) : OneAt w' N B x := by
  obtain ⟨d, h⟩ := h; exact ⟨d, h.grow g⟩
/-- What is known of the last value that was told. -/
def lastP (sq : Nat) (l : Gs) : Gp := if sq = 0 then [] else [(kV, l)]
end Go.Proofs.YtfceodbpkghkaaaGreatDoor
