/- A map of integers to texts that the call makes: what is put in is found. -/
import Derived.Test.YtldbcdiomkkinaaGreatDoorMA
import Derived.MapKept
namespace Go.Proofs.YtldbcdiomkkinaaGreatDoor
open Go.RowKit

/-- A map of integers to texts, by its pairs. -/
def MapAt (w : World) (r : Nat) (ps : List (Int × List UInt8)) : Prop :=
  ∃ es clock, w.heap[r]? = some (.map es clock) ∧ es.toList.map (fun e => (e.key, e.val)) = ps.map (fun p => (Value.int .i64 p.1, str p.2))
theorem map_new {w w' : World} (h : w'.heap[w.heap.size]? = some (.map #[] 0)) : MapAt w' w.heap.size [] := ⟨_, _, h, rfl⟩
theorem findNow_ints (D : IntKind) (n : Int) : ∀ (es : List MapEntry) (ps : List (Int × List UInt8)) (i : Nat), es.map (fun e => (e.key, e.val)) = ps.map (fun p => (Value.int .i64 p.1, str p.2)) →
    ∃ r, Instr.findNow (.int D) (.int .i64 n) es i = some r ∧ r.map (·.2) = (ps.find? (fun p => n == p.1)).map (fun p => str p.2)
  | [], ps, i, h => by
    obtain rfl : ps = [] := by cases ps with | nil => rfl | cons p ps => simp at h
    exact ⟨none, rfl, rfl⟩
  | e :: es, [], i, h => by simp at h
  | e :: es, p :: ps, i, h => by
    simp only [List.map_cons, List.cons.injEq, Prod.mk.injEq] at h
    obtain ⟨⟨h1, h2⟩, h3⟩ := h
    have ih := findNow_ints D n es ps (i + 1) h3
    unfold Instr.findNow
    rw [h1]
    unfold Instr.sameNow
    dsimp only
    rw [if_pos rfl]
    by_cases hn : n = p.1
    · subst hn
      simp only [beq_self_eq_true, List.find?_cons]
      exact ⟨_, rfl, by simp [h2]⟩
    · have hf : (n == p.1) = false := by simpa using hn
      simp only [hf, List.find?_cons]
      exact ih
theorem run_mput {P : Program} {t kt et : TypeId} {w : World} {r : Nat} {ps : List (Int × List UInt8)} (ht : P.underlying t = some (.map kt et)) (hk : P.underlying kt = some (.int .i64)) (h : MapAt w r ps) (n : Int) (s : List UInt8) (hn : ps.find? (fun p => n == p.1) = none) :
    ∃ w', (Instr.mapUpdate t (.map (some r)) (.int .i64 n) (.string ⟨s.toArray⟩)).run P w = .ok () w' ∧ MapAt w' r (ps ++ [(n, s)]) ∧ w.grownBy w' (some r) := by
  obtain ⟨es, clock, hb, he⟩ := h
  obtain ⟨f, h1, h2⟩ := findNow_ints .i64 n es.toList ps 0 he
  have hf : f = none := by
    rw [hn] at h2
    cases f with
    | none => rfl
    | some x => simp at h2
  subst hf
  refine ⟨{ w with heap := w.heap.setIfInBounds r (.map (es.push { key := .int .i64 n, val := .string ⟨s.toArray⟩, born := clock }) (clock + 1)) }, ?_, ⟨_, _, (Go.MapKept.heap_set hb).1, ?_⟩, ⟨rfl, rfl, rfl, by simp, fun k hk hne => (Go.MapKept.heap_set hb).2 k (fun e => hne (by rw [e]))⟩⟩
  · simp [Instr.mapUpdate, run_underlying ht, Go.MapKept.run_getObj_map hb, Go.MapKept.run_checkKey hk (k := .int .i64 n) rfl, Go.MapKept.run_findKey hk h1, Go.MapKept.run_setObj_map _ hb, Result.andThen]
  · simp [he, str]
def foundV (o : Option (Int × List UInt8)) : Value := match o with | some p => .tuple #[.string ⟨p.2.toArray⟩, .bool true] | none => .tuple #[.string ⟨#[]⟩, .bool false]
theorem run_mget {P : Program} {t kt et : TypeId} {w : World} {r : Nat} {ps : List (Int × List UInt8)} (ht : P.underlying t = some (.map kt et)) (hk : P.underlying kt = some (.int .i64)) (hz : ∀ w, (zeroValue et).run P w = .ok (.string ⟨#[]⟩) w) (h : MapAt w r ps) (n : Int) :
    (Instr.lookup t (.map (some r)) (.int .i64 n) true).run P w = .ok (foundV (ps.find? (fun p => n == p.1))) w := by
  obtain ⟨es, clock, hb, he⟩ := h
  obtain ⟨f, h1, h2⟩ := findNow_ints .i64 n es.toList ps 0 he
  cases f with
  | none =>
    cases hp : ps.find? (fun p => n == p.1) with
    | some p => rw [hp] at h2; simp at h2
    | none =>
      simp [Instr.lookup, run_underlying ht, Go.MapKept.run_getObj_map hb, Go.MapKept.run_checkKey hk (k := .int .i64 n) rfl, Go.MapKept.run_findKey hk h1, hz, Result.andThen, foundV]
  | some x =>
    cases hp : ps.find? (fun p => n == p.1) with
    | none => rw [hp] at h2; simp at h2
    | some p =>
      rw [hp] at h2
      obtain ⟨i, v⟩ := x
      have hv : v = str p.2 := by simpa using h2
      subst hv
      simp [Instr.lookup, run_underlying ht, Go.MapKept.run_getObj_map hb, Go.MapKept.run_checkKey hk (k := .int .i64 n) rfl, Go.MapKept.run_findKey hk h1, Result.andThen, foundV, str]
end Go.Proofs.YtldbcdiomkkinaaGreatDoor
