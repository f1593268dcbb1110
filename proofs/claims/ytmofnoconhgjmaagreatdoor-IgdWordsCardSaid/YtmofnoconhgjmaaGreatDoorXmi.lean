/- xml: names, find. -/
import Derived.Test.YtmofnoconhgjmaaGreatDoorXmh
namespace Go.Proofs.YtmofnoconhgjmaaGreatDoor
open Go.RowKit
set_option linter.unusedVariables false
set_option linter.unusedSimpArgs false

def nsR (a : At) : Bs := if isNs a then nsOf a else []
set_option maxHeartbeats 1000000 in
theorem names_x (a : At) (w : World) :
    Calls Tryz.prog 221 #[.agg #[.string ⟨a.1.toArray⟩, .string ⟨a.2.1.toArray⟩, .string ⟨a.2.2.toArray⟩]] w fun e w' => e = .returned (.tuple #[str (nsR a), .bool (isNs a)]) ∧ w.grownBy w' none := by
  obtain ⟨p, n, v⟩ := a
  have HR := hid (show nsR (p, n, v) = if isNs (p, n, v) then (if p = nsT then n else []) else [] from rfl)
  have HI := hid (show isNs (p, n, v) = (decide (p = nsT) || (decide (p = []) && decide (n = nsT))) from rfl)
  generalize nsR (p, n, v) = R at *
  generalize isNs (p, n, v) = I at *
  simp only
  by_cases h1 : p = nsT
  · have q1 : (p == [120, 109, 108, 110, 115]) = true := by rw [h1]; rfl
    have eI := hid (show I = true by rw [HI.out, decide_eq_true h1]; rfl)
    have eR := hid (show R = n by rw [HR.out, eI.out, if_pos rfl, if_pos h1])
    clear h1
    go_enter Tryz.func221, Tryz.ntmps221
    go_wp2
    ((try simp only [Exit.inBlock, Exit.then]); refine bodyPost_ret (results_tmp2 rfl _ _ _) rfl ?_)
    rw [eR.out, eI.out]
    exact ⟨rfl, gr_alloc (gr_refl _ _) _⟩
  · have q1 : (p == [120, 109, 108, 110, 115]) = false := by rw [beq_dec, decide_eq_false]; exact h1
    by_cases h2 : p = []
    · have q2 : p.isEmpty = true := by rw [h2]; rfl
      by_cases h3 : n = nsT
      · have q3 : (n == [120, 109, 108, 110, 115]) = true := by rw [h3]; rfl
        have eI := hid (show I = true by rw [HI.out, decide_eq_true h2, decide_eq_true h3]; simp)
        have eR := hid (show R = [] by rw [HR.out, eI.out, if_pos rfl, if_neg h1])
        clear h1 h2 h3
        go_enter Tryz.func221, Tryz.ntmps221
        go_wp2
        ((try simp only [Exit.inBlock, Exit.then]); refine bodyPost_ret (results_tmp2 rfl _ _ _) rfl ?_)
        rw [eR.out, eI.out]
        exact ⟨rfl, gr_alloc (gr_refl _ _) _⟩
      · have q3 : (n == [120, 109, 108, 110, 115]) = false := by rw [beq_dec, decide_eq_false]; exact h3
        have eI := hid (show I = false by rw [HI.out, decide_eq_false h1, decide_eq_false h3]; simp)
        have eR := hid (show R = [] by rw [HR.out, eI.out]; rfl)
        clear h1 h2 h3
        go_enter Tryz.func221, Tryz.ntmps221
        go_wp2
        ((try simp only [Exit.inBlock, Exit.then]); refine bodyPost_ret (results_tmp2 rfl _ _ _) rfl ?_)
        rw [eR.out, eI.out]
        exact ⟨rfl, gr_alloc (gr_refl _ _) _⟩
    · have q2 : p.isEmpty = false := by
        cases p with
        | nil => exact absurd rfl h2
        | cons _ _ => rfl
      have eI := hid (show I = false by rw [HI.out, decide_eq_false h1, decide_eq_false h2]; simp)
      have eR := hid (show R = [] by rw [HR.out, eI.out]; rfl)
      clear h1 h2
      go_enter Tryz.func221, Tryz.ntmps221
      go_wp2
      ((try simp only [Exit.inBlock, Exit.then]); refine bodyPost_ret (results_tmp2 rfl _ _ _) rfl ?_)
      rw [eR.out, eI.out]
      exact ⟨rfl, gr_alloc (gr_refl _ _) _⟩
/-- Prefixes' spaces in memory, the later ones ahead. -/
def SpAt (w : World) : Value → List (Bs × Bs) → Prop
  | v, [] => v = .pointer none
  | v, x :: l => ∃ b u, v = .pointer (some ⟨b, 0, none⟩) ∧ w.heap[b]? = some (.cells #[str x.1, str x.2, u] 245 (0, 0)) ∧ SpAt w u l
theorem SpAt.grow {w w' : World} {v : Value} {l : List (Bs × Bs)} (h : SpAt w v l) (g : w.grownBy w' none) : SpAt w' v l := by
  induction l generalizing v with
  | nil => exact h
  | cons x l ih =>
    obtain ⟨b, u, rfl, hb, hu⟩ := h
    exact ⟨b, u, rfl, gr_keep g hb (by simp), ih hu⟩
theorem SpAt.kept {w w' : World} {v : Value} {l : List (Bs × Bs)} {k : Nat} {cs : Array Value} {T : TypeId} {r : Nat × Nat} (h : SpAt w v l) (g : w.grownBy w' (some k)) (hk : w.heap[k]? = some (.cells cs T r)) (hT : 245 ≠ T) : SpAt w' v l := by
  induction l generalizing v with
  | nil => exact h
  | cons x l ih =>
    obtain ⟨b, u, rfl, hb, hu⟩ := h
    exact ⟨b, u, rfl, gr_keep g hb (blk_ne hb hk hT), ih hu⟩
theorem SpAt.ptr {w : World} {v : Value} {l : List (Bs × Bs)} (h : SpAt w v l) : ∃ a, v = .pointer a := by
  cases l with
  | nil => exact ⟨none, h⟩
  | cons x l => obtain ⟨b, u, rfl, _⟩ := h; exact ⟨_, rfl⟩
def FindR (w : World) (R : Bs × Bs → Prop) (P : Bs) (v : Value) : Prop := True
theorem spcL_cons (x : Bs × Bs) (l : List (Bs × Bs)) (p : Bs) : spcL (x :: l) p = if x.1 = p then (x.2, true) else spcL l p := by
  unfold spcL
  by_cases h : x.1 = p
  · simp [List.find?_cons, h]
  · simp [List.find?_cons, h]
def spLen (w : World) : Nat → Value → Nat
  | 0, _ => 0
  | n + 1, .pointer (some a) => match w.cell? ⟨a.block, 2, none⟩ with
    | some u => spLen w n u + 1
    | none => 0
  | _, _ => 0
theorem spLen_of {w : World} {l : List (Bs × Bs)} : ∀ {n : Nat} {v : Value}, SpAt w v l → l.length ≤ n → spLen w n v = l.length := by
  induction l with
  | nil =>
    intro n v h _
    cases h
    cases n <;> rfl
  | cons x l ih =>
    intro n v h hn
    obtain ⟨b, u, rfl, hb, hu⟩ := h
    obtain ⟨n, rfl⟩ : ∃ k, n = k + 1 := ⟨n - 1, by simp only [List.length_cons] at hn; omega⟩
    unfold spLen
    rw [cell_of_block hb]
    show spLen w n u + 1 = _
    rw [ih hu (by simpa using hn)]; rfl
set_option maxHeartbeats 1000000 in
theorem find_x (v : Value) (bs : List (Bs × Bs)) (p : Bs) (w : World) (h : SpAt w v bs) :
    Calls Tryz.prog 222 #[v, .string ⟨p.toArray⟩] w fun e w' => e = .returned (.tuple #[str (spcL bs p).1, .bool (spcL bs p).2]) ∧ w = w' := by
  obtain ⟨R, hR⟩ : ∃ R, R = spcL bs p := ⟨_, rfl⟩
  rw [← hR]
  have HR := hid hR
  have H := hid h
  obtain ⟨va, rfl⟩ := h.ptr
  clear hR h
  go_enter Tryz.func222, Tryz.ntmps222
  go_wp2_with fail
  go_loop [0] (fun v0 => ∃ l, SpAt w v0 l ∧ Hid (R = spcL l p) ∧ l.length ≤ bs.length) (fun v0 => spLen w bs.length v0)
  case atStart => exact ⟨bs, H.out, HR.out, Nat.le_refl _⟩
  case round =>
    obtain ⟨l, hl, hr, hle⟩ := hrel
    have HL := hid (spLen_of hl hle)
    cases l with
    | nil =>
      cases hl
      have hfin := hid (show R = ([], decide (p = [])) from hr.out)
      have q1 : p.isEmpty = decide (p = []) := by cases p <;> rfl
      generalize decide (p = []) = d at *
      go_wp2
      ((try simp only [Exit.inBlock, Exit.then]); refine bodyPost_ret (results_tmp2 rfl _ _ _) rfl ?_)
      rw [hfin.out]
      exact ⟨rfl, rfl⟩
    | cons x l =>
      obtain ⟨b, u, rfl, hb, hu⟩ := hl
      have c0 := cell_of_block hb 0
      have c1 := cell_of_block hb 1
      have c2 := cell_of_block hb 2
      obtain ⟨x1, x2⟩ := x
      have c0' : w.cell? ⟨b, 0, none⟩ = some (.string ⟨x1.toArray⟩) := c0
      have c1' : w.cell? ⟨b, 1, none⟩ = some (.string ⟨x2.toArray⟩) := c1
      have c2' : w.cell? ⟨b, 2, none⟩ = some u := c2
      have HLU := hid (spLen_of (n := bs.length) hu (by simp only [List.length_cons] at hle; omega))
      have HU := hid hu
      have hr' := hr.out
      rw [spcL_cons] at hr'
      clear c0 c1 c2 hb hu hr
      by_cases hx : x1 = p
      · have q1 : (x1 == p) = true := by rw [beq_dec, decide_eq_true hx]
        have hfin := hid (show R = (x2, true) by rw [hr', if_pos hx])
        clear hx hr'
        go_wp2
        ((try simp only [Exit.inBlock, Exit.then]); refine bodyPost_ret (results_tmp2 rfl _ _ _) rfl ?_)
        rw [hfin.out]
        exact ⟨rfl, rfl⟩
      · have q1 : (x1 == p) = false := by rw [beq_dec, decide_eq_false hx]
        have hfin := hid (show R = spcL l p by rw [hr', if_neg hx])
        clear hx hr'
        go_wp2
        go_round
        case rel => exact ⟨l, HU.out, hfin, by simp only [List.length_cons] at hle; omega⟩
        case measure => rw [HLU.out, HL.out]; simp
end Go.Proofs.YtmofnoconhgjmaaGreatDoor
