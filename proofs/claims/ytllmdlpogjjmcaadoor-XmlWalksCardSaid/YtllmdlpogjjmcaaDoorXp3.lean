/- Bounds of what the parser holds: kept by each step. It speaks of no program. -/
import Derived.Test.YtllmdlpogjjmcaaDoorXp2
namespace Go.Proofs.YtllmdlpogjjmcaaDoor
open Go.RowKit
set_option linter.unusedVariables false
set_option linter.unusedSimpArgs false

def sumK : List Fr → Nat
  | [] => 0
  | f :: S => f.kids.len + sumK S
/-- Each text is at most four times as long as what was read of it; elements are counted. -/
def Ma.ok (N : Nat) (m : Ma) : Prop := m.cnt + m.r.length ≤ N ∧ sumK m.st + m.st.length ≤ m.cnt ∧ ∀ f ∈ m.st, f.tx.length + 4 * m.r.length ≤ 4 * N
theorem sumK_mem {S : List Fr} {f : Fr} (h : f ∈ S) : f.kids.len ≤ sumK S := by
  induction S with
  | nil => cases h
  | cons g S ih =>
    unfold sumK
    rcases List.mem_cons.1 h with rfl | h
    · omega
    · have := ih h; omega
theorem unesc_len4 : ∀ (n : Nat) (s t : Bs), unesc n s = some t → t.length ≤ 4 * s.length := by
  intro n
  induction n with
  | zero => intro s t h; cases h
  | succ n ih =>
    intro s t h
    unfold unesc at h
    have h0 : (Lib.cut s [38]).1.length ≤ s.length := by
      unfold Lib.cut; split
      · simp only [List.length_take]; omega
      · simp
    split at h
    · rename_i h1
      have l1 := cut_lens h1
      split at h
      · rename_i h2
        have l2 := cut_lens h2
        simp only [List.length_cons, List.length_nil] at l1 l2
        obtain ⟨e, he, h⟩ := Option.bind_eq_some_iff.1 h
        obtain ⟨o, ho, rfl⟩ := Option.map_eq_some_iff.1 h
        have := entL_len he
        have := ih _ _ ho
        simp only [List.length_append]
        omega
      · cases h
    · cases h; omega
theorem unescA_len4 {s t : Bs} (h : unescA s = some t) : t.length ≤ 4 * s.length := unesc_len4 _ s t h
theorem Ma.ok.rest {N : Nat} {r r' : Bs} {S : List Fr} {cnt : Nat} {full : Bool} (h : Ma.ok N ⟨r, S, cnt, full⟩) (hl : r'.length ≤ r.length) : Ma.ok N ⟨r', S, cnt, full⟩ := by
  obtain ⟨h1, h2, h3⟩ := h
  simp only at h1 h2 h3
  exact ⟨by simp only; omega, h2, fun f hf => by have := h3 f hf; simp only; omega⟩
theorem Ma.ok.txt {N : Nat} {r r' t : Bs} {f : Fr} {S : List Fr} {cnt : Nat} {full : Bool} (h : Ma.ok N ⟨r, f :: S, cnt, full⟩) (hl : t.length + 4 * r'.length ≤ 4 * r.length) : Ma.ok N ⟨r', f.txt t :: S, cnt, full⟩ := by
  obtain ⟨h1, h2, h3⟩ := h
  simp only [sumK, List.length_cons] at h1 h2 h3
  refine ⟨by simp only; omega, by simp only [sumK, List.length_cons, Fr.txt]; omega, fun g hg => ?_⟩
  simp only
  rcases List.mem_cons.1 hg with rfl | hg
  · have := h3 f List.mem_cons_self
    simp only [Fr.txt, List.length_append]; omega
  · have := h3 g (List.mem_cons_of_mem _ hg)
    omega
theorem popL_ok {N : Nat} {r : Bs} {f : Fr} {S : List Fr} {cnt : Nat} {full : Bool} {e : El} {m : Ma} (h : Ma.ok N ⟨r, f :: S, cnt, full⟩) (hp : popL e r S cnt full = .inl m) : Ma.ok N m := by
  cases S with
  | nil => cases hp
  | cons G S =>
    cases hp
    obtain ⟨h1, h2, h3⟩ := h
    simp only [sumK, List.length_cons] at h1 h2 h3
    refine ⟨by simp only; omega, by simp only [sumK, List.length_cons, Fr.kid, Fo.len_snoc]; omega, fun g hg => ?_⟩
    simp only
    rcases List.mem_cons.1 hg with rfl | hg
    · have := h3 G (List.mem_cons_of_mem _ List.mem_cons_self)
      simp only [Fr.kid]; omega
    · exact h3 g (List.mem_cons_of_mem _ (List.mem_cons_of_mem _ hg))
theorem elemL_new {p n : Bs} {l : List At} {up : List (Bs × Bs)} {f : Fr} (h : elemL p n l up = some f) : f.kids = .nil ∧ f.tx = [] := by
  unfold elemL at h
  split at h
  · cases h; exact ⟨rfl, rfl⟩
  · cases h
theorem beginL_new {up : List (Bs × Bs)} {r r' : Bs} {f : Fr} {b : Bool} {k : Nat} (h : beginL up r = some (f, b, r', k)) : f.kids = .nil ∧ f.tx = [] := by
  unfold beginL at h
  split at h
  · split at h
    · cases h
    · obtain ⟨x, hx, e⟩ := Option.map_eq_some_iff.1 h
      cases e
      exact elemL_new hx
  · cases h
theorem push_ok {N : Nat} {r r' : Bs} {f : Fr} {S : List Fr} {cnt : Nat} {full full' : Bool} (h : Ma.ok N ⟨r, S, cnt, full⟩) (hl : r'.length < r.length) (hk : f.kids = .nil) (ht : f.tx = []) : Ma.ok N ⟨r', f :: S, cnt + 1, full'⟩ := by
  obtain ⟨h1, h2, h3⟩ := h
  simp only at h1 h2 h3
  refine ⟨by simp only; omega, by simp only [sumK, List.length_cons, hk, Fo.len]; omega, fun g hg => ?_⟩
  simp only
  rcases List.mem_cons.1 hg with rfl | hg
  · rw [ht]; simp only [List.length_nil]; omega
  · have := h3 g hg; omega
theorem stepBegin_ok {N : Nat} {up : List (Bs × Bs)} {r : Bs} {S : List Fr} {cnt : Nat} {full : Bool} {m : Ma} (h : Ma.ok N ⟨r, S, cnt, full⟩) (hs : stepBegin up r S cnt full = some (.inl m)) : Ma.ok N m := by
  unfold stepBegin at hs
  split at hs
  · cases hs
  · rename_i g emp r' k hb
    have hl := beginL_len hb
    obtain ⟨hk, ht⟩ := beginL_new hb
    have hp := push_ok (full' := fullB full (cnt + 1) (S.length + 1) k) h hl hk ht
    simp only [Option.some.injEq] at hs
    split at hs
    · exact popL_ok hp hs
    · cases hs; exact hp
theorem stepL_ok {N : Nat} {r : Bs} {f : Fr} {S : List Fr} {cnt : Nat} {full : Bool} {m : Ma} (h : Ma.ok N ⟨r, f :: S, cnt, full⟩) (hs : stepL r f S cnt full = some (.inl m)) : Ma.ok N m := by
  unfold stepL at hs
  split at hs
  · rename_i h1
    have := trimP_len h1
    have := cut_len (Lib.trimPrefix r noteO) noteC
    split at hs
    · cases hs; exact h.rest (by omega)
    · cases hs
  split at hs
  · rename_i h1
    have := trimP_len h1
    split at hs
    · rename_i h2
      have := cut_lens h2
      cases hs; exact h.txt (by omega)
    · cases hs
  split at hs
  · rename_i h1
    have := trimP_len h1
    obtain ⟨r', h2, hp⟩ := Option.map_eq_some_iff.1 hs
    have := endL_len h2
    exact popL_ok (h.rest (by omega)) hp
  split at hs
  · rename_i h1
    have := trimP_len h1
    exact stepBegin_ok (h.rest (r' := Lib.trimPrefix r [60]) (by omega)) hs
  rename_i h4
  split at hs
  · cases hs
  · rename_i h5
    obtain ⟨t, h2, hm⟩ := Option.map_eq_some_iff.1 hs
    cases hm
    have h6 := index_pos (by simpa using h4) h5
    have h7 := unescA_len4 h2
    rw [List.length_take] at h7
    exact h.txt (by rw [List.length_drop]; omega)
end Go.Proofs.YtllmdlpogjjmcaaDoor
