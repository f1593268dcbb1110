/- head.Get of a reader's fields; rows of strings; http.keep. -/
import Derived.Test.YtldbcdiomkkinaaGreatDoorHt6
namespace Go.Proofs.YtldbcdiomkkinaaGreatDoor
open Go.RowKit

/-- A row of strings. -/
def SAt (w : World) (v : Value) (xs : List (List UInt8)) : Prop :=
  ∃ a cap, v = .slice a xs.length cap ∧ xs.length ≤ cap ∧ ∀ i x, xs[i]? = some x → ∃ g, a = some ⟨g, 0, none⟩ ∧ w.cell? ⟨g, i, none⟩ = some (str x)
theorem SAt.grow {w w' : World} {v : Value} {xs : List (List UInt8)} (h : SAt w v xs) (g : w.grownBy w' none) : SAt w' v xs := by
  obtain ⟨a, cap, rfl, h1, h2⟩ := h
  refine ⟨a, cap, rfl, h1, fun i x hx => ?_⟩
  obtain ⟨g0, e, hc⟩ := h2 i x hx
  exact ⟨g0, e, g.cell hc (by simp)⟩
theorem sat_of_own {w : World} {base : Nat} {v : Value} {xs : List (List UInt8)} (h : w.ownsRow base 9 1 v xs.length (xs.map str)) : SAt w v xs := by
  rcases Nat.eq_zero_or_pos xs.length with h0 | hp
  · obtain ⟨a, cap, rfl, hc⟩ := own_shape h
    refine ⟨a, cap, rfl, hc, fun i x hx => ?_⟩
    have := (List.getElem?_eq_some_iff.1 hx).1
    omega
  · obtain ⟨g, cap, rfl, hb, hc, hcell⟩ := own_cell h hp
    exact ⟨_, cap, rfl, hc, fun i x hx => ⟨g, rfl, hcell i (str x) (by rw [List.getElem?_map, hx]; rfl)⟩⟩
def fsN (fs : List (List UInt8 × List UInt8)) (i : Nat) : ByteArray := ⟨(fs.getD i ([], [])).1.toArray⟩
def fsV (fs : List (List UInt8 × List UInt8)) (i : Nat) : ByteArray := ⟨(fs.getD i ([], [])).2.toArray⟩
theorem flat_get (fs : List (List UInt8 × List UInt8)) : ∀ (i : Nat), i < fs.length → (fs.flatMap fun f => [str f.1, str f.2])[i * 2]? = some (str (fs.getD i ([], [])).1) ∧ (fs.flatMap fun f => [str f.1, str f.2])[i * 2 + 1]? = some (str (fs.getD i ([], [])).2) := by
  induction fs with
  | nil => intro i hi; simp at hi
  | cons f r ih =>
    intro i hi
    cases i with
    | zero => exact ⟨rfl, rfl⟩
    | succ i =>
      have := ih i (by simpa using hi)
      rw [show (i + 1) * 2 = i * 2 + 2 by omega, show i * 2 + 2 + 1 = i * 2 + 1 + 2 by omega]
      exact this
theorem FsAt.pairs {w : World} {a : Option Addr} {n c : Nat} {fs : List (List UInt8 × List UInt8)} (h : FsAt w (.slice a n c) fs) : PairsAt w a n (fsN fs) (fsV fs) := by
  rcases h with ⟨h, rfl⟩ | ⟨g, cap, cs, e, hh, h1, h2, h3, -⟩
  · cases h; exact .inl rfl
  · cases e
    refine .inr ⟨g, 0, rfl, fun i hi => ?_⟩
    obtain ⟨e1, e2⟩ := flat_get fs i hi
    rw [← h3, List.getElem?_take, if_pos (by omega)] at e1 e2
    constructor
    · have e1' : cs.toList[i * 2]? = some (Value.string (fsN fs i)) := e1
      simp only [World.cell?, hh, Nat.zero_add]; simpa using e1'
    · have e2' : cs.toList[i * 2 + 1]? = some (Value.string (fsV fs i)) := e2
      simp only [World.cell?, hh, Nat.zero_add]; simpa using e2'
theorem getN_list (name : List UInt8) (fs : List (List UInt8 × List UInt8)) : ∀ k, k ≤ fs.length → (getN (fsN fs) (fsV fs) ⟨name.toArray⟩ k).map Value.string = (getL (fs.take k) name).map str := by
  intro k
  induction k with
  | zero => intro _; simp [getN, getL]
  | succ k ih =>
    intro hk
    have ih' := ih (by omega)
    have hx : fs[k]? = some (fs.getD k ([], [])) := by rw [List.getD_eq_getElem?_getD, List.getElem?_eq_getElem (by omega)]; rfl
    have ht : fs.take (k + 1) = fs.take k ++ [fs.getD k ([], [])] := by rw [List.take_add_one, hx]; rfl
    rw [ht]
    unfold getN getL
    rw [List.filter_append, List.map_append, List.map_append]
    have he : (fsN fs k = ⟨name.toArray⟩) ↔ (fs.getD k ([], [])).1 = name := by
      unfold fsN
      constructor
      · intro h
        have := congrArg (fun b => b.data.toList) h
        simpa using this
      · intro h; rw [h]
    by_cases hn : (fs.getD k ([], [])).1 = name
    · rw [if_pos (he.2 hn), List.map_append, ih', show fsV fs k = ⟨(fs.getD k ([], [])).2.toArray⟩ from rfl]
      generalize fs.getD k ([], []) = f at hn
      rw [List.filter_cons_of_pos (by simpa using hn)]
      rfl
    · rw [if_neg (fun h => hn (he.1 h)), ih']
      generalize fs.getD k ([], []) = f at hn
      rw [List.filter_cons_of_neg (by simpa using hn)]
      simp [getL]
theorem get_fs (w : World) (v : Value) (fs : List (List UInt8 × List UInt8)) (name : List UInt8) (h : FsAt w v fs) (hl : fs.length ≤ 200000) :
    Calls Tryz.prog 67 #[v, .string ⟨name.toArray⟩] w fun e w' => ∃ v', e = .returned v' ∧ w'.ownsRow w.heap.size 9 1 v' (getL fs name).length ((getL fs name).map str) ∧ w.grownBy w' none := by
  obtain ⟨a, c, rfl⟩ := h.shape
  refine (get_any w a fs.length c (fsN fs) (fsV fs) ⟨name.toArray⟩ h.pairs hl).mono ?_
  rintro e w' ⟨v', rfl, hown, g⟩
  have hg := getN_list name fs fs.length (Nat.le_refl _)
  rw [List.take_length] at hg
  have hlen : (getN (fsN fs) (fsV fs) ⟨name.toArray⟩ fs.length).length = (getL fs name).length := by have := congrArg List.length hg; simpa using this
  rw [hg, hlen] at hown
  exact ⟨v', rfl, hown, g⟩
end Go.Proofs.YtldbcdiomkkinaaGreatDoor
