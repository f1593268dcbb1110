/- Regions that draw their order, with many operations: frames by a law, not by the kernel. It speaks of no program. -/
import Derived.Test.YtfceodbpkghkaaaDoorReg
namespace Go.Proofs.YtfceodbpkghkaaaDoor
open Go.RowKit

theorem put_comm (a : Act) {s t : Tmp} (h : s ≠ t) (v w : Value) : (a.put (some s) v).put (some t) w = (a.put (some t) w).put (some s) v := by
  unfold Act.put
  dsimp only
  congr 1
  exact Array.setIfInBounds_comm _ _ h
theorem put_put (a : Act) (s : Tmp) (v w : Value) : (a.put (some s) v).put (some s) w = a.put (some s) w := by
  unfold Act.put
  dsimp only
  rw [Array.setIfInBounds_setIfInBounds]
def fillK (u : Nat → Value) (a : Act) (ds : List (Option Tmp)) (k : Nat) : Act := (ds.zipIdx k).foldl (fun a x => a.put x.1 (u x.2)) a
theorem fillK_cons (u : Nat → Value) (a : Act) (d : Option Tmp) (ds : List (Option Tmp)) (k : Nat) : fillK u a (d :: ds) k = fillK u (a.put d (u k)) ds (k + 1) := rfl
theorem fillK_out (u : Nat → Value) (s : Tmp) (v : Value) : ∀ (ds : List (Option Tmp)) (k : Nat) (a : Act), (∀ d ∈ ds, d ≠ some s ∧ d ≠ none) → (fillK u a ds k).put (some s) v = fillK u (a.put (some s) v) ds k
  | [], _, _, _ => rfl
  | d :: ds, k, a, h => by
    rw [fillK_cons, fillK_cons, fillK_out u s v ds (k + 1) _ (fun e he => h e (List.mem_cons_of_mem _ he))]
    obtain ⟨h1, h2⟩ := h d (List.mem_cons_self ..)
    cases d with
    | none => exact absurd rfl h2
    | some t => rw [put_comm a (fun e => h1 (by rw [e]))]
theorem fillK_congr {u u' : Nat → Value} : ∀ (ds : List (Option Tmp)) (k : Nat) (a : Act), (∀ i, k ≤ i → u i = u' i) → fillK u a ds k = fillK u' a ds k
  | [], _, _, _ => rfl
  | d :: ds, k, a, h => by
    rw [fillK_cons, fillK_cons, h k (Nat.le_refl _)]
    exact fillK_congr ds (k + 1) _ (fun i hi => h i (by omega))
theorem fillK_put (u : Nat → Value) (v : Value) : ∀ (ds : List (Option Tmp)) (k i : Nat) (a : Act), ds.Nodup → none ∉ ds → i < ds.length → (fillK u a ds k).put (ds.getD i none) v = fillK (upd u (k + i) v) a ds k
  | [], _, _, _, _, _, h => by simp at h
  | d :: ds, k, 0, a, hn, h0, _ => by
    obtain ⟨hd, hn'⟩ := List.nodup_cons.1 hn
    cases d with
    | none => exact absurd (List.mem_cons_self ..) h0
    | some t =>
      show (fillK u (a.put (some t) (u k)) ds (k + 1)).put (some t) v = fillK (upd u k v) (a.put (some t) (upd u k v k)) ds (k + 1)
      rw [fillK_out u t v ds (k + 1) _ (fun e he => ⟨fun e2 => hd (by rw [← e2]; exact he), fun e2 => h0 (by rw [← e2]; exact List.mem_cons_of_mem _ he)⟩), put_put, upd_same]
      exact fillK_congr ds (k + 1) _ (fun i hi => (upd_other u v (by omega)).symm)
  | d :: ds, k, i + 1, a, hn, h0, hi => by
    obtain ⟨hd, hn'⟩ := List.nodup_cons.1 hn
    show (fillK u (a.put d (u k)) ds (k + 1)).put (ds.getD i none) v = fillK (upd u (k + (i + 1)) v) (a.put d (upd u (k + (i + 1)) v k)) ds (k + 1)
    rw [fillK_put u v ds (k + 1) i _ hn' (fun h => h0 (List.mem_cons_of_mem _ h)) (by simpa using hi), upd_other u v (show k ≠ k + (i + 1) by omega), show k + 1 + i = k + (i + 1) by omega]
def goodB (ds : List (Option Tmp)) : Bool := decide (ds.Nodup) && !(ds.contains none)
theorem fill_put (a : Act) (ds : List (Option Tmp)) (h : goodB ds = true) (i : Nat) (hi : i < ds.length) (u : Nat → Value) (v : Value) : (fill a ds u).put (ds.getD i none) v = fill a ds (upd u i v) := by
  unfold goodB at h
  rw [Bool.and_eq_true] at h
  have := fillK_put u v ds 0 i a (of_decide_eq_true h.1) (by simpa using h.2) hi
  rw [Nat.zero_add] at this
  exact this
section
variable {P : Program} {Q : Exit → Act → World → Prop}
/-- As wp_region_spec2. -/
theorem wp_region_spec5 {id : Nat} {a0 : Act} {w0 : World} {l : List Oper} (hm : P.follows .mixedOrders = true) (hfw : fwdB .any l.toArray = true) {n : Nat} (hn : l.toArray.size = n)
    (ds : List (Option Tmp)) (hds : dstB l.toArray ds = true) (F : (Nat → Value) → Act) (hF : ∀ u, fill a0 ds u = F u)
    (h0 : a0 = fill a0 ds (fun i => a0.tmps.getD ((ds.getD i none).getD 0) undef)) (hgood : goodB ds = true) (hlen : ds.length = n)
    (S : Nat → Value → World → Prop) (hmono : AllLt n fun i => ∀ v w w', S i v w → w.grownBy w' none → S i v w')
    (deps : List (List Nat)) (hdeps : depsB .any l.toArray deps = true) (hobl : OblL P l.toArray Q F S deps w0 0 l)
    (hdone : ∀ u w, (∀ i, i < n → S i (u i) w) → w0.grownBy w none → Q .normal (F u) w) : (Code.region id l.toArray true).wp P Q a0 w0 :=
  wp_region_spec2 hm hfw hn ds hds F hF h0 (fun i hi u v => fill_put a0 ds hgood i (by omega) u v) S hmono deps hdeps hobl hdone
end
end Go.Proofs.YtfceodbpkghkaaaDoor
