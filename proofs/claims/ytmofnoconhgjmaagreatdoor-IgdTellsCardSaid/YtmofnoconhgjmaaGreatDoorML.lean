/- Texts of one proof, put together: Reg5, Reg6, Reg8. -/
import Derived.Test.YtmofnoconhgjmaaGreatDoorMR
/- Regions that draw their order, with many operations: frames by a law, not by the kernel. It speaks of no program. -/
namespace Go.Proofs.YtmofnoconhgjmaaGreatDoor
open Go.RowKit

theorem put_comm (a : Act) {s t : Tmp} (h : s ≠ t) (v w : Value) : (a.put (some s) v).put (some t) w = (a.put (some t) w).put (some s) v := by
  unfold Act.put
  dsimp only
  congr 1
  exact Array.setIfInBounds_comm _ _ h
theorem put_put (a : Act) (s : Tmp) (v w : Value) : (a.put (some s) v).put (some s) w = a.put (some s) w := by
  unfold Act.put
  dsimp only
  rw [Array.setIfInBounds_setIfInBounds]
def fillK (u : Nat → Value) (a : Act) (ds : List (Option Tmp)) (k : Nat) : Act := (ds.zipIdx k).foldl (fun a x => a.put x.1 (u x.2)) a
theorem fillK_cons (u : Nat → Value) (a : Act) (d : Option Tmp) (ds : List (Option Tmp)) (k : Nat) : fillK u a (d :: ds) k = fillK u (a.put d (u k)) ds (k + 1) := rfl
theorem fillK_out (u : Nat → Value) (s : Tmp) (v : Value) : ∀ (ds : List (Option Tmp)) (k : Nat) (a : Act), (∀ d ∈ ds, d ≠ some s ∧ d ≠ none) → (fillK u a ds k).put (some s) v = fillK u (a.put (some s) v) ds k
  | [], _, _, _ => rfl
  | d :: ds, k, a, h => by
    rw [fillK_cons, fillK_cons, fillK_out u s v ds (k + 1) _ (fun e he => h e (List.mem_cons_of_mem _ he))]
    obtain ⟨h1, h2⟩ := h d (List.mem_cons_self ..)
    cases d with
    | none => exact absurd rfl h2
    | some t => rw [put_comm a (fun e => h1 (by rw [e]))]
theorem fillK_congr {u u' : Nat → Value} : ∀ (ds : List (Option Tmp)) (k : Nat) (a : Act), (∀ i, k ≤ i → u i = u' i) → fillK u a ds k = fillK u' a ds k
  | [], _, _, _ => rfl
  | d :: ds, k, a, h => by
    rw [fillK_cons, fillK_cons, h k (Nat.le_refl _)]
    exact fillK_congr ds (k + 1) _ (fun i hi => h i (by omega))
theorem fillK_put (u : Nat → Value) (v : Value) : ∀ (ds : List (Option Tmp)) (k i : Nat) (a : Act), ds.Nodup → none ∉ ds → i < ds.length → (fillK u a ds k).put (ds.getD i none) v = fillK (upd u (k + i) v) a ds k
  | [], _, _, _, _, _, h => by simp at h
  | d :: ds, k, 0, a, hn, h0, _ => by
    obtain ⟨hd, hn'⟩ := List.nodup_cons.1 hn
    cases d with
    | none => exact absurd (List.mem_cons_self ..) h0
    | some t =>
      show (fillK u (a.put (some t) (u k)) ds (k + 1)).put (some t) v = fillK (upd u k v) (a.put (some t) (upd u k v k)) ds (k + 1)
      rw [fillK_out u t v ds (k + 1) _ (fun e he => ⟨fun e2 => hd (by rw [← e2]; exact he), fun e2 => h0 (by rw [← e2]; exact List.mem_cons_of_mem _ he)⟩), put_put, upd_same]
      exact fillK_congr ds (k + 1) _ (fun i hi => (upd_other u v (by omega)).symm)
  | d :: ds, k, i + 1, a, hn, h0, hi => by
    obtain ⟨hd, hn'⟩ := List.nodup_cons.1 hn
    show (fillK u (a.put d (u k)) ds (k + 1)).put (ds.getD i none) v = fillK (upd u (k + (i + 1)) v) (a.put d (upd u (k + (i + 1)) v k)) ds (k + 1)
    rw [fillK_put u v ds (k + 1) i _ hn' (fun h => h0 (List.mem_cons_of_mem _ h)) (by simpa using hi), upd_other u v (show k ≠ k + (i + 1) by omega), show k + 1 + i = k + (i + 1) by omega]
def goodB (ds : List (Option Tmp)) : Bool := decide (ds.Nodup) && !(ds.contains none)
theorem fill_put (a : Act) (ds : List (Option Tmp)) (h : goodB ds = true) (i : Nat) (hi : i < ds.length) (u : Nat → Value) (v : Value) : (fill a ds u).put (ds.getD i none) v = fill a ds (upd u i v) := by
  unfold goodB at h
  rw [Bool.and_eq_true] at h
  have := fillK_put u v ds 0 i a (of_decide_eq_true h.1) (by simpa using h.2) hi
  rw [Nat.zero_add] at this
  exact this
section
variable {P : Program} {Q : Exit → Act → World → Prop}
/-- As wp_region_spec2. -/
theorem wp_region_spec5 {id : Nat} {a0 : Act} {w0 : World} {l : List Oper} (hm : P.follows .mixedOrders = true) (hfw : fwdB .any l.toArray = true) {n : Nat} (hn : l.toArray.size = n)
    (ds : List (Option Tmp)) (hds : dstB l.toArray ds = true) (F : (Nat → Value) → Act) (hF : ∀ u, fill a0 ds u = F u)
    (h0 : a0 = fill a0 ds (fun i => a0.tmps.getD ((ds.getD i none).getD 0) undef)) (hgood : goodB ds = true) (hlen : ds.length = n)
    (S : Nat → Value → World → Prop) (hmono : AllLt n fun i => ∀ v w w', S i v w → w.grownBy w' none → S i v w')
    (deps : List (List Nat)) (hdeps : depsB .any l.toArray deps = true) (hobl : OblL P l.toArray Q F S deps w0 0 l)
    (hdone : ∀ u w, (∀ i, i < n → S i (u i) w) → w0.grownBy w none → Q .normal (F u) w) : (Code.region id l.toArray true).wp P Q a0 w0 :=
  wp_region_spec2 hm hfw hn ds hds F hF h0 (fun i hi u v => fill_put a0 ds hgood i (by omega) u v) S hmono deps hdeps hobl hdone
end
end Go.Proofs.YtmofnoconhgjmaaGreatDoor
/- Regions that draw their order, where one operation writes rows that the region itself has made (two appends to one row): what is known of some operations' values (D) is asked for ahead of number k alone. It speaks of no program. -/
namespace Go.Proofs.YtmofnoconhgjmaaGreatDoor
open Go.RowKit

section
variable {P : Program} {ops : Array Oper} {Q : Exit → Act → World → Prop}
def OblAt6 (P : Program) (ops : Array Oper) (Q : Exit → Act → World → Prop) (F : (Nat → Value) → Act) (S : Nat → Value → World → Prop) (deps : List (List Nat)) (w0 : World) (k : Nat) (G : World → World → Prop) (i : Nat) (o : Oper) : Prop :=
  ∀ u w, w0.grownBy w none → (∀ d ∈ deps.getD i [], S d (u d) w) → ∀ K : Act → World → Prop, (∀ v w', S i v w' → (bif Nat.beq i k then G w w' else w.grownBy w' none) → K ((F u).put o.dst v) w') →
    if Region.wanted o (yielded ops (F u).tmps) = true then Oper.wp P o (F u) w K Q else K ((F u).put o.dst undef) w
def OblL6 (P : Program) (ops : Array Oper) (Q : Exit → Act → World → Prop) (F : (Nat → Value) → Act) (S : Nat → Value → World → Prop) (deps : List (List Nat)) (w0 : World) (k : Nat) (G : World → World → Prop) : Nat → List Oper → Prop
  | _, [] => True
  | i, o :: rest => OblAt6 P ops Q F S deps w0 k G i o ∧ OblL6 P ops Q F S deps w0 k G (i + 1) rest
theorem obl_at6 {F : (Nat → Value) → Act} {S : Nat → Value → World → Prop} {deps : List (List Nat)} {w0 : World} {k : Nat} {G : World → World → Prop} : ∀ (l : List Oper) (i : Nat), OblL6 P ops Q F S deps w0 k G i l → ∀ j o, l[j]? = some o → OblAt6 P ops Q F S deps w0 k G (i + j) o
  | [], _, _, j, o, h => by simp at h
  | x :: l, i, h, 0, o, ho => by
    obtain rfl : x = o := by simpa using ho
    exact h.1
  | x :: l, i, h, j + 1, o, ho => by
    have := obl_at6 l (i + 1) h.2 j o (by simpa using ho)
    rw [show i + (j + 1) = i + 1 + j by omega]
    exact this
theorem wp_region_spec6 {id : Nat} {a0 : Act} {w0 : World} {l : List Oper} (n : Nat) (k : Nat) (D : List Nat) (G : World → World → Prop) (hG : ∀ w w', w0.grownBy w none → G w w' → w0.grownBy w' none) (hm : P.follows .mixedOrders = true) (hfw : fwdB .any l.toArray = true) (hn : Nat.ble (n + 1) l.toArray.size = true)
    (hs : Region.sinkB .any l.toArray n = true) (hc : Region.chainB .any l.toArray n = true) (hseq : Region.seqB .any l.toArray (l.drop n).length n (headArr l.toArray.size n) = true)
    (ds : List (Option Tmp)) (hds : dstB (l.take n).toArray ds = true) (F : (Nat → Value) → Act) (hF : ∀ u, fill a0 ds u = F u)
    (h0 : a0 = fill a0 ds (fun i => a0.tmps.getD ((ds.getD i none).getD 0) undef)) (hgood : goodB ds = true) (hlen : ds.length = n)
    (S : Nat → Value → World → Prop) (hmono : AllLt n fun i => ∀ v w w', S i v w → w.grownBy w' none → S i v w') (hmono2 : AllLt n fun i => Nat.beq i k = false → D.contains i = false → ∀ v w w', w0.grownBy w none → S i v w → G w w' → S i v w')
    (deps : List (List Nat)) (hdeps : depsB .any l.toArray deps = true) (hD : (List.range n).all (fun i => (Nat.beq i k || (deps.getD k []).contains i) || (deps.getD i []).all fun d => !D.contains d) = true) (hobl : OblL6 P l.toArray Q F S deps w0 k G 0 (l.take n))
    (hdone : ∀ u w, (∀ i, i < n → D.contains i = false → S i (u i) w) → w0.grownBy w none → wpList P l.toArray Q (l.drop n) (F u) w) : (Code.region id l.toArray true).wp P Q a0 w0 := by
  obtain rfl : F = fill a0 ds := funext fun u => (hF u).symm
  have hput : ∀ i, i < n → ∀ u v, (fill a0 ds u).put (ds.getD i none) v = fill a0 ds (upd u i v) := fun i hi u v => fill_put a0 ds hgood i (by omega) u v
  have hn' : n < l.toArray.size := Nat.le_of_ble_eq_true hn
  have hnl : n < l.length := by simpa using hn'
  have inv0 : HeadInv .any l.toArray n (Array.replicate l.toArray.size false) :=
    ⟨by simp, fun j oj _ hl => (by rw [getD_replicate_false] at hl; cases hl), fun t _ ht => getD_in (by simpa using ht) (getD_replicate_false _ _)⟩
  refine wp_region_any hm (wpAny_head hn' hfw hs hc (fun listed a w => ∃ u, a = fill a0 ds u ∧ (∀ i, i < n → listed.getD i false = true → (D.contains i = true → listed.getD k false = false) → S i (u i) w) ∧ (listed.getD k false = true → ∀ d, d ∈ deps.getD k [] → listed.getD d false = true) ∧ w0.grownBy w none) ?_ ?_ l.toArray.size _ _ _ inv0 (by simp) ⟨_, h0, fun i hi h => ?_, fun h => ?_, ?_⟩)
  · rintro i listed a w hi hsz hun ⟨u, rfl, hS, hlk, hg⟩ hl
    have hi' : i < l.toArray.size := by omega
    have hio : l.toArray[i]? = some (l.toArray[i]'hi') := Array.getElem?_eq_getElem hi'
    have hio2 : (l.take n)[i]? = some (l.toArray[i]'hi') := by rw [List.getElem?_take, if_pos hi]; simp
    refine wpOp_step hio fun K hK => ?_
    have hob := obl_at6 (l.take n) 0 hobl i _ hio2
    rw [Nat.zero_add] at hob
    have hdp : ∀ d ∈ deps.getD i [], listed.getD d false = true ∧ d < i := by
      intro d hd
      have h1 := List.all_eq_true.1 hdeps i (List.mem_range.2 hi')
      rw [hio] at h1
      simp only [Option.map_some, Option.getD_some, List.all_eq_true] at h1
      have h2 := h1 d hd
      rw [Array.any_eq_true] at h2
      obtain ⟨k', hk', h3⟩ := h2
      simp only [Bool.and_eq_true] at h3
      have hd2 : ((l.toArray[i]'hi').after[k']).on = d := Nat.eq_of_beq_eq_true h3.2
      have h4 := hl _ hio _ (Array.getElem_mem hk') h3.1
      rw [hd2] at h4
      have hdi : d < i := by
        have h5 := List.all_eq_true.1 hfw i (List.mem_range.2 hi')
        rw [hio] at h5
        simp only [Option.map_some, Option.getD_some, Array.all_eq_true] at h5
        have h6 := h5 k' hk'
        rw [h3.1] at h6
        simp at h6
        rw [← hd2]; simpa using h6
      exact ⟨h4, hdi⟩
    refine hob u w hg (fun d hd => ?_) K (fun v w' hv g => ?_)
    · obtain ⟨h4, hdi⟩ := hdp d hd
      refine hS d (by omega) h4 fun hDd => ?_
      have h7 := List.all_eq_true.1 hD i (List.mem_range.2 hi)
      rw [Bool.or_eq_true, Bool.or_eq_true] at h7
      rcases h7 with (h7 | h7) | h7
      · obtain rfl : i = k := Nat.eq_of_beq_eq_true h7
        exact hun
      · cases hk : listed.getD k false with
        | false => rfl
        | true =>
          have := hlk hk i (by simpa using h7)
          rw [hun] at this; cases this
      · have h8 := List.all_eq_true.1 h7 d hd
        rw [hDd] at h8; cases h8
    · have hdst : (l.toArray[i]'hi').dst = ds.getD i none := dst_of hds (by simpa using hio2)
      rw [hdst, hput i hi]
      have hli : (listed.setIfInBounds i true).getD i false = true := by
        rw [Array.getD_eq_getD_getElem?, Array.getElem?_setIfInBounds, if_pos rfl, if_pos (by omega)]; rfl
      refine hK _ _ ⟨upd u i v, rfl, fun j hj hlj hDj => ?_, fun hk d hd => ?_, ?_⟩
      · by_cases hji : j = i
        · subst hji; rw [upd_same]; exact hv
        · rw [upd_other u v hji]
          have hlj' : listed.getD j false = true := by
            rw [Array.getD_eq_getD_getElem?, Array.getElem?_setIfInBounds, if_neg (by omega)] at hlj
            rw [Array.getD_eq_getD_getElem?]; exact hlj
          by_cases hik : i = k
          · subst hik
            have hb2 : Nat.beq i i = true := Nat.beq_refl i
            rw [hb2] at g
            have hDn : D.contains j = false := by
              cases h : D.contains j with
              | false => rfl
              | true => have := hDj h; rw [hli] at this; cases this
            exact hmono2 j hj (by rw [Bool.eq_false_iff]; intro e; exact hji (Nat.eq_of_beq_eq_true e)) hDn _ _ _ hg (hS j hj hlj' (fun h => by rw [hDn] at h; cases h)) g
          · have hb : Nat.beq i k = false := by rw [Bool.eq_false_iff]; intro e; exact hik (Nat.eq_of_beq_eq_true e)
            rw [hb] at g
            refine hmono j hj _ _ _ (hS j hj hlj' fun h => ?_) g
            have := hDj h
            rw [Array.getD_eq_getD_getElem?, Array.getElem?_setIfInBounds, if_neg hik] at this
            rw [Array.getD_eq_getD_getElem?]; exact this
      · have hup : ∀ x, listed.getD x false = true → (listed.setIfInBounds i true).getD x false = true := by
          intro x hx
          by_cases hxi : x = i
          · subst hxi; exact hli
          · rw [Array.getD_eq_getD_getElem?, Array.getElem?_setIfInBounds, if_neg (by omega), ← Array.getD_eq_getD_getElem?]; exact hx
        by_cases hik : i = k
        · subst hik
          exact hup d (hdp d hd).1
        · rw [Array.getD_eq_getD_getElem?, Array.getElem?_setIfInBounds, if_neg hik, ← Array.getD_eq_getD_getElem?] at hk
          exact hup d (hlk hk d hd)
      · by_cases hik : i = k
        · subst hik
          have hb2 : Nat.beq i i = true := Nat.beq_refl i
          rw [hb2] at g
          exact hG _ _ hg g
        · have hb : Nat.beq i k = false := by rw [Bool.eq_false_iff]; intro e; exact hik (Nat.eq_of_beq_eq_true e)
          rw [hb] at g
          exact gr_trans hg g
  · rintro a w ⟨u, rfl, hS, -, hg⟩
    have hhead : ∀ i, i < n → (headArr l.toArray.size n).getD i false = true := fun i hi => by
      rw [Array.getD_eq_getD_getElem?]
      simp only [headArr, List.getElem?_toArray]
      rw [List.getElem?_append_left (by simpa using hi), List.getElem?_replicate, if_pos hi]; rfl
    have hd := hdone u w (fun i hi hDi => hS i hi (hhead i hi) (fun h => by rw [hDi] at h; cases h)) hg
    have := wpAny_of_seq (md := .any) (Q' := Q) (l.drop n) n (headArr l.toArray.size n) (fill a0 ds u) w (fun j => by simp [List.getElem?_drop]) hseq hd
    have hlen : (l.drop n).length = l.toArray.size - n := by simp
    rwa [hlen] at this
  · rw [getD_replicate_false] at h; cases h
  · rw [getD_replicate_false] at h; cases h
  · exact gr_drew (gr_refl _ _)
end
end Go.Proofs.YtmofnoconhgjmaaGreatDoor
/- As Reg6; what holds behind number k is told of the values of what it hangs on, too (T). It speaks of no program. -/
namespace Go.Proofs.YtmofnoconhgjmaaGreatDoor
open Go.RowKit

section
variable {P : Program} {ops : Array Oper} {Q : Exit → Act → World → Prop}
def OblAt8 (P : Program) (ops : Array Oper) (Q : Exit → Act → World → Prop) (F : (Nat → Value) → Act) (S : Nat → Value → World → Prop) (deps : List (List Nat)) (w0 : World) (k : Nat) (G : World → World → Prop) (T : (Nat → Value) → World → Prop) (i : Nat) (o : Oper) : Prop :=
  ∀ u w, w0.grownBy w none → (∀ d ∈ deps.getD i [], S d (u d) w) → ∀ K : Act → World → Prop, (∀ v w', (bif Nat.beq i k then T u w' else S i v w') → (bif Nat.beq i k then G w w' else w.grownBy w' none) → K ((F u).put o.dst v) w') →
    if Region.wanted o (yielded ops (F u).tmps) = true then Oper.wp P o (F u) w K Q else K ((F u).put o.dst undef) w
def OblL8 (P : Program) (ops : Array Oper) (Q : Exit → Act → World → Prop) (F : (Nat → Value) → Act) (S : Nat → Value → World → Prop) (deps : List (List Nat)) (w0 : World) (k : Nat) (G : World → World → Prop) (T : (Nat → Value) → World → Prop) : Nat → List Oper → Prop
  | _, [] => True
  | i, o :: rest => OblAt8 P ops Q F S deps w0 k G T i o ∧ OblL8 P ops Q F S deps w0 k G T (i + 1) rest
theorem obl_at8 {F : (Nat → Value) → Act} {S : Nat → Value → World → Prop} {deps : List (List Nat)} {w0 : World} {k : Nat} {G : World → World → Prop} {T : (Nat → Value) → World → Prop} : ∀ (l : List Oper) (i : Nat), OblL8 P ops Q F S deps w0 k G T i l → ∀ j o, l[j]? = some o → OblAt8 P ops Q F S deps w0 k G T (i + j) o
  | [], _, _, j, o, h => by simp at h
  | x :: l, i, h, 0, o, ho => by
    obtain rfl : x = o := by simpa using ho
    exact h.1
  | x :: l, i, h, j + 1, o, ho => by
    have := obl_at8 l (i + 1) h.2 j o (by simpa using ho)
    rw [show i + (j + 1) = i + 1 + j by omega]
    exact this
theorem wp_region_spec8 {id : Nat} {a0 : Act} {w0 : World} {l : List Oper} (n : Nat) (k : Nat) (D : List Nat) (G : World → World → Prop) (T : (Nat → Value) → World → Prop) (hG : ∀ w w', w0.grownBy w none → G w w' → w0.grownBy w' none) (hm : P.follows .mixedOrders = true) (hfw : fwdB .any l.toArray = true) (hn : Nat.ble (n + 1) l.toArray.size = true)
    (hs : Region.sinkB .any l.toArray n = true) (hc : Region.chainB .any l.toArray n = true) (hseq : Region.seqB .any l.toArray (l.drop n).length n (headArr l.toArray.size n) = true)
    (ds : List (Option Tmp)) (hds : dstB (l.take n).toArray ds = true) (F : (Nat → Value) → Act) (hF : ∀ u, fill a0 ds u = F u)
    (h0 : a0 = fill a0 ds (fun i => a0.tmps.getD ((ds.getD i none).getD 0) undef)) (hput : AllLt n fun i => ∀ u v, (fill a0 ds u).put (ds.getD i none) v = fill a0 ds (upd u i v))
    (S : Nat → Value → World → Prop) (hmono : AllLt n fun i => ∀ v w w', S i v w → w.grownBy w' none → S i v w') (hmono2 : AllLt n fun i => Nat.beq i k = false → D.contains i = false → ∀ v w w', w0.grownBy w none → S i v w → G w w' → S i v w')
    (deps : List (List Nat)) (hdeps : depsB .any l.toArray deps = true) (hD : (List.range n).all (fun i => (Nat.beq i k || (deps.getD k []).contains i) || (deps.getD i []).all fun d => !D.contains d) = true) (hT : ∀ u w w', T u w → w.grownBy w' none → T u w') (hTu : ∀ u i v w, (deps.getD k []).contains i = false → T u w → T (upd u i v) w) (hkd : (List.range n).all (fun i => !(deps.getD i []).contains k) = true) (hkn : Nat.ble (k + 1) n = true) (hobl : OblL8 P l.toArray Q F S deps w0 k G T 0 (l.take n))
    (hdone : ∀ u w, (∀ i, i < n → Nat.beq i k = false → D.contains i = false → S i (u i) w) → T u w → w0.grownBy w none → wpList P l.toArray Q (l.drop n) (F u) w) : (Code.region id l.toArray true).wp P Q a0 w0 := by
  obtain rfl : F = fill a0 ds := funext fun u => (hF u).symm
  have hn' : n < l.toArray.size := Nat.le_of_ble_eq_true hn
  have hnl : n < l.length := by simpa using hn'
  have inv0 : HeadInv .any l.toArray n (Array.replicate l.toArray.size false) :=
    ⟨by simp, fun j oj _ hl => (by rw [getD_replicate_false] at hl; cases hl), fun t _ ht => getD_in (by simpa using ht) (getD_replicate_false _ _)⟩
  refine wp_region_any hm (wpAny_head hn' hfw hs hc (fun listed a w => ∃ u, a = fill a0 ds u ∧ (∀ i, i < n → Nat.beq i k = false → listed.getD i false = true → (D.contains i = true → listed.getD k false = false) → S i (u i) w) ∧ (listed.getD k false = true → T u w) ∧ (listed.getD k false = true → ∀ d, d ∈ deps.getD k [] → listed.getD d false = true) ∧ w0.grownBy w none) ?_ ?_ l.toArray.size _ _ _ inv0 (by simp) ⟨_, h0, fun i hi _ h => ?_, fun h => ?_, fun h => ?_, ?_⟩)
  · rintro i listed a w hi hsz hun ⟨u, rfl, hS, hTT, hlk, hg⟩ hl
    have hi' : i < l.toArray.size := by omega
    have hio : l.toArray[i]? = some (l.toArray[i]'hi') := Array.getElem?_eq_getElem hi'
    have hio2 : (l.take n)[i]? = some (l.toArray[i]'hi') := by rw [List.getElem?_take, if_pos hi]; simp
    refine wpOp_step hio fun K hK => ?_
    have hob := obl_at8 (l.take n) 0 hobl i _ hio2
    rw [Nat.zero_add] at hob
    have hdp : ∀ d ∈ deps.getD i [], listed.getD d false = true ∧ d < i := by
      intro d hd
      have h1 := List.all_eq_true.1 hdeps i (List.mem_range.2 hi')
      rw [hio] at h1
      simp only [Option.map_some, Option.getD_some, List.all_eq_true] at h1
      have h2 := h1 d hd
      rw [Array.any_eq_true] at h2
      obtain ⟨k', hk', h3⟩ := h2
      simp only [Bool.and_eq_true] at h3
      have hd2 : ((l.toArray[i]'hi').after[k']).on = d := Nat.eq_of_beq_eq_true h3.2
      have h4 := hl _ hio _ (Array.getElem_mem hk') h3.1
      rw [hd2] at h4
      have hdi : d < i := by
        have h5 := List.all_eq_true.1 hfw i (List.mem_range.2 hi')
        rw [hio] at h5
        simp only [Option.map_some, Option.getD_some, Array.all_eq_true] at h5
        have h6 := h5 k' hk'
        rw [h3.1] at h6
        simp at h6
        rw [← hd2]; simpa using h6
      exact ⟨h4, hdi⟩
    refine hob u w hg (fun d hd => ?_) K (fun v w' hv g => ?_)
    · obtain ⟨h4, hdi⟩ := hdp d hd
      have hdk : Nat.beq d k = false := by
        rw [Bool.eq_false_iff]
        intro e
        obtain rfl : d = k := Nat.eq_of_beq_eq_true e
        have h9 := List.all_eq_true.1 hkd i (List.mem_range.2 hi)
        rw [Bool.not_eq_true', ← Bool.not_eq_true] at h9
        exact h9 (by simpa using hd)
      refine hS d (by omega) hdk h4 fun hDd => ?_
      have h7 := List.all_eq_true.1 hD i (List.mem_range.2 hi)
      rw [Bool.or_eq_true, Bool.or_eq_true] at h7
      rcases h7 with (h7 | h7) | h7
      · obtain rfl : i = k := Nat.eq_of_beq_eq_true h7
        exact hun
      · cases hk : listed.getD k false with
        | false => rfl
        | true =>
          have := hlk hk i (by simpa using h7)
          rw [hun] at this; cases this
      · have h8 := List.all_eq_true.1 h7 d hd
        rw [hDd] at h8; cases h8
    · have hdst : (l.toArray[i]'hi').dst = ds.getD i none := dst_of hds (by simpa using hio2)
      rw [hdst, hput i hi]
      have hli : (listed.setIfInBounds i true).getD i false = true := by
        rw [Array.getD_eq_getD_getElem?, Array.getElem?_setIfInBounds, if_pos rfl, if_pos (by omega)]; rfl
      refine hK _ _ ⟨upd u i v, rfl, fun j hj hjk hlj hDj => ?_, fun hk => ?_, fun hk d hd => ?_, ?_⟩
      · by_cases hji : j = i
        · subst hji; rw [upd_same]; rw [hjk] at hv; exact hv
        · rw [upd_other u v hji]
          have hlj' : listed.getD j false = true := by
            rw [Array.getD_eq_getD_getElem?, Array.getElem?_setIfInBounds, if_neg (by omega)] at hlj
            rw [Array.getD_eq_getD_getElem?]; exact hlj
          by_cases hik : i = k
          · subst hik
            have hb2 : Nat.beq i i = true := Nat.beq_refl i
            rw [hb2] at g
            have hDn : D.contains j = false := by
              cases h : D.contains j with
              | false => rfl
              | true => have := hDj h; rw [hli] at this; cases this
            exact hmono2 j hj (by rw [Bool.eq_false_iff]; intro e; exact hji (Nat.eq_of_beq_eq_true e)) hDn _ _ _ hg (hS j hj hjk hlj' (fun h => by rw [hDn] at h; cases h)) g
          · have hb : Nat.beq i k = false := by rw [Bool.eq_false_iff]; intro e; exact hik (Nat.eq_of_beq_eq_true e)
            rw [hb] at g
            refine hmono j hj _ _ _ (hS j hj hjk hlj' fun h => ?_) g
            have := hDj h
            rw [Array.getD_eq_getD_getElem?, Array.getElem?_setIfInBounds, if_neg hik] at this
            rw [Array.getD_eq_getD_getElem?]; exact this
      · by_cases hik : i = k
        · subst hik
          have hb2 : Nat.beq i i = true := Nat.beq_refl i
          rw [hb2] at hv
          refine hTu _ _ _ _ ?_ hv
          have h9 := List.all_eq_true.1 hkd i (List.mem_range.2 hi)
          simpa using h9
        · have hb : Nat.beq i k = false := by rw [Bool.eq_false_iff]; intro e; exact hik (Nat.eq_of_beq_eq_true e)
          rw [hb] at g
          rw [Array.getD_eq_getD_getElem?, Array.getElem?_setIfInBounds, if_neg hik, ← Array.getD_eq_getD_getElem?] at hk
          refine hTu _ _ _ _ ?_ (hT _ _ _ (hTT hk) g)
          cases hc : (deps.getD k []).contains i with
          | false => rfl
          | true =>
            have := hlk hk i (by simpa using hc)
            rw [hun] at this; cases this
      · have hup : ∀ x, listed.getD x false = true → (listed.setIfInBounds i true).getD x false = true := by
          intro x hx
          by_cases hxi : x = i
          · subst hxi; exact hli
          · rw [Array.getD_eq_getD_getElem?, Array.getElem?_setIfInBounds, if_neg (by omega), ← Array.getD_eq_getD_getElem?]; exact hx
        by_cases hik : i = k
        · subst hik
          exact hup d (hdp d hd).1
        · rw [Array.getD_eq_getD_getElem?, Array.getElem?_setIfInBounds, if_neg hik, ← Array.getD_eq_getD_getElem?] at hk
          exact hup d (hlk hk d hd)
      · by_cases hik : i = k
        · subst hik
          have hb2 : Nat.beq i i = true := Nat.beq_refl i
          rw [hb2] at g
          exact hG _ _ hg g
        · have hb : Nat.beq i k = false := by rw [Bool.eq_false_iff]; intro e; exact hik (Nat.eq_of_beq_eq_true e)
          rw [hb] at g
          exact gr_trans hg g
  · rintro a w ⟨u, rfl, hS, hTT, -, hg⟩
    have hhead : ∀ i, i < n → (headArr l.toArray.size n).getD i false = true := fun i hi => by
      rw [Array.getD_eq_getD_getElem?]
      simp only [headArr, List.getElem?_toArray]
      rw [List.getElem?_append_left (by simpa using hi), List.getElem?_replicate, if_pos hi]; rfl
    have hd := hdone u w (fun i hi hik hDi => hS i hi hik (hhead i hi) (fun h => by rw [hDi] at h; cases h)) (hTT (hhead k (Nat.le_of_ble_eq_true hkn))) hg
    have := wpAny_of_seq (md := .any) (Q' := Q) (l.drop n) n (headArr l.toArray.size n) (fill a0 ds u) w (fun j => by simp [List.getElem?_drop]) hseq hd
    have hlen : (l.drop n).length = l.toArray.size - n := by simp
    rwa [hlen] at this
  · rw [getD_replicate_false] at h; cases h
  · rw [getD_replicate_false] at h; cases h
  · rw [getD_replicate_false] at h; cases h
  · exact gr_drew (gr_refl _ _)
end
end Go.Proofs.YtmofnoconhgjmaaGreatDoor
