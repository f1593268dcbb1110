/- Texts of one proof, put together: Reg5, Reg6, Reg7, Ap0, S2o, B2s. -/
import Derived.Test.YtfceodbpkghkaaaGreatDoorReg
import Derived.Test.YtfceodbpkghkaaaGreatDoorReg3
import Derived.Test.YtfceodbpkghkaaaGreatDoorApG
import Derived.ArgAppend
import Derived.Test.YtfceodbpkghkaaaGreatDoorBytes
/- Regions that draw their order, with many operations: frames by a law, not by the kernel. It speaks of no program. -/
namespace Go.Proofs.YtfceodbpkghkaaaGreatDoor
open Go.RowKit

theorem put_comm (a : Act) {s t : Tmp} (h : s ≠ t) (v w : Value) : (a.put (some s) v).put (some t) w = (a.put (some t) w).put (some s) v := by
  unfold Act.put
  dsimp only
  congr 1
  exact Array.setIfInBounds_comm _ _ h
theorem put_put (a : Act) (s : Tmp) (v w : Value) : (a.put (some s) v).put (some s) w = a.put (some s) w := by
  unfold Act.put
  dsimp only
  rw [Array.setIfInBounds_setIfInBounds]
def fillK (u : Nat → Value) (a : Act) (ds : List (Option Tmp)) (k : Nat) : Act := (ds.zipIdx k).foldl (fun a x => a.put x.1 (u x.2)) a
theorem fillK_cons (u : Nat → Value) (a : Act) (d : Option Tmp) (ds : List (Option Tmp)) (k : Nat) : fillK u a (d :: ds) k = fillK u (a.put d (u k)) ds (k + 1) := rfl
theorem fillK_out (u : Nat → Value) (s : Tmp) (v : Value) : ∀ (ds : List (Option Tmp)) (k : Nat) (a : Act), (∀ d ∈ ds, d ≠ some s ∧ d ≠ none) → (fillK u a ds k).put (some s) v = fillK u (a.put (some s) v) ds k
  | [], _, _, _ => rfl
  | d :: ds, k, a, h => by
    rw [fillK_cons, fillK_cons, fillK_out u s v ds (k + 1) _ (fun e he => h e (List.mem_cons_of_mem _ he))]
    obtain ⟨h1, h2⟩ := h d (List.mem_cons_self ..)
    cases d with
    | none => exact absurd rfl h2
    | some t => rw [put_comm a (fun e => h1 (by rw [e]))]
theorem fillK_congr {u u' : Nat → Value} : ∀ (ds : List (Option Tmp)) (k : Nat) (a : Act), (∀ i, k ≤ i → u i = u' i) → fillK u a ds k = fillK u' a ds k
  | [], _, _, _ => rfl
  | d :: ds, k, a, h => by
    rw [fillK_cons, fillK_cons, h k (Nat.le_refl _)]
    exact fillK_congr ds (k + 1) _ (fun i hi => h i (by omega))
theorem fillK_put (u : Nat → Value) (v : Value) : ∀ (ds : List (Option Tmp)) (k i : Nat) (a : Act), ds.Nodup → none ∉ ds → i < ds.length → (fillK u a ds k).put (ds.getD i none) v = fillK (upd u (k + i) v) a ds k
  | [], _, _, _, _, _, h => by simp at h
  | d :: ds, k, 0, a, hn, h0, _ => by
    obtain ⟨hd, hn'⟩ := List.nodup_cons.1 hn
    cases d with
    | none => exact absurd (List.mem_cons_self ..) h0
    | some t =>
      show (fillK u (a.put (some t) (u k)) ds (k + 1)).put (some t) v = fillK (upd u k v) (a.put (some t) (upd u k v k)) ds (k + 1)
      rw [fillK_out u t v ds (k + 1) _ (fun e he => ⟨fun e2 => hd (by rw [← e2]; exact he), fun e2 => h0 (by rw [← e2]; exact List.mem_cons_of_mem _ he)⟩), put_put, upd_same]
      exact fillK_congr ds (k + 1) _ (fun i hi => (upd_other u v (by omega)).symm)
  | d :: ds, k, i + 1, a, hn, h0, hi => by
    obtain ⟨hd, hn'⟩ := List.nodup_cons.1 hn
    show (fillK u (a.put d (u k)) ds (k + 1)).put (ds.getD i none) v = fillK (upd u (k + (i + 1)) v) (a.put d (upd u (k + (i + 1)) v k)) ds (k + 1)
    rw [fillK_put u v ds (k + 1) i _ hn' (fun h => h0 (List.mem_cons_of_mem _ h)) (by simpa using hi), upd_other u v (show k ≠ k + (i + 1) by omega), show k + 1 + i = k + (i + 1) by omega]
def goodB (ds : List (Option Tmp)) : Bool := decide (ds.Nodup) && !(ds.contains none)
theorem fill_put (a : Act) (ds : List (Option Tmp)) (h : goodB ds = true) (i : Nat) (hi : i < ds.length) (u : Nat → Value) (v : Value) : (fill a ds u).put (ds.getD i none) v = fill a ds (upd u i v) := by
  unfold goodB at h
  rw [Bool.and_eq_true] at h
  have := fillK_put u v ds 0 i a (of_decide_eq_true h.1) (by simpa using h.2) hi
  rw [Nat.zero_add] at this
  exact this
section
variable {P : Program} {Q : Exit → Act → World → Prop}
/-- As wp_region_spec2. -/
theorem wp_region_spec5 {id : Nat} {a0 : Act} {w0 : World} {l : List Oper} (hm : P.follows .mixedOrders = true) (hfw : fwdB .any l.toArray = true) {n : Nat} (hn : l.toArray.size = n)
    (ds : List (Option Tmp)) (hds : dstB l.toArray ds = true) (F : (Nat → Value) → Act) (hF : ∀ u, fill a0 ds u = F u)
    (h0 : a0 = fill a0 ds (fun i => a0.tmps.getD ((ds.getD i none).getD 0) undef)) (hgood : goodB ds = true) (hlen : ds.length = n)
    (S : Nat → Value → World → Prop) (hmono : AllLt n fun i => ∀ v w w', S i v w → w.grownBy w' none → S i v w')
    (deps : List (List Nat)) (hdeps : depsB .any l.toArray deps = true) (hobl : OblL P l.toArray Q F S deps w0 0 l)
    (hdone : ∀ u w, (∀ i, i < n → S i (u i) w) → w0.grownBy w none → Q .normal (F u) w) : (Code.region id l.toArray true).wp P Q a0 w0 :=
  wp_region_spec2 hm hfw hn ds hds F hF h0 (fun i hi u v => fill_put a0 ds hgood i (by omega) u v) S hmono deps hdeps hobl hdone
end
end Go.Proofs.YtfceodbpkghkaaaGreatDoor
/- Regions that draw their order, where one operation writes rows that the region itself has made (two appends to one row): what is known of some operations' values (D) is asked for ahead of number k alone. It speaks of no program. -/
namespace Go.Proofs.YtfceodbpkghkaaaGreatDoor
open Go.RowKit

section
variable {P : Program} {ops : Array Oper} {Q : Exit → Act → World → Prop}
def OblAt6 (P : Program) (ops : Array Oper) (Q : Exit → Act → World → Prop) (F : (Nat → Value) → Act) (S : Nat → Value → World → Prop) (deps : List (List Nat)) (w0 : World) (k : Nat) (G : World → World → Prop) (i : Nat) (o : Oper) : Prop :=
  ∀ u w, w0.grownBy w none → (∀ d ∈ deps.getD i [], S d (u d) w) → ∀ K : Act → World → Prop, (∀ v w', S i v w' → (bif Nat.beq i k then G w w' else w.grownBy w' none) → K ((F u).put o.dst v) w') →
    if Region.wanted o (yielded ops (F u).tmps) = true then Oper.wp P o (F u) w K Q else K ((F u).put o.dst undef) w
def OblL6 (P : Program) (ops : Array Oper) (Q : Exit → Act → World → Prop) (F : (Nat → Value) → Act) (S : Nat → Value → World → Prop) (deps : List (List Nat)) (w0 : World) (k : Nat) (G : World → World → Prop) : Nat → List Oper → Prop
  | _, [] => True
  | i, o :: rest => OblAt6 P ops Q F S deps w0 k G i o ∧ OblL6 P ops Q F S deps w0 k G (i + 1) rest
theorem obl_at6 {F : (Nat → Value) → Act} {S : Nat → Value → World → Prop} {deps : List (List Nat)} {w0 : World} {k : Nat} {G : World → World → Prop} : ∀ (l : List Oper) (i : Nat), OblL6 P ops Q F S deps w0 k G i l → ∀ j o, l[j]? = some o → OblAt6 P ops Q F S deps w0 k G (i + j) o
  | [], _, _, j, o, h => by simp at h
  | x :: l, i, h, 0, o, ho => by
    obtain rfl : x = o := by simpa using ho
    exact h.1
  | x :: l, i, h, j + 1, o, ho => by
    have := obl_at6 l (i + 1) h.2 j o (by simpa using ho)
    rw [show i + (j + 1) = i + 1 + j by omega]
    exact this
theorem wp_region_spec6 {id : Nat} {a0 : Act} {w0 : World} {l : List Oper} (n : Nat) (k : Nat) (D : List Nat) (G : World → World → Prop) (hG : ∀ w w', w0.grownBy w none → G w w' → w0.grownBy w' none) (hm : P.follows .mixedOrders = true) (hfw : fwdB .any l.toArray = true) (hn : Nat.ble (n + 1) l.toArray.size = true)
    (hs : Region.sinkB .any l.toArray n = true) (hc : Region.chainB .any l.toArray n = true) (hseq : Region.seqB .any l.toArray (l.drop n).length n (headArr l.toArray.size n) = true)
    (ds : List (Option Tmp)) (hds : dstB (l.take n).toArray ds = true) (F : (Nat → Value) → Act) (hF : ∀ u, fill a0 ds u = F u)
    (h0 : a0 = fill a0 ds (fun i => a0.tmps.getD ((ds.getD i none).getD 0) undef)) (hgood : goodB ds = true) (hlen : ds.length = n)
    (S : Nat → Value → World → Prop) (hmono : AllLt n fun i => ∀ v w w', S i v w → w.grownBy w' none → S i v w') (hmono2 : AllLt n fun i => Nat.beq i k = false → D.contains i = false → ∀ v w w', w0.grownBy w none → S i v w → G w w' → S i v w')
    (deps : List (List Nat)) (hdeps : depsB .any l.toArray deps = true) (hD : (List.range n).all (fun i => (Nat.beq i k || (deps.getD k []).contains i) || (deps.getD i []).all fun d => !D.contains d) = true) (hobl : OblL6 P l.toArray Q F S deps w0 k G 0 (l.take n))
    (hdone : ∀ u w, (∀ i, i < n → D.contains i = false → S i (u i) w) → w0.grownBy w none → wpList P l.toArray Q (l.drop n) (F u) w) : (Code.region id l.toArray true).wp P Q a0 w0 := by
  obtain rfl : F = fill a0 ds := funext fun u => (hF u).symm
  have hput : ∀ i, i < n → ∀ u v, (fill a0 ds u).put (ds.getD i none) v = fill a0 ds (upd u i v) := fun i hi u v => fill_put a0 ds hgood i (by omega) u v
  have hn' : n < l.toArray.size := Nat.le_of_ble_eq_true hn
  have hnl : n < l.length := by simpa using hn'
  have inv0 : HeadInv .any l.toArray n (Array.replicate l.toArray.size false) :=
    ⟨by simp, fun j oj _ hl => (by rw [getD_replicate_false] at hl; cases hl), fun t _ ht => getD_in (by simpa using ht) (getD_replicate_false _ _)⟩
  refine wp_region_any hm (wpAny_head hn' hfw hs hc (fun listed a w => ∃ u, a = fill a0 ds u ∧ (∀ i, i < n → listed.getD i false = true → (D.contains i = true → listed.getD k false = false) → S i (u i) w) ∧ (listed.getD k false = true → ∀ d, d ∈ deps.getD k [] → listed.getD d false = true) ∧ w0.grownBy w none) ?_ ?_ l.toArray.size _ _ _ inv0 (by simp) ⟨_, h0, fun i hi h => ?_, fun h => ?_, ?_⟩)
  · rintro i listed a w hi hsz hun ⟨u, rfl, hS, hlk, hg⟩ hl
    have hi' : i < l.toArray.size := by omega
    have hio : l.toArray[i]? = some (l.toArray[i]'hi') := Array.getElem?_eq_getElem hi'
    have hio2 : (l.take n)[i]? = some (l.toArray[i]'hi') := by rw [List.getElem?_take, if_pos hi]; simp
    refine wpOp_step hio fun K hK => ?_
    have hob := obl_at6 (l.take n) 0 hobl i _ hio2
    rw [Nat.zero_add] at hob
    have hdp : ∀ d ∈ deps.getD i [], listed.getD d false = true ∧ d < i := by
      intro d hd
      have h1 := List.all_eq_true.1 hdeps i (List.mem_range.2 hi')
      rw [hio] at h1
      simp only [Option.map_some, Option.getD_some, List.all_eq_true] at h1
      have h2 := h1 d hd
      rw [Array.any_eq_true] at h2
      obtain ⟨k', hk', h3⟩ := h2
      simp only [Bool.and_eq_true] at h3
      have hd2 : ((l.toArray[i]'hi').after[k']).on = d := Nat.eq_of_beq_eq_true h3.2
      have h4 := hl _ hio _ (Array.getElem_mem hk') h3.1
      rw [hd2] at h4
      have hdi : d < i := by
        have h5 := List.all_eq_true.1 hfw i (List.mem_range.2 hi')
        rw [hio] at h5
        simp only [Option.map_some, Option.getD_some, Array.all_eq_true] at h5
        have h6 := h5 k' hk'
        rw [h3.1] at h6
        simp at h6
        rw [← hd2]; simpa using h6
      exact ⟨h4, hdi⟩
    refine hob u w hg (fun d hd => ?_) K (fun v w' hv g => ?_)
    · obtain ⟨h4, hdi⟩ := hdp d hd
      refine hS d (by omega) h4 fun hDd => ?_
      have h7 := List.all_eq_true.1 hD i (List.mem_range.2 hi)
      rw [Bool.or_eq_true, Bool.or_eq_true] at h7
      rcases h7 with (h7 | h7) | h7
      · obtain rfl : i = k := Nat.eq_of_beq_eq_true h7
        exact hun
      · cases hk : listed.getD k false with
        | false => rfl
        | true =>
          have := hlk hk i (by simpa using h7)
          rw [hun] at this; cases this
      · have h8 := List.all_eq_true.1 h7 d hd
        rw [hDd] at h8; cases h8
    · have hdst : (l.toArray[i]'hi').dst = ds.getD i none := dst_of hds (by simpa using hio2)
      rw [hdst, hput i hi]
      have hli : (listed.setIfInBounds i true).getD i false = true := by
        rw [Array.getD_eq_getD_getElem?, Array.getElem?_setIfInBounds, if_pos rfl, if_pos (by omega)]; rfl
      refine hK _ _ ⟨upd u i v, rfl, fun j hj hlj hDj => ?_, fun hk d hd => ?_, ?_⟩
      · by_cases hji : j = i
        · subst hji; rw [upd_same]; exact hv
        · rw [upd_other u v hji]
          have hlj' : listed.getD j false = true := by
            rw [Array.getD_eq_getD_getElem?, Array.getElem?_setIfInBounds, if_neg (by omega)] at hlj
            rw [Array.getD_eq_getD_getElem?]; exact hlj
          by_cases hik : i = k
          · subst hik
            have hb2 : Nat.beq i i = true := Nat.beq_refl i
            rw [hb2] at g
            have hDn : D.contains j = false := by
              cases h : D.contains j with
              | false => rfl
              | true => have := hDj h; rw [hli] at this; cases this
            exact hmono2 j hj (by rw [Bool.eq_false_iff]; intro e; exact hji (Nat.eq_of_beq_eq_true e)) hDn _ _ _ hg (hS j hj hlj' (fun h => by rw [hDn] at h; cases h)) g
          · have hb : Nat.beq i k = false := by rw [Bool.eq_false_iff]; intro e; exact hik (Nat.eq_of_beq_eq_true e)
            rw [hb] at g
            refine hmono j hj _ _ _ (hS j hj hlj' fun h => ?_) g
            have := hDj h
            rw [Array.getD_eq_getD_getElem?, Array.getElem?_setIfInBounds, if_neg hik] at this
            rw [Array.getD_eq_getD_getElem?]; exact this
      · have hup : ∀ x, listed.getD x false = true → (listed.setIfInBounds i true).getD x false = true := by
          intro x hx
          by_cases hxi : x = i
          · subst hxi; exact hli
          · rw [Array.getD_eq_getD_getElem?, Array.getElem?_setIfInBounds, if_neg (by omega), ← Array.getD_eq_getD_getElem?]; exact hx
        by_cases hik : i = k
        · subst hik
          exact hup d (hdp d hd).1
        · rw [Array.getD_eq_getD_getElem?, Array.getElem?_setIfInBounds, if_neg hik, ← Array.getD_eq_getD_getElem?] at hk
          exact hup d (hlk hk d hd)
      · by_cases hik : i = k
        · subst hik
          have hb2 : Nat.beq i i = true := Nat.beq_refl i
          rw [hb2] at g
          exact hG _ _ hg g
        · have hb : Nat.beq i k = false := by rw [Bool.eq_false_iff]; intro e; exact hik (Nat.eq_of_beq_eq_true e)
          rw [hb] at g
          exact gr_trans hg g
  · rintro a w ⟨u, rfl, hS, -, hg⟩
    have hhead : ∀ i, i < n → (headArr l.toArray.size n).getD i false = true := fun i hi => by
      rw [Array.getD_eq_getD_getElem?]
      simp only [headArr, List.getElem?_toArray]
      rw [List.getElem?_append_left (by simpa using hi), List.getElem?_replicate, if_pos hi]; rfl
    have hd := hdone u w (fun i hi hDi => hS i hi (hhead i hi) (fun h => by rw [hDi] at h; cases h)) hg
    have := wpAny_of_seq (md := .any) (Q' := Q) (l.drop n) n (headArr l.toArray.size n) (fill a0 ds u) w (fun j => by simp [List.getElem?_drop]) hseq hd
    have hlen : (l.drop n).length = l.toArray.size - n := by simp
    rwa [hlen] at this
  · rw [getD_replicate_false] at h; cases h
  · rw [getD_replicate_false] at h; cases h
  · exact gr_drew (gr_refl _ _)
end
end Go.Proofs.YtfceodbpkghkaaaGreatDoor
/- Regions that draw their order, two of whose operations write what was there (each by a frame of its own). It speaks of no program. -/
namespace Go.Proofs.YtfceodbpkghkaaaGreatDoor
open Go.RowKit

section
variable {P : Program} {ops : Array Oper} {Q : Exit → Act → World → Prop} {md : Region.Mode}
theorem wpAny_inv7 (hfw : fwdB md ops = true) (I : Array Bool → Act → World → Prop)
    (hstep : ∀ i listed a w, i < ops.size → listed.size = ops.size → listed.getD i false = false → I listed a w → (∀ o, ops[i]? = some o → ∀ e ∈ o.after, Region.binds md e = true → listed.getD e.on false = true) → wpOp P ops Q i (I (listed.setIfInBounds i true)) a w)
    (hdone : ∀ listed a w, (∀ i, i < ops.size → listed.getD i false = true) → I listed a w → Q .normal a w) :
    ∀ fuel listed a w, listed.size = ops.size → listed.toList.count false ≤ fuel → I listed a w → wpAny P md ops Q fuel listed a w := by
  intro fuel
  induction fuel with
  | zero =>
    intro listed a w hs hc hI
    have hr : Region.ready md ops listed = [] := by
      cases hr : Region.ready md ops listed with
      | nil => rfl
      | cons i rest =>
        have := ready_mem (md := md) (ops := ops) (listed := listed) (i := i) (by rw [hr]; simp)
        have h0 := this.2.1 hs
        have : false ∈ listed.toList := by
          rw [← Array.getElem?_toList] at h0
          exact List.mem_of_getElem? h0
        have := List.count_pos_iff.2 this
        omega
    exact ⟨hr, hdone _ _ _ (ready_nil hfw hs hr) hI⟩
  | succ fuel ih =>
    intro listed a w hs hc hI
    refine ⟨fun hr => hdone _ _ _ (ready_nil hfw hs hr) hI, fun i hi => ?_⟩
    obtain ⟨h1, h2, h3⟩ := ready_mem hi
    have h0 := h2 hs
    refine wpOp_mono (fun a' w' hI' => ih _ _ _ (by simpa using hs) ?_ hI') (hstep i listed a w h1 hs (by rw [Array.getD_eq_getD_getElem?, h0]; rfl) hI h3)
    rw [← Array.getElem?_toList] at h0
    obtain ⟨hlt, h0'⟩ := List.getElem?_eq_some_iff.1 h0
    have hpos := List.count_pos_iff.2 (List.mem_of_getElem? h0)
    have e : (listed.toList.set i true).count false = listed.toList.count false - 1 := by rw [List.count_set hlt, h0']; simp
    rw [Array.toList_setIfInBounds, e]
    omega
/-- The step of an operation: numbers k1 and k2 write by G1 and G2, the others nothing old. -/
def stepG (k1 k2 : Nat) (G1 G2 : World → World → Prop) (i : Nat) (w w' : World) : Prop :=
  bif Nat.beq i k1 then G1 w w' else bif Nat.beq i k2 then G2 w w' else w.grownBy w' none
theorem stepG_1 {k1 k2 : Nat} {G1 G2 : World → World → Prop} {w w' : World} (h : stepG k1 k2 G1 G2 k1 w w') : G1 w w' := by
  unfold stepG at h; rw [show Nat.beq k1 k1 = true from Nat.beq_refl k1] at h; exact h
theorem stepG_cases {k1 k2 : Nat} {G1 G2 : World → World → Prop} {i : Nat} {w w' : World} (h : stepG k1 k2 G1 G2 i w w') : (i = k1 ∧ G1 w w') ∨ (i = k2 ∧ G2 w w') ∨ w.grownBy w' none := by
  unfold stepG at h
  cases h1 : Nat.beq i k1 with
  | true => rw [h1] at h; exact .inl ⟨Nat.eq_of_beq_eq_true h1, h⟩
  | false =>
    rw [h1] at h
    cases h2 : Nat.beq i k2 with
    | true => rw [h2] at h; exact .inr (.inl ⟨Nat.eq_of_beq_eq_true h2, h⟩)
    | false => rw [h2] at h; exact .inr (.inr h)
def OblAt7 (P : Program) (ops : Array Oper) (Q : Exit → Act → World → Prop) (F : (Nat → Value) → Act) (S : Nat → Value → World → Prop) (deps : List (List Nat)) (T P1 P2 : World → Prop) (k1 k2 : Nat) (G1 G2 : World → World → Prop) (i : Nat) (o : Oper) : Prop :=
  ∀ u w, T w → (i = k1 → P1 w) → (i = k2 → P2 w) → (∀ d ∈ deps.getD i [], S d (u d) w) → ∀ K : Act → World → Prop, (∀ v w', S i v w' → stepG k1 k2 G1 G2 i w w' → K ((F u).put o.dst v) w') →
    if Region.wanted o (yielded ops (F u).tmps) = true then Oper.wp P o (F u) w K Q else K ((F u).put o.dst undef) w
def OblL7 (P : Program) (ops : Array Oper) (Q : Exit → Act → World → Prop) (F : (Nat → Value) → Act) (S : Nat → Value → World → Prop) (deps : List (List Nat)) (T P1 P2 : World → Prop) (k1 k2 : Nat) (G1 G2 : World → World → Prop) : Nat → List Oper → Prop
  | _, [] => True
  | i, o :: rest => OblAt7 P ops Q F S deps T P1 P2 k1 k2 G1 G2 i o ∧ OblL7 P ops Q F S deps T P1 P2 k1 k2 G1 G2 (i + 1) rest
theorem obl_at7 {F : (Nat → Value) → Act} {S : Nat → Value → World → Prop} {deps : List (List Nat)} {T P1 P2 : World → Prop} {k1 k2 : Nat} {G1 G2 : World → World → Prop} : ∀ (l : List Oper) (i : Nat), OblL7 P ops Q F S deps T P1 P2 k1 k2 G1 G2 i l → ∀ j o, l[j]? = some o → OblAt7 P ops Q F S deps T P1 P2 k1 k2 G1 G2 (i + j) o
  | [], _, _, j, o, h => by simp at h
  | x :: l, i, h, 0, o, ho => by
    obtain rfl : x = o := by simpa using ho
    exact h.1
  | x :: l, i, h, j + 1, o, ho => by
    have := obl_at7 l (i + 1) h.2 j o (by simpa using ho)
    rw [show i + (j + 1) = i + 1 + j by omega]
    exact this
theorem wp_region_spec7 {id : Nat} {a0 : Act} {w0 : World} {l : List Oper} (k1 k2 : Nat) (G1 G2 : World → World → Prop) (T P1 P2 : World → Prop) (hT0 : T w0.drew) (h10 : P1 w0.drew) (h20 : P2 w0.drew)
    (hTg : ∀ w w', T w → w.grownBy w' none → T w') (hT1 : ∀ w w', T w → G1 w w' → T w') (hT2 : ∀ w w', T w → G2 w w' → T w')
    (h1g : ∀ w w', P1 w → w.grownBy w' none → P1 w') (h12 : ∀ w w', P1 w → G2 w w' → P1 w') (h2g : ∀ w w', P2 w → w.grownBy w' none → P2 w') (h21 : ∀ w w', P2 w → G1 w w' → P2 w')
    (hm : P.follows .mixedOrders = true) (hfw : fwdB .any l.toArray = true) {n : Nat} (hn : l.toArray.size = n)
    (ds : List (Option Tmp)) (hds : dstB l.toArray ds = true) (F : (Nat → Value) → Act) (hF : ∀ u, fill a0 ds u = F u)
    (h0 : a0 = fill a0 ds (fun i => a0.tmps.getD ((ds.getD i none).getD 0) undef)) (hgood : goodB ds = true) (hlen : ds.length = n)
    (S : Nat → Value → World → Prop) (hmono : AllLt n fun i => ∀ v w w', S i v w → w.grownBy w' none → S i v w')
    (hmono1 : AllLt n fun i => i ≠ k1 → ∀ v w w', S i v w → G1 w w' → S i v w') (hmono2 : AllLt n fun i => i ≠ k2 → ∀ v w w', S i v w → G2 w w' → S i v w')
    (deps : List (List Nat)) (hdeps : depsB .any l.toArray deps = true) (hobl : OblL7 P l.toArray Q F S deps T P1 P2 k1 k2 G1 G2 0 l)
    (hdone : ∀ u w, (∀ i, i < n → S i (u i) w) → T w → Q .normal (F u) w) : (Code.region id l.toArray true).wp P Q a0 w0 := by
  obtain rfl : F = fill a0 ds := funext fun u => (hF u).symm
  subst hn
  have hput : ∀ i, i < l.toArray.size → ∀ u v, (fill a0 ds u).put (ds.getD i none) v = fill a0 ds (upd u i v) := fun i hi u v => fill_put a0 ds hgood i (by omega) u v
  have hget : ∀ (listed : Array Bool) i j, j ≠ i → (listed.setIfInBounds i true).getD j false = listed.getD j false := by
    intro listed i j h
    rw [Array.getD_eq_getD_getElem?, Array.getElem?_setIfInBounds, if_neg (fun e => h e.symm), Array.getD_eq_getD_getElem?]
  refine wp_region_any hm (wpAny_inv7 hfw (fun listed a w => ∃ u, a = fill a0 ds u ∧ (∀ i, i < l.toArray.size → listed.getD i false = true → S i (u i) w) ∧ T w ∧ (listed.getD k1 false = false → P1 w) ∧ (listed.getD k2 false = false → P2 w)) ?_ ?_ l.toArray.size _ _ _ (by simp) (by simp) ⟨_, h0, fun i hi h => ?_, hT0, fun _ => h10, fun _ => h20⟩)
  · rintro i listed a w hi hs hun ⟨u, rfl, hS, hT, hP1, hP2⟩ hl
    have hio : l[i]? = some (l.toArray[i]'hi) := by rw [← List.getElem?_toArray]; exact Array.getElem?_eq_getElem hi
    refine wpOp_step (Array.getElem?_eq_getElem hi) fun K hK => ?_
    have hob := obl_at7 l 0 hobl i _ hio
    rw [Nat.zero_add] at hob
    refine hob u w hT (fun e => hP1 (by rw [← e]; exact hun)) (fun e => hP2 (by rw [← e]; exact hun)) (fun d hd => ?_) K (fun v w' hv g => ?_)
    · have h1 := List.all_eq_true.1 hdeps i (List.mem_range.2 hi)
      rw [Array.getElem?_eq_getElem hi] at h1
      simp only [Option.map_some, Option.getD_some, List.all_eq_true] at h1
      have h2 := h1 d hd
      rw [Array.any_eq_true] at h2
      obtain ⟨k, hk, h3⟩ := h2
      simp only [Bool.and_eq_true] at h3
      have hd2 : (l.toArray[i].after[k]).on = d := Nat.eq_of_beq_eq_true h3.2
      have h4 := hl _ (Array.getElem?_eq_getElem hi) _ (Array.getElem_mem hk) h3.1
      rw [hd2] at h4
      refine hS d ?_ h4
      have : listed[d]? = some true := by
        rw [Array.getD_eq_getD_getElem?] at h4
        cases h : listed[d]? with
        | none => rw [h] at h4; cases h4
        | some b => rw [h] at h4; simpa using h4
      have := (Array.getElem?_eq_some_iff.1 this).1
      omega
    · rw [dst_of hds (Array.getElem?_eq_getElem hi), hput i hi]
      refine hK _ _ ⟨upd u i v, rfl, fun j hj hlj => ?_, ?_, fun hk => ?_, fun hk => ?_⟩
      · by_cases hji : j = i
        · subst hji; rw [upd_same]; exact hv
        · rw [upd_other u v hji]
          rw [hget listed i j hji] at hlj
          rcases stepG_cases g with ⟨e, g⟩ | ⟨e, g⟩ | g
          · exact hmono1 j hj (by rw [← e]; exact hji) _ _ _ (hS j hj hlj) g
          · exact hmono2 j hj (by rw [← e]; exact hji) _ _ _ (hS j hj hlj) g
          · exact hmono j hj _ _ _ (hS j hj hlj) g
      · rcases stepG_cases g with ⟨e, g⟩ | ⟨e, g⟩ | g
        · exact hT1 _ _ hT g
        · exact hT2 _ _ hT g
        · exact hTg _ _ hT g
      · by_cases hki : k1 = i
        · subst hki
          rw [Array.getD_eq_getD_getElem?, Array.getElem?_setIfInBounds, if_pos rfl, if_pos (by omega)] at hk
          cases hk
        · rw [hget listed i k1 hki] at hk
          rcases stepG_cases g with ⟨e, g⟩ | ⟨e, g⟩ | g
          · exact absurd e.symm hki
          · exact h12 _ _ (hP1 hk) g
          · exact h1g _ _ (hP1 hk) g
      · by_cases hki : k2 = i
        · subst hki
          rw [Array.getD_eq_getD_getElem?, Array.getElem?_setIfInBounds, if_pos rfl, if_pos (by omega)] at hk
          cases hk
        · rw [hget listed i k2 hki] at hk
          rcases stepG_cases g with ⟨e, g⟩ | ⟨e, g⟩ | g
          · exact h21 _ _ (hP2 hk) g
          · exact absurd e.symm hki
          · exact h2g _ _ (hP2 hk) g
  · rintro listed a w hall ⟨u, rfl, hS, hT, -, -⟩
    exact hdone u w (fun i hi => hS i hi (hall i hi)) hT
  · rw [Array.getD_eq_getD_getElem?, Array.getElem?_replicate] at h
    split at h <;> cases h
end
end Go.Proofs.YtfceodbpkghkaaaGreatDoor
/- Appending to an empty row without room ('append([]T{}, xs...)'): nothing old is written. It speaks of no program. -/
namespace Go.Proofs.YtfceodbpkghkaaaGreatDoor
open Go.RowKit
set_option linter.unusedVariables false
set_option linter.unusedSimpArgs false

theorem run_app0 {P : Program} {w : World} {base : Nat} {t ty e : TypeId} {i : TypeInfo} {z : Value} {size bytes : Nat} (ht : P.underlying t = some (.slice e)) (hi : P.info? e = some i) (hz : i.zero = some z)
    (hsize : i.size = size) (hby : i.bytes = bytes) (hzs : z.cells.size = size) (hsz : 0 < size) {b : Nat} (hown : w.ownsRow base e size (.slice (some ⟨b, 0, none⟩) 0 0) 0 [])
    {a : Option Addr} {m c : Nat} {news : List Value} (hl : news.length = m * size) (hs : SrcAt w a news) (h63 : m ≤ maxLen) (hbytes : m * bytes ≤ 140737488355328) (hbase : base ≤ w.heap.size) :
    ∃ v' w', (Builtin.append_ #[t, t] ty #[.slice (some ⟨b, 0, none⟩) 0 0, .slice a m c]).run P w = .ok v' w' ∧ w'.ownsRow base e size v' m news ∧ w.grownBy w' none ∧ (v' = .slice (some ⟨b, 0, none⟩) 0 0 ∨ ∀ r, v'.ownBlock = some r → w.heap.size ≤ r) := by
  rcases Nat.eq_zero_or_pos m with h0 | hp
  · subst h0
    have hn : news = [] := List.eq_nil_of_length_eq_zero (by simpa using hl)
    subst hn
    refine ⟨.slice (some ⟨b, 0, none⟩) 0 0, w, ?_, hown, gr_refl _ _, .inl rfl⟩
    cases a with
    | none => simp [Builtin.append_, run_underlying ht, sizeOf, typeInfo, hi, Builtin.lenOf, Builtin.firstCells, storeCells]
    | some ad => simp [Builtin.append_, run_underlying ht, sizeOf, typeInfo, hi, Builtin.lenOf, Builtin.firstCells, storeCells, loadCells, loadCellsFrom]
  · have hne : news ≠ [] := by
      intro e
      have h2 : m * size = 0 := by rw [← hl, e]; rfl
      rcases Nat.mul_eq_zero.1 h2 with h | h <;> omega
    rcases hs with h | ⟨ad, rfl, h⟩
    · exact absurd h hne
    · obtain ⟨v', w', hr, r1, r2⟩ := run_append_arg_grows (P := P) w t ty e i z size bytes ht hi hz hsize hby hzs hsz ⟨b, 0, none⟩ 0 0 [] (by simp) (fun j y hj => by simp at hj) ad m c news hl h (by omega) (by omega) (by rw [Nat.zero_add]; exact hbytes)
      rw [Nat.zero_add, List.nil_append] at r1
      refine ⟨v', w', hr, ⟨r1.1, ?_⟩, r2, .inr fun r hr' => ?_⟩
      · rcases r1.2 with h | ⟨g, c', u, e1, e2, e3⟩
        · exact .inl h
        · exact .inr ⟨g, c', u, e1, Nat.le_trans hbase e2, e3⟩
      · rcases r1.2 with ⟨h, -⟩ | ⟨g, c', u, e1, e2, e3⟩
        · rw [h] at hr'; cases hr'
        · rw [e1] at hr'
          obtain rfl : g = r := by simpa [Value.ownBlock] using hr'
          exact e2
section
variable {P : Program} {Q : Exit → Act → World → Prop}
theorem wp_app0 {w : World} {o : Oper} {a : Act} {K : Act → World → Prop} (s x : Operand) (t : TypeId)
    (ho : o.op = .call { callee := .builtin .append, args := #[s, x], argTypes := #[t, t] }) {base : Nat} {e : TypeId} {i : TypeInfo} {z : Value} {size bytes : Nat} (ht : P.underlying t = some (.slice e)) (hi : P.info? e = some i) (hz : i.zero = some z)
    (hsize : i.size = size) (hby : i.bytes = bytes) (hzs : z.cells.size = size) (hsz : 0 < size) {b : Nat} (hs : a.eval s = .slice (some ⟨b, 0, none⟩) 0 0) (hown : w.ownsRow base e size (.slice (some ⟨b, 0, none⟩) 0 0) 0 [])
    {ad : Option Addr} {m c : Nat} {news : List Value} (hx : a.eval x = .slice ad m c) (hl : news.length = m * size) (hsr : SrcAt w ad news) (h63 : m ≤ maxLen) (hbytes : m * bytes ≤ 140737488355328) (hbase : base ≤ w.heap.size)
    (h : ∀ v' w', w'.ownsRow base e size v' m news → w.grownBy w' none → (v' = .slice (some ⟨b, 0, none⟩) 0 0 ∨ ∀ r, v'.ownBlock = some r → w.heap.size ≤ r) → K (a.put o.dst v') w') : o.wp P a w K Q := by
  obtain ⟨v', w', hrun, h2, h3, h4⟩ := run_app0 (ty := o.type) ht hi hz hsize hby hzs hsz hown hl (a := ad) (c := c) hsr h63 hbytes hbase
  unfold Oper.wp execOp
  simp only [ho, resolve, invoke, builtin, Sem.run_bind, Sem.run_pure, Result.andThen_ok, List.map_toArray, List.map_cons, List.map_nil, hs, hx, hrun]
  exact h v' w' h2 h3 h4
theorem wpl_app0 {w : World} {ops : Array Oper} {rest : List Oper} {o : Oper} {a : Act} (hgd : o.guard = none) (s x : Operand) (t : TypeId)
    (ho : o.op = .call { callee := .builtin .append, args := #[s, x], argTypes := #[t, t] }) {base : Nat} {e : TypeId} {i : TypeInfo} {z : Value} {size bytes : Nat} (ht : P.underlying t = some (.slice e)) (hi : P.info? e = some i) (hz : i.zero = some z)
    (hsize : i.size = size) (hby : i.bytes = bytes) (hzs : z.cells.size = size) (hsz : 0 < size) {b : Nat} (hs : a.eval s = .slice (some ⟨b, 0, none⟩) 0 0) (hown : w.ownsRow base e size (.slice (some ⟨b, 0, none⟩) 0 0) 0 [])
    {ad : Option Addr} {m c : Nat} {news : List Value} (hx : a.eval x = .slice ad m c) (hl : news.length = m * size) (hsr : SrcAt w ad news) (h63 : m ≤ maxLen) (hbytes : m * bytes ≤ 140737488355328) (hbase : base ≤ w.heap.size)
    (h : ∀ v' w', w'.ownsRow base e size v' m news → w.grownBy w' none → (v' = .slice (some ⟨b, 0, none⟩) 0 0 ∨ ∀ r, v'.ownBlock = some r → w.heap.size ≤ r) → wpList P ops Q rest (a.put o.dst v') w') : wpList P ops Q (o :: rest) a w :=
  wpList_plain hgd fun _ hK => wp_app0 s x t ho ht hi hz hsize hby hzs hsz hs hown hx hl hsr h63 hbytes hbase fun v' w' h2 h3 h4 => hK _ _ (h v' w' h2 h3 h4)
end
end Go.Proofs.YtfceodbpkghkaaaGreatDoor
/- '[]byte(s)' as one operation of a region that draws. It speaks of no program. -/
namespace Go.Proofs.YtfceodbpkghkaaaGreatDoor
open Go.RowKit
section
variable {P : Program} {Q : Exit → Act → World → Prop}
theorem wp_s2b {w : World} {o : Oper} {a : Act} {K : Act → World → Prop} (src dst e : TypeId) (x : Operand) (ho : o.op = .convert src dst x) (hs : P.underlying src = some .string) (hd : P.underlying dst = some (.slice e)) (he : P.underlying e = some (.int .u8))
    (s : ByteArray) (hx : a.eval x = .string s) (hsz : s.size ≤ maxLen)
    (h : ∀ g c w', w.heap.size ≤ g → Row8 w' e g c s.data.toList → w.grownBy w' none → K (a.put o.dst (.slice (some ⟨g, 0, none⟩) s.size c)) w') : o.wp P a w K Q := by
  unfold Oper.wp execOp
  simp only [ho, hx, Sem.run_bind, Sem.run_pure, run_bytes_of_string (P := P) w src dst e s hs hd he, Result.andThen_ok]
  refine h w.heap.size _ _ (Nat.le_refl _) ?_ (gr_alloc (gr_drew (gr_refl _ _)) _)
  have hlen := Lib.size_eq s
  have hge := grownCap_ge w s.size 0 e
  have hle := grownCap_le_maxLen w s.size 0 e hsz
  refine ⟨_, _, _, heap_alloc_new w.drew _, .inr (Nat.le_refl _), ?_, by omega, hle, fun i hi => ?_⟩
  · have : s.data.size = s.size := rfl
    simp [bytesRow, this]; omega
  · have : s.data.size = s.size := rfl
    rw [bytesRow, Array.getElem?_append_left (by simp [this]; omega)]
    rw [Array.getElem?_map, ← Array.getElem?_toList, List.getElem?_eq_getElem hi]
    rw [List.getD_eq_getElem?_getD, List.getElem?_eq_getElem hi]
    rfl
end
end Go.Proofs.YtfceodbpkghkaaaGreatDoor
/- 'string(b)', its run. -/
namespace Go.Proofs.YtfceodbpkghkaaaGreatDoor
open Go.RowKit

theorem run_b2s {P : Program} {w : World} {src dst e : TypeId} (hs : P.underlying src = some (.slice e)) (he : P.underlying e = some (.int .u8)) (hd : P.underlying dst = some .string)
    {v : Value} {l : List UInt8} (hb : Bytes w v l) : (convert src dst v).run P w = .ok (str l) w := by
  obtain ⟨ad, c, rfl, h1, h2, h3⟩ := hb
  rw [run_convert_bytes_string w src dst e _ _ _ hs he hd]
  rcases l with _ | ⟨x, l⟩
  · cases ad with
    | none => simp [Conv.bytesToString, str]; rfl
    | some ad =>
      have := run_bytesToString (P := P) w ad 0 c [] (by have := run_loadCells_list (P := P) w ad [] (by intro j v h; simp at h); simpa using this)
      exact this.trans rfl
  · obtain ⟨b, of, rfl, hc⟩ := h3 (by simp)
    have := run_bytesToString (P := P) w ⟨b, of, none⟩ (x :: l).length c ((x :: l).map (fun b => (b.toNat : Int))) (by
      have := run_loadCells_list (P := P) w ⟨b, of, none⟩ (((x :: l).map (fun b => (b.toNat : Int))).map (Value.int .u8)) (by
        intro j v hj
        simp only [List.getElem?_map, Option.map_eq_some_iff] at hj
        obtain ⟨n, ⟨y, hy, rfl⟩, rfl⟩ := hj
        have hjl : j < (x :: l).length := (List.getElem?_eq_some_iff.1 hy).1
        rw [Go.WideShapes.add_plain, hc j hjl, List.getD_eq_getElem?_getD, hy]
        rfl)
      simpa using this)
    rw [this, foldl_push_byteCells]
    simp [str]
end Go.Proofs.YtfceodbpkghkaaaGreatDoor
