/- The same region rules within a round of a range over a function (the wide fence). It speaks of no program. -/
import Derived.Test.YtnapfecalckajaaDoorReg3
import Derived.OrdersIn
import Derived.RangeFuncCalls
import Derived.TacticsIn
namespace Go.Proofs.YtnapfecalckajaaDoor
open Go.RowKit

section
variable {P : Program} {ops : Array Oper} {Q : Exit → Act → World → Prop} {md : Region.Mode} {lp nf : Nat}

def noDefB (l : List Oper) : Bool := l.all fun (o : Oper) => match o.op with | .defer _ => false | _ => true
def NoOut (Q : Exit → Act → World → Prop) (e : Exit) (a : Act) (w : World) : Prop := e ≠ .outgrown ∧ Q e a w
theorem noOut_lets (Q : Exit → Act → World → Prop) : ¬ LetsOut (NoOut Q) := fun ⟨_, _, h⟩ => h.1 rfl
theorem callsR {n : Nat} {f : FuncId} {args : Array Value} {w : World} {R : Ending → World → Prop} (h : Calls P f args w R) : CallsIn (Fence.wide.inRound lp) n P f args w R :=
  CallsIn.inRound lp (callsIn_wide.2 h)
theorem rowsR {n : Nat} {row : String} {args : Array Value} {w : World} {R : Value → World → Prop} (h : Rows P row args w R) : RowsIn (Fence.wide.inRound lp) n P row args w R := fun c cs _ =>
  let ⟨v, w', r, s⟩ := h c cs; ⟨v, w', r, stepsIn_wide.2 s⟩
theorem oper_in {o : Oper} {a : Act} {w : World} {K : Act → World → Prop} (hd : ∀ c, o.op ≠ .defer c) (h : o.wp P a w K Q) : o.wpIn (Fence.wide.inRound lp) nf P a w K Q := by
  unfold Oper.wpIn
  refine ⟨fun _ _ => trivial, ?_⟩
  rw [Fence.inRound_round, Oper.semAt_some lp _ _ hd]
  unfold Oper.wp at h
  generalize (execOp a.eval o).run P w = r at *
  cases r with
  | ok x w' =>
    cases x <;> simp only [Oper.uponIn, Oper.upon] at h ⊢ <;>
      first
        | exact h
        | exact ⟨fun e => by simp [Fence.wide] at e, callsR h⟩
        | exact ⟨fun e => by simp [Fence.wide] at e, rowsR h⟩
        | exact h.elim
  | halt x w' => cases x <;> simp only [Oper.uponIn, Oper.upon] at h ⊢ <;> exact h
theorem opIn_of {i : Nat} {a : Act} {w : World} {K : Act → World → Prop} (hl : ¬ LetsOut Q) (hd : ∀ o : Oper, ops[i]? = some o → ∀ c, o.op ≠ .defer c) (h : wpOp P ops Q i K a w) : wpOpIn (Fence.wide.inRound lp) nf P ops Q i K a w := by
  unfold wpOp at h
  unfold wpOpIn
  cases ho : ops[i]? with
  | none => rw [ho] at h; exact h
  | some o =>
    rw [ho] at h
    dsimp only at h ⊢
    by_cases hw : Region.wanted o (yielded ops a.tmps) = true
    · rw [if_pos hw] at h ⊢
      rcases h with h | h
      · exact oper_in (hd o ho) h
      · exact absurd h.2 hl
    · rw [if_neg hw] at h ⊢
      exact ⟨fun _ _ => trivial, h⟩
theorem anyIn_of (hl : ¬ LetsOut Q) (hd : ∀ (i : Nat) (o : Oper), ops[i]? = some o → ∀ c, o.op ≠ .defer c) : ∀ fuel listed a w, wpAny P md ops Q fuel listed a w → wpAnyIn (Fence.wide.inRound lp) nf P md ops Q fuel listed a w
  | 0, _, _, _, h => h
  | fuel + 1, _, _, _, h => ⟨h.1, fun i hi => wpOpIn_mono (fun a' w' h' => anyIn_of hl hd fuel _ a' w' h') (opIn_of hl (hd i) (h.2 i hi))⟩
theorem nodef_of {l : List Oper} (h : noDefB l = true) : ∀ (i : Nat) (o : Oper), l.toArray[i]? = some o → ∀ c, o.op ≠ .defer c := fun i o ho c hc => by
  have h1 := List.all_eq_true.1 h o (List.mem_of_getElem? (i := i) (by simpa using ho))
  rw [hc] at h1
  cases h1
theorem wpAny_spec3 {a0 : Act} {w0 : World} {l : List Oper} (n : Nat) (k : Nat) (row : Option Nat) (hfw : fwdB .any l.toArray = true) (hn : Nat.ble (n + 1) l.toArray.size = true)
    (hs : Region.sinkB .any l.toArray n = true) (hc : Region.chainB .any l.toArray n = true) (hseq : Region.seqB .any l.toArray (l.drop n).length n (headArr l.toArray.size n) = true)
    (ds : List (Option Tmp)) (hds : dstB (l.take n).toArray ds = true) (F : (Nat → Value) → Act) (hF : ∀ u, fill a0 ds u = F u)
    (h0 : a0 = fill a0 ds (fun i => a0.tmps.getD ((ds.getD i none).getD 0) undef)) (hput : AllLt n fun i => ∀ u v, (fill a0 ds u).put (ds.getD i none) v = fill a0 ds (upd u i v))
    (S : Nat → Value → World → Prop) (hmono : AllLt n fun i => ∀ v w w', S i v w → w.grownBy w' (bif Nat.beq i k then none else row) → S i v w')
    (deps : List (List Nat)) (hdeps : depsB .any l.toArray deps = true) (hobl : OblL3 P l.toArray Q F S deps w0 k row 0 (l.take n))
    (hdone : ∀ u w, (∀ i, i < n → S i (u i) w) → w0.grownBy w (bif Nat.ble (k + 1) n then row else none) → wpList P l.toArray Q (l.drop n) (F u) w) : wpAny P .any l.toArray Q l.toArray.size (Array.replicate l.toArray.size false) a0 { w0 with drawn := w0.drawn + 1 } := by
  obtain rfl : F = fill a0 ds := funext fun u => (hF u).symm
  have hn' : n < l.toArray.size := Nat.le_of_ble_eq_true hn
  have hnl : n < l.length := by simpa using hn'
  have inv0 : HeadInv .any l.toArray n (Array.replicate l.toArray.size false) :=
    ⟨by simp, fun j oj _ hl => (by rw [getD_replicate_false] at hl; cases hl), fun t _ ht => getD_in (by simpa using ht) (getD_replicate_false _ _)⟩
  refine (wpAny_head hn' hfw hs hc (fun listed a w => ∃ u, a = fill a0 ds u ∧ (∀ i, i < n → listed.getD i false = true → S i (u i) w) ∧ w0.grownBy w (bif listed.getD k false && Nat.ble (k + 1) n then row else none)) ?_ ?_ l.toArray.size _ _ _ inv0 (by simp) ⟨_, h0, fun i hi h => ?_, ?_⟩)
  · rintro i listed a w hi hsz hun ⟨u, rfl, hS, hg⟩ hl
    have hi' : i < l.toArray.size := by omega
    have hio : l.toArray[i]? = some (l.toArray[i]'hi') := Array.getElem?_eq_getElem hi'
    have hio2 : (l.take n)[i]? = some (l.toArray[i]'hi') := by rw [List.getElem?_take, if_pos hi]; simp
    refine wpOp_step hio fun K hK => ?_
    have hob := obl_at3 (l.take n) 0 hobl i _ hio2
    rw [Nat.zero_add] at hob
    refine hob u w ?_ (fun d hd => ?_) K (fun v w' hv g => ?_)
    · by_cases hik : i = k
      · subst hik
        rw [hun] at hg
        simpa using hg
      · have hb : Nat.beq i k = false := by rw [Bool.eq_false_iff]; intro e; exact hik (Nat.eq_of_beq_eq_true e)
        rw [hb]
        cases h : listed.getD k false && Nat.ble (k + 1) n with
        | true => rw [h] at hg; exact hg
        | false => rw [h] at hg; exact gr_none hg
    · have h1 := List.all_eq_true.1 hdeps i (List.mem_range.2 hi')
      rw [hio] at h1
      simp only [Option.map_some, Option.getD_some, List.all_eq_true] at h1
      have h2 := h1 d hd
      rw [Array.any_eq_true] at h2
      obtain ⟨k', hk', h3⟩ := h2
      simp only [Bool.and_eq_true] at h3
      have hd2 : ((l.toArray[i]'hi').after[k']).on = d := Nat.eq_of_beq_eq_true h3.2
      have h4 := hl _ hio _ (Array.getElem_mem hk') h3.1
      rw [hd2] at h4
      have hdi : d < i := by
        have h5 := List.all_eq_true.1 hfw i (List.mem_range.2 hi')
        rw [hio] at h5
        simp only [Option.map_some, Option.getD_some, Array.all_eq_true] at h5
        have h6 := h5 k' hk'
        rw [h3.1] at h6
        simp at h6
        rw [← hd2]; simpa using h6
      exact hS d (by omega) h4
    · have hdst : (l.toArray[i]'hi').dst = ds.getD i none := dst_of hds (by simpa using hio2)
      rw [hdst, hput i hi]
      refine hK _ _ ⟨upd u i v, rfl, fun j hj hlj => ?_, ?_⟩
      · by_cases hji : j = i
        · subst hji; rw [upd_same]; exact hv
        · rw [upd_other u v hji]
          have hlj' : listed.getD j false = true := by
            rw [Array.getD_eq_getD_getElem?, Array.getElem?_setIfInBounds, if_neg (by omega)] at hlj
            rw [Array.getD_eq_getD_getElem?]; exact hlj
          refine hmono j hj _ _ _ (hS j hj hlj') ?_
          by_cases hik : i = k
          · subst hik
            have hb : Nat.beq j i = false := by rw [Bool.eq_false_iff]; intro e; exact hji (Nat.eq_of_beq_eq_true e)
            have hb2 : Nat.beq i i = true := Nat.beq_refl i
            rw [hb]; rw [hb2] at g; exact g
          · have hb : Nat.beq i k = false := by rw [Bool.eq_false_iff]; intro e; exact hik (Nat.eq_of_beq_eq_true e)
            rw [hb] at g
            exact gr_none g
      · by_cases hik : i = k
        · subst hik
          have hb2 : Nat.beq i i = true := Nat.beq_refl i
          rw [hb2] at g
          rw [hun] at hg
          have h7 : (listed.setIfInBounds i true).getD i false = true := by
            rw [Array.getD_eq_getD_getElem?, Array.getElem?_setIfInBounds, if_pos rfl, if_pos (by omega)]; rfl
          have h8 : Nat.ble (i + 1) n = true := Nat.ble_eq_true_of_le hi
          rw [h7, h8]
          exact gr_trans (gr_none (by simpa using hg)) g
        · have hb : Nat.beq i k = false := by rw [Bool.eq_false_iff]; intro e; exact hik (Nat.eq_of_beq_eq_true e)
          rw [hb] at g
          have h7 : (listed.setIfInBounds i true).getD k false = listed.getD k false := by
            rw [Array.getD_eq_getD_getElem?, Array.getElem?_setIfInBounds, if_neg hik, Array.getD_eq_getD_getElem?]
          rw [h7]
          exact gr_trans hg (gr_none g)
  · rintro a w ⟨u, rfl, hS, hg⟩
    have hhead : ∀ i, i < n → (headArr l.toArray.size n).getD i false = true := fun i hi => by
      rw [Array.getD_eq_getD_getElem?]
      simp only [headArr, List.getElem?_toArray]
      rw [List.getElem?_append_left (by simpa using hi), List.getElem?_replicate, if_pos hi]; rfl
    have hk : ((headArr l.toArray.size n).getD k false && Nat.ble (k + 1) n) = Nat.ble (k + 1) n := by
      cases h : Nat.ble (k + 1) n with
      | false => simp
      | true => rw [hhead k (Nat.le_of_ble_eq_true h)]; rfl
    rw [hk] at hg
    have hd := hdone u w (fun i hi => hS i hi (hhead i hi)) hg
    have := wpAny_of_seq (md := .any) (Q' := Q) (l.drop n) n (headArr l.toArray.size n) (fill a0 ds u) w (fun j => by simp [List.getElem?_drop]) hseq hd
    have hlen : (l.drop n).length = l.toArray.size - n := by simp
    rwa [hlen] at this
  · rw [getD_replicate_false] at h; cases h
  · rw [getD_replicate_false]
    exact gr_drew (gr_refl _ _)
theorem wpIn_region_spec3 {id : Nat} {a0 : Act} {w0 : World} {l : List Oper} (hnd : noDefB l = true) (n : Nat) (k : Nat) (row : Option Nat) (hm : P.follows .mixedOrders = true) (hfw : fwdB .any l.toArray = true) (hn : Nat.ble (n + 1) l.toArray.size = true)
    (hs : Region.sinkB .any l.toArray n = true) (hc : Region.chainB .any l.toArray n = true) (hseq : Region.seqB .any l.toArray (l.drop n).length n (headArr l.toArray.size n) = true)
    (ds : List (Option Tmp)) (hds : dstB (l.take n).toArray ds = true) (F : (Nat → Value) → Act) (hF : ∀ u, fill a0 ds u = F u)
    (h0 : a0 = fill a0 ds (fun i => a0.tmps.getD ((ds.getD i none).getD 0) undef)) (hput : AllLt n fun i => ∀ u v, (fill a0 ds u).put (ds.getD i none) v = fill a0 ds (upd u i v))
    (S : Nat → Value → World → Prop) (hmono : AllLt n fun i => ∀ v w w', S i v w → w.grownBy w' (bif Nat.beq i k then none else row) → S i v w')
    (deps : List (List Nat)) (hdeps : depsB .any l.toArray deps = true) (hobl : OblL3 P l.toArray (NoOut Q) F S deps w0 k row 0 (l.take n))
    (hdone : ∀ u w, (∀ i, i < n → S i (u i) w) → w0.grownBy w (bif Nat.ble (k + 1) n then row else none) → wpList P l.toArray (NoOut Q) (l.drop n) (F u) w) : (Code.region id l.toArray true).wpIn (Fence.wide.inRound lp) nf P Q a0 w0 := by
  have h := wpAny_spec3 (Q := NoOut Q) n k row hfw hn hs hc hseq ds hds F hF h0 hput S hmono deps hdeps hobl hdone
  exact Code.wpIn_mono (fun _ _ _ h => h.2) (wpIn_region_any hm (anyIn_of (noOut_lets Q) (nodef_of hnd) _ _ _ _ h))
end
end Go.Proofs.YtnapfecalckajaaDoor
