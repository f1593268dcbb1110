/- Texts of one proof, put together: Reg, Reg3. -/
import Derived.Test.YtmofnoconhgjmaaGreatDoorLib
import Derived.RegionTactic
import Derived.StillTail
/- Regions that draw their order: one obligation for each operation. It speaks of no program. -/
namespace Go.Proofs.YtmofnoconhgjmaaGreatDoor
open Go.RowKit

section
variable {P : Program} {ops : Array Oper} {Q : Exit → Act → World → Prop} {md : Region.Mode}

/-- Every edge that binds leads back. -/
def fwdB (md : Region.Mode) (ops : Array Oper) : Bool :=
  (List.range ops.size).all fun i => ((ops[i]?).map (·.after.all fun e => !Region.binds md e || decide (e.on < i))).getD true
theorem ready_nil (h : fwdB md ops = true) {listed : Array Bool} (hs : listed.size = ops.size) (hr : Region.ready md ops listed = []) : ∀ i, i < ops.size → listed.getD i false = true := by
  intro i
  induction i using Nat.strongRecOn with
  | _ i ih =>
    intro hi
    cases hl : listed.getD i false with
    | true => rfl
    | false =>
      exfalso
      have hm : i ∈ Region.ready md ops listed := by
        unfold Region.ready
        refine List.mem_filter.2 ⟨List.mem_range.2 hi, ?_⟩
        have h1 : listed.getD i true = false := by
          simp only [Array.getD_eq_getD_getElem?, Array.getElem?_eq_getElem (show i < listed.size by omega), Option.getD_some] at hl ⊢
          exact hl
        rw [h1, Array.getElem?_eq_getElem hi]
        simp only [Bool.not_false, Bool.true_and, Option.map_some, Option.getD_some]
        have h2 := List.all_eq_true.1 h i (List.mem_range.2 hi)
        rw [Array.getElem?_eq_getElem hi] at h2
        simp only [Option.map_some, Option.getD_some] at h2
        rw [Array.all_eq_true] at h2 ⊢
        intro j hj
        have h3 := h2 j hj
        simp only [Bool.or_eq_true, decide_eq_true_eq] at h3 ⊢
        rcases h3 with h3 | h3
        · exact .inl h3
        · exact .inr (ih _ h3 (by omega))
      rw [hr] at hm
      cases hm
theorem ready_mem {listed : Array Bool} {i : Nat} (h : i ∈ Region.ready md ops listed) : i < ops.size ∧ (listed.size = ops.size → listed[i]? = some false) ∧ ∀ o, ops[i]? = some o → ∀ e ∈ o.after, Region.binds md e = true → listed.getD e.on false = true := by
  unfold Region.ready at h
  obtain ⟨h1, h2⟩ := List.mem_filter.1 h
  have hi := List.mem_range.1 h1
  simp only [Bool.and_eq_true, Bool.not_eq_true'] at h2
  refine ⟨hi, fun hs => ?_, fun o ho e he hb => ?_⟩
  · have h3 := h2.1
    rw [Array.getD_eq_getD_getElem?, Array.getElem?_eq_getElem (by omega)] at h3
    rw [Array.getElem?_eq_getElem (by omega)]
    simpa using h3
  · have h3 := h2.2
    rw [ho] at h3
    simp only [Option.map_some, Option.getD_some, Array.all_eq_true] at h3
    obtain ⟨j, hj, rfl⟩ := Array.getElem_of_mem he
    have h4 := h3 j hj
    rw [hb] at h4
    simpa using h4
theorem wpAny_inv (hfw : fwdB md ops = true) (I : Array Bool → Act → World → Prop)
    (hstep : ∀ i listed a w, i < ops.size → listed.size = ops.size → I listed a w → (∀ o, ops[i]? = some o → ∀ e ∈ o.after, Region.binds md e = true → listed.getD e.on false = true) → wpOp P ops Q i (I (listed.setIfInBounds i true)) a w)
    (hdone : ∀ listed a w, (∀ i, i < ops.size → listed.getD i false = true) → I listed a w → Q .normal a w) :
    ∀ fuel listed a w, listed.size = ops.size → listed.toList.count false ≤ fuel → I listed a w → wpAny P md ops Q fuel listed a w := by
  intro fuel
  induction fuel with
  | zero =>
    intro listed a w hs hc hI
    have hr : Region.ready md ops listed = [] := by
      cases hr : Region.ready md ops listed with
      | nil => rfl
      | cons i rest =>
        have := ready_mem (md := md) (ops := ops) (listed := listed) (i := i) (by rw [hr]; simp)
        have h0 := this.2.1 hs
        have : false ∈ listed.toList := by
          rw [← Array.getElem?_toList] at h0
          exact List.mem_of_getElem? h0
        have := List.count_pos_iff.2 this
        omega
    exact ⟨hr, hdone _ _ _ (ready_nil hfw hs hr) hI⟩
  | succ fuel ih =>
    intro listed a w hs hc hI
    refine ⟨fun hr => hdone _ _ _ (ready_nil hfw hs hr) hI, fun i hi => ?_⟩
    obtain ⟨h1, h2, h3⟩ := ready_mem hi
    refine wpOp_mono (fun a' w' hI' => ih _ _ _ (by simpa using hs) ?_ hI') (hstep i listed a w h1 hs hI h3)
    have h0 := h2 hs
    rw [← Array.getElem?_toList] at h0
    obtain ⟨hlt, h0'⟩ := List.getElem?_eq_some_iff.1 h0
    have hpos := List.count_pos_iff.2 (List.mem_of_getElem? h0)
    have e : (listed.toList.set i true).count false = listed.toList.count false - 1 := by rw [List.count_set hlt, h0']; simp
    rw [Array.toList_setIfInBounds, e]
    omega
/-- One value turned. -/
def upd (u : Nat → Value) (i : Nat) (v : Value) : Nat → Value := fun j => bif Nat.beq j i then v else u j
theorem upd_same (u : Nat → Value) (i : Nat) (v : Value) : upd u i v i = v := by simp [upd]
theorem upd_other (u : Nat → Value) {i j : Nat} (v : Value) (h : j ≠ i) : upd u i v j = u j := by
  have : Nat.beq j i = false := by rw [Bool.eq_false_iff]; intro e; exact h (Nat.eq_of_beq_eq_true e)
  simp [upd, this]
def depsB (md : Region.Mode) (ops : Array Oper) (deps : List (List Nat)) : Bool :=
  (List.range ops.size).all fun i => ((ops[i]?).map fun o => (deps.getD i []).all fun d => o.after.any fun e => Region.binds md e && Nat.beq e.on d).getD true
/-- Where each operation's value goes. -/
def dstB (ops : Array Oper) (ds : List (Option Tmp)) : Bool := (List.range ops.size).all fun i => (ops[i]?).map (·.dst) == some (ds.getD i none)
theorem dst_of {ds : List (Option Tmp)} (h : dstB ops ds = true) {i : Nat} {o : Oper} (ho : ops[i]? = some o) : o.dst = ds.getD i none := by
  have hi : i < ops.size := (Array.getElem?_eq_some_iff.1 ho).1
  have h1 := List.all_eq_true.1 h i (List.mem_range.2 hi)
  rw [ho] at h1
  simpa using h1
/-- A frame with the operations' values in it. -/
def fill (a : Act) (ds : List (Option Tmp)) (u : Nat → Value) : Act := (ds.zipIdx).foldl (fun a x => a.put x.1 (u x.2)) a
def Obl (P : Program) (ops : Array Oper) (Q : Exit → Act → World → Prop) (F : (Nat → Value) → Act) (S : Nat → Value → World → Prop) (deps : List (List Nat)) (w0 : World) (i : Nat) : Prop :=
  ∀ o, ops[i]? = some o → ∀ u w, w0.grownBy w none → (∀ d ∈ deps.getD i [], S d (u d) w) → ∀ K : Act → World → Prop, (∀ v w', S i v w' → w.grownBy w' none → K ((F u).put o.dst v) w') →
    if Region.wanted o (yielded ops (F u).tmps) = true then Oper.wp P o (F u) w K Q else K ((F u).put o.dst undef) w
theorem wp_region_spec {id : Nat} {a0 : Act} {w0 : World} (hm : P.follows .mixedOrders = true) (hfw : fwdB .any ops = true) {n : Nat} (hn : ops.size = n)
    (F : (Nat → Value) → Act) (ds : List (Option Tmp)) (hds : dstB ops ds = true) (u0 : Nat → Value) (h0 : a0 = F u0) (hput : ∀ i, i < n → ∀ u v, (F u).put (ds.getD i none) v = F (upd u i v))
    (S : Nat → Value → World → Prop) (hmono : ∀ i, i < n → ∀ v w w', S i v w → w.grownBy w' none → S i v w')
    (deps : List (List Nat)) (hdeps : depsB .any ops deps = true) (hobl : ∀ i, i < n → Obl P ops Q F S deps w0 i)
    (hdone : ∀ u w, (∀ i, i < n → S i (u i) w) → w0.grownBy w none → Q .normal (F u) w) : (Code.region id ops true).wp P Q a0 w0 := by
  subst hn
  have hnew : ∀ i, i < ops.size → ∀ (u : Nat → Value) v w w' (listed : Array Bool), listed.size = ops.size → (∀ i, i < ops.size → listed.getD i false = true → S i (u i) w) → S i v w' → w.grownBy w' none →
      ∀ j, j < ops.size → (listed.setIfInBounds i true).getD j false = true → S j (upd u i v j) w' := by
    intro i hi u v w w' listed hs hS hv g j hj hlj
    by_cases hji : j = i
    · subst hji; rw [upd_same]; exact hv
    · rw [upd_other u v hji]
      refine hmono j hj _ _ _ (hS j hj ?_) g
      rw [Array.getD_eq_getD_getElem?, Array.getElem?_setIfInBounds, if_neg (by omega)] at hlj
      rw [Array.getD_eq_getD_getElem?]; exact hlj
  refine wp_region_any hm (wpAny_inv hfw (fun listed a w => ∃ u, a = F u ∧ (∀ i, i < ops.size → listed.getD i false = true → S i (u i) w) ∧ w0.grownBy w none) ?_ ?_ ops.size _ _ _ (by simp) (by simp) ⟨u0, h0, fun i hi h => ?_, gr_drew (gr_refl _ _)⟩)
  · rintro i listed a w hi hs ⟨u, rfl, hS, hg⟩ hl
    refine wpOp_step (Array.getElem?_eq_getElem hi) fun K hK => ?_
    refine hobl i hi _ (Array.getElem?_eq_getElem hi) u w hg (fun d hd => ?_) K (fun v w' hv g => by
      rw [dst_of hds (Array.getElem?_eq_getElem hi), hput i hi]
      exact hK _ _ ⟨upd u i v, rfl, fun j hj hlj => hnew i hi u v w w' listed hs hS hv g j hj hlj, gr_trans hg g⟩)
    · have h1 := List.all_eq_true.1 hdeps i (List.mem_range.2 hi)
      rw [Array.getElem?_eq_getElem hi] at h1
      simp only [Option.map_some, Option.getD_some, List.all_eq_true] at h1
      have h2 := h1 d hd
      rw [Array.any_eq_true] at h2
      obtain ⟨k, hk, h3⟩ := h2
      simp only [Bool.and_eq_true] at h3
      have hd2 : (ops[i].after[k]).on = d := Nat.eq_of_beq_eq_true h3.2
      have h4 := hl _ (Array.getElem?_eq_getElem hi) _ (Array.getElem_mem hk) h3.1
      rw [hd2] at h4
      refine hS d ?_ h4
      have : listed[d]? = some true := by
        rw [Array.getD_eq_getD_getElem?] at h4
        cases h : listed[d]? with
        | none => rw [h] at h4; cases h4
        | some b => rw [h] at h4; simpa using h4
      have := (Array.getElem?_eq_some_iff.1 this).1
      omega
  · rintro listed a w hall ⟨u, rfl, hS, hg⟩
    exact hdone u w (fun i hi => hS i hi (hall i hi)) hg
  · rw [Array.getD_eq_getD_getElem?, Array.getElem?_replicate] at h
    split at h <;> cases h
def AllLt (n : Nat) (p : Nat → Prop) : Prop := ∀ i, i < n → p i
def OblAt (P : Program) (ops : Array Oper) (Q : Exit → Act → World → Prop) (F : (Nat → Value) → Act) (S : Nat → Value → World → Prop) (deps : List (List Nat)) (w0 : World) (i : Nat) (o : Oper) : Prop :=
  ∀ u w, w0.grownBy w none → (∀ d ∈ deps.getD i [], S d (u d) w) → ∀ K : Act → World → Prop, (∀ v w', S i v w' → w.grownBy w' none → K ((F u).put o.dst v) w') →
    if Region.wanted o (yielded ops (F u).tmps) = true then Oper.wp P o (F u) w K Q else K ((F u).put o.dst undef) w
def OblL (P : Program) (ops : Array Oper) (Q : Exit → Act → World → Prop) (F : (Nat → Value) → Act) (S : Nat → Value → World → Prop) (deps : List (List Nat)) (w0 : World) : Nat → List Oper → Prop
  | _, [] => True
  | i, o :: rest => OblAt P ops Q F S deps w0 i o ∧ OblL P ops Q F S deps w0 (i + 1) rest
theorem obl_at {F : (Nat → Value) → Act} {S : Nat → Value → World → Prop} {deps : List (List Nat)} {w0 : World} : ∀ (l : List Oper) (i : Nat), OblL P ops Q F S deps w0 i l → ∀ j o, l[j]? = some o → OblAt P ops Q F S deps w0 (i + j) o
  | [], _, _, j, o, h => by simp at h
  | x :: l, i, h, 0, o, ho => by
    obtain rfl : x = o := by simpa using ho
    exact h.1
  | x :: l, i, h, j + 1, o, ho => by
    have := obl_at l (i + 1) h.2 j o (by simpa using ho)
    rw [show i + (j + 1) = i + 1 + j by omega]
    exact this
theorem wp_region_spec2 {id : Nat} {a0 : Act} {w0 : World} {l : List Oper} (hm : P.follows .mixedOrders = true) (hfw : fwdB .any l.toArray = true) {n : Nat} (hn : l.toArray.size = n)
    (ds : List (Option Tmp)) (hds : dstB l.toArray ds = true) (F : (Nat → Value) → Act) (hF : ∀ u, fill a0 ds u = F u)
    (h0 : a0 = fill a0 ds (fun i => a0.tmps.getD ((ds.getD i none).getD 0) undef)) (hput : AllLt n fun i => ∀ u v, (fill a0 ds u).put (ds.getD i none) v = fill a0 ds (upd u i v))
    (S : Nat → Value → World → Prop) (hmono : AllLt n fun i => ∀ v w w', S i v w → w.grownBy w' none → S i v w')
    (deps : List (List Nat)) (hdeps : depsB .any l.toArray deps = true) (hobl : OblL P l.toArray Q F S deps w0 0 l)
    (hdone : ∀ u w, (∀ i, i < n → S i (u i) w) → w0.grownBy w none → Q .normal (F u) w) : (Code.region id l.toArray true).wp P Q a0 w0 := by
  obtain rfl : F = fill a0 ds := funext fun u => (hF u).symm
  refine wp_region_spec hm hfw hn _ ds hds _ h0 hput S hmono deps hdeps (fun i _ o ho u w => ?_) hdone
  have := obl_at l 0 hobl i o (by simpa using ho)
  rw [Nat.zero_add] at this
  exact this u w
theorem all_zero (p : Nat → Prop) : AllLt 0 p := fun _ h => absurd h (Nat.not_lt_zero _)
theorem all_succ {p : Nat → Prop} {n : Nat} (h : AllLt n p) (h1 : p n) : AllLt (n + 1) p := fun i hi => by
  rcases Nat.lt_succ_iff_lt_or_eq.1 hi with h2 | h2
  · exact h i h2
  · subst h2; exact h1
end
end Go.Proofs.YtmofnoconhgjmaaGreatDoor
/- Regions that draw their order: a head in whatever order, one of whose operations may write one block; a tail in the text's order. It speaks of no program. -/
namespace Go.Proofs.YtmofnoconhgjmaaGreatDoor
open Go.RowKit

section
variable {P : Program} {ops : Array Oper} {Q : Exit → Act → World → Prop} {md : Region.Mode}

def headArr (N n : Nat) : Array Bool := (List.replicate n true ++ List.replicate (N - n) false).toArray
theorem head_eq {listed : Array Bool} {n : Nat} (inv : HeadInv md ops n listed) (hn : n ≤ ops.size) (h : ∀ i, i < n → listed.getD i false = true) : listed = headArr ops.size n := by
  have hs := inv.size
  refine Array.ext (by simp [headArr]; omega) fun i h1 h2 => ?_
  by_cases hi : i < n
  · have := h i hi
    rw [Array.getD_eq_getD_getElem?, Array.getElem?_eq_getElem h1] at this
    simp only [Option.getD_some] at this
    rw [this]
    simp only [headArr, List.getElem_toArray]
    rw [List.getElem_append_left (by simpa using hi)]
    simp
  · have := inv.tail i (by omega) (by omega)
    rw [Array.getD_eq_getD_getElem?, Array.getElem?_eq_getElem h1] at this
    simp only [Option.getD_some] at this
    rw [this]
    simp only [headArr, List.getElem_toArray]
    rw [List.getElem_append_right (by simp; omega)]
    simp
theorem wpAny_head {n : Nat} (hn : n < ops.size) (hfw : fwdB md ops = true) (hs : Region.sinkB md ops n = true) (hc : Region.chainB md ops n = true) (I : Array Bool → Act → World → Prop)
    (hstep : ∀ i listed a w, i < n → listed.size = ops.size → listed.getD i false = false → I listed a w → (∀ o, ops[i]? = some o → ∀ e ∈ o.after, Region.binds md e = true → listed.getD e.on false = true) → wpOp P ops Q i (I (listed.setIfInBounds i true)) a w)
    (hdone : ∀ a w, I (headArr ops.size n) a w → wpAny P md ops Q (ops.size - n) (headArr ops.size n) a w) :
    ∀ fuel listed a w, HeadInv md ops n listed → listed.toList.count false = fuel → I listed a w → wpAny P md ops Q fuel listed a w := by
  intro fuel
  induction fuel with
  | zero =>
    intro listed a w inv hcnt hI
    exfalso
    have h1 := inv.tail n (Nat.le_refl _) hn
    rw [Array.getD_eq_getD_getElem?, Array.getElem?_eq_getElem (by rw [inv.size]; exact hn)] at h1
    have : false ∈ listed.toList := List.mem_of_getElem? (i := n) (by rw [Array.getElem?_toList, Array.getElem?_eq_getElem (by rw [inv.size]; exact hn)]; simpa using h1)
    have := List.count_pos_iff.2 this
    omega
  | succ fuel ih =>
    intro listed a w inv hcnt hI
    by_cases hall : ∀ i, i < n → listed.getD i false = true
    · have he := head_eq inv (by omega) hall
      have hf : ops.size - n = fuel + 1 := by
        rw [← hcnt, he]
        simp [headArr, List.count_append, List.count_replicate]
      rw [he] at hI ⊢
      rw [← hf]
      exact hdone a w hI
    · obtain ⟨i0, hi0⟩ := Classical.not_forall.1 hall
      obtain ⟨hi1, hi2⟩ := Classical.not_imp.1 hi0
      have hi3 : listed.getD i0 true = false := getD_in (by rw [inv.size]; omega) (by simpa using hi2)
      refine ⟨fun hr => ?_, fun i hi => ?_⟩
      · have := ready_nil hfw inv.size hr n hn
        have h1 := getD_both (inv.tail n (Nat.le_refl _) hn)
        rw [this] at h1; cases h1
      · have hin : i < n := by
          rcases Nat.lt_or_ge i n with h | h
          · exact h
          · exact absurd hi (tail_waits hs hc hn inv _ i0 rfl hi1 hi3 i h)
        obtain ⟨h1, h2, h3⟩ := ready_mem hi
        have h0 := h2 inv.size
        refine wpOp_mono (fun a' w' hI' => ih _ _ _ (inv.set hi hin) ?_ hI') (hstep i listed a w hin inv.size (by rw [Array.getD_eq_getD_getElem?, h0]; rfl) hI h3)
        rw [← Array.getElem?_toList] at h0
        obtain ⟨hlt, h0'⟩ := List.getElem?_eq_some_iff.1 h0
        have hpos := List.count_pos_iff.2 (List.mem_of_getElem? h0)
        have e : (listed.toList.set i true).count false = listed.toList.count false - 1 := by rw [List.count_set hlt, h0']; simp
        rw [Array.toList_setIfInBounds, e]
        omega
def OblAt3 (P : Program) (ops : Array Oper) (Q : Exit → Act → World → Prop) (F : (Nat → Value) → Act) (S : Nat → Value → World → Prop) (deps : List (List Nat)) (w0 : World) (k : Nat) (row : Option Nat) (i : Nat) (o : Oper) : Prop :=
  ∀ u w, w0.grownBy w (bif Nat.beq i k then none else row) → (∀ d ∈ deps.getD i [], S d (u d) w) → ∀ K : Act → World → Prop, (∀ v w', S i v w' → w.grownBy w' (bif Nat.beq i k then row else none) → K ((F u).put o.dst v) w') →
    if Region.wanted o (yielded ops (F u).tmps) = true then Oper.wp P o (F u) w K Q else K ((F u).put o.dst undef) w
def OblL3 (P : Program) (ops : Array Oper) (Q : Exit → Act → World → Prop) (F : (Nat → Value) → Act) (S : Nat → Value → World → Prop) (deps : List (List Nat)) (w0 : World) (k : Nat) (row : Option Nat) : Nat → List Oper → Prop
  | _, [] => True
  | i, o :: rest => OblAt3 P ops Q F S deps w0 k row i o ∧ OblL3 P ops Q F S deps w0 k row (i + 1) rest
theorem obl_at3 {F : (Nat → Value) → Act} {S : Nat → Value → World → Prop} {deps : List (List Nat)} {w0 : World} {k : Nat} {row : Option Nat} : ∀ (l : List Oper) (i : Nat), OblL3 P ops Q F S deps w0 k row i l → ∀ j o, l[j]? = some o → OblAt3 P ops Q F S deps w0 k row (i + j) o
  | [], _, _, j, o, h => by simp at h
  | x :: l, i, h, 0, o, ho => by
    obtain rfl : x = o := by simpa using ho
    exact h.1
  | x :: l, i, h, j + 1, o, ho => by
    have := obl_at3 l (i + 1) h.2 j o (by simpa using ho)
    rw [show i + (j + 1) = i + 1 + j by omega]
    exact this
theorem wp_region_spec3 {id : Nat} {a0 : Act} {w0 : World} {l : List Oper} (n : Nat) (k : Nat) (row : Option Nat) (hm : P.follows .mixedOrders = true) (hfw : fwdB .any l.toArray = true) (hn : Nat.ble (n + 1) l.toArray.size = true)
    (hs : Region.sinkB .any l.toArray n = true) (hc : Region.chainB .any l.toArray n = true) (hseq : Region.seqB .any l.toArray (l.drop n).length n (headArr l.toArray.size n) = true)
    (ds : List (Option Tmp)) (hds : dstB (l.take n).toArray ds = true) (F : (Nat → Value) → Act) (hF : ∀ u, fill a0 ds u = F u)
    (h0 : a0 = fill a0 ds (fun i => a0.tmps.getD ((ds.getD i none).getD 0) undef)) (hput : AllLt n fun i => ∀ u v, (fill a0 ds u).put (ds.getD i none) v = fill a0 ds (upd u i v))
    (S : Nat → Value → World → Prop) (hmono : AllLt n fun i => ∀ v w w', S i v w → w.grownBy w' (bif Nat.beq i k then none else row) → S i v w')
    (deps : List (List Nat)) (hdeps : depsB .any l.toArray deps = true) (hobl : OblL3 P l.toArray Q F S deps w0 k row 0 (l.take n))
    (hdone : ∀ u w, (∀ i, i < n → S i (u i) w) → w0.grownBy w (bif Nat.ble (k + 1) n then row else none) → wpList P l.toArray Q (l.drop n) (F u) w) : (Code.region id l.toArray true).wp P Q a0 w0 := by
  obtain rfl : F = fill a0 ds := funext fun u => (hF u).symm
  have hn' : n < l.toArray.size := Nat.le_of_ble_eq_true hn
  have hnl : n < l.length := by simpa using hn'
  have inv0 : HeadInv .any l.toArray n (Array.replicate l.toArray.size false) :=
    ⟨by simp, fun j oj _ hl => (by rw [getD_replicate_false] at hl; cases hl), fun t _ ht => getD_in (by simpa using ht) (getD_replicate_false _ _)⟩
  refine wp_region_any hm (wpAny_head hn' hfw hs hc (fun listed a w => ∃ u, a = fill a0 ds u ∧ (∀ i, i < n → listed.getD i false = true → S i (u i) w) ∧ w0.grownBy w (bif listed.getD k false && Nat.ble (k + 1) n then row else none)) ?_ ?_ l.toArray.size _ _ _ inv0 (by simp) ⟨_, h0, fun i hi h => ?_, ?_⟩)
  · rintro i listed a w hi hsz hun ⟨u, rfl, hS, hg⟩ hl
    have hi' : i < l.toArray.size := by omega
    have hio : l.toArray[i]? = some (l.toArray[i]'hi') := Array.getElem?_eq_getElem hi'
    have hio2 : (l.take n)[i]? = some (l.toArray[i]'hi') := by rw [List.getElem?_take, if_pos hi]; simp
    refine wpOp_step hio fun K hK => ?_
    have hob := obl_at3 (l.take n) 0 hobl i _ hio2
    rw [Nat.zero_add] at hob
    refine hob u w ?_ (fun d hd => ?_) K (fun v w' hv g => ?_)
    · by_cases hik : i = k
      · subst hik
        rw [hun] at hg
        simpa using hg
      · have hb : Nat.beq i k = false := by rw [Bool.eq_false_iff]; intro e; exact hik (Nat.eq_of_beq_eq_true e)
        rw [hb]
        cases h : listed.getD k false && Nat.ble (k + 1) n with
        | true => rw [h] at hg; exact hg
        | false => rw [h] at hg; exact gr_none hg
    · have h1 := List.all_eq_true.1 hdeps i (List.mem_range.2 hi')
      rw [hio] at h1
      simp only [Option.map_some, Option.getD_some, List.all_eq_true] at h1
      have h2 := h1 d hd
      rw [Array.any_eq_true] at h2
      obtain ⟨k', hk', h3⟩ := h2
      simp only [Bool.and_eq_true] at h3
      have hd2 : ((l.toArray[i]'hi').after[k']).on = d := Nat.eq_of_beq_eq_true h3.2
      have h4 := hl _ hio _ (Array.getElem_mem hk') h3.1
      rw [hd2] at h4
      have hdi : d < i := by
        have h5 := List.all_eq_true.1 hfw i (List.mem_range.2 hi')
        rw [hio] at h5
        simp only [Option.map_some, Option.getD_some, Array.all_eq_true] at h5
        have h6 := h5 k' hk'
        rw [h3.1] at h6
        simp at h6
        rw [← hd2]; simpa using h6
      exact hS d (by omega) h4
    · have hdst : (l.toArray[i]'hi').dst = ds.getD i none := dst_of hds (by simpa using hio2)
      rw [hdst, hput i hi]
      refine hK _ _ ⟨upd u i v, rfl, fun j hj hlj => ?_, ?_⟩
      · by_cases hji : j = i
        · subst hji; rw [upd_same]; exact hv
        · rw [upd_other u v hji]
          have hlj' : listed.getD j false = true := by
            rw [Array.getD_eq_getD_getElem?, Array.getElem?_setIfInBounds, if_neg (by omega)] at hlj
            rw [Array.getD_eq_getD_getElem?]; exact hlj
          refine hmono j hj _ _ _ (hS j hj hlj') ?_
          by_cases hik : i = k
          · subst hik
            have hb : Nat.beq j i = false := by rw [Bool.eq_false_iff]; intro e; exact hji (Nat.eq_of_beq_eq_true e)
            have hb2 : Nat.beq i i = true := Nat.beq_refl i
            rw [hb]; rw [hb2] at g; exact g
          · have hb : Nat.beq i k = false := by rw [Bool.eq_false_iff]; intro e; exact hik (Nat.eq_of_beq_eq_true e)
            rw [hb] at g
            exact gr_none g
      · by_cases hik : i = k
        · subst hik
          have hb2 : Nat.beq i i = true := Nat.beq_refl i
          rw [hb2] at g
          rw [hun] at hg
          have h7 : (listed.setIfInBounds i true).getD i false = true := by
            rw [Array.getD_eq_getD_getElem?, Array.getElem?_setIfInBounds, if_pos rfl, if_pos (by omega)]; rfl
          have h8 : Nat.ble (i + 1) n = true := Nat.ble_eq_true_of_le hi
          rw [h7, h8]
          exact gr_trans (gr_none (by simpa using hg)) g
        · have hb : Nat.beq i k = false := by rw [Bool.eq_false_iff]; intro e; exact hik (Nat.eq_of_beq_eq_true e)
          rw [hb] at g
          have h7 : (listed.setIfInBounds i true).getD k false = listed.getD k false := by
            rw [Array.getD_eq_getD_getElem?, Array.getElem?_setIfInBounds, if_neg hik, Array.getD_eq_getD_getElem?]
          rw [h7]
          exact gr_trans hg (gr_none g)
  · rintro a w ⟨u, rfl, hS, hg⟩
    have hhead : ∀ i, i < n → (headArr l.toArray.size n).getD i false = true := fun i hi => by
      rw [Array.getD_eq_getD_getElem?]
      simp only [headArr, List.getElem?_toArray]
      rw [List.getElem?_append_left (by simpa using hi), List.getElem?_replicate, if_pos hi]; rfl
    have hk : ((headArr l.toArray.size n).getD k false && Nat.ble (k + 1) n) = Nat.ble (k + 1) n := by
      cases h : Nat.ble (k + 1) n with
      | false => simp
      | true => rw [hhead k (Nat.le_of_ble_eq_true h)]; rfl
    rw [hk] at hg
    have hd := hdone u w (fun i hi => hS i hi (hhead i hi)) hg
    have := wpAny_of_seq (md := .any) (Q' := Q) (l.drop n) n (headArr l.toArray.size n) (fill a0 ds u) w (fun j => by simp [List.getElem?_drop]) hseq hd
    have hlen : (l.drop n).length = l.toArray.size - n := by simp
    rwa [hlen] at this
  · rw [getD_replicate_false] at h; cases h
  · rw [getD_replicate_false]
    exact gr_drew (gr_refl _ _)
end
end Go.Proofs.YtmofnoconhgjmaaGreatDoor
