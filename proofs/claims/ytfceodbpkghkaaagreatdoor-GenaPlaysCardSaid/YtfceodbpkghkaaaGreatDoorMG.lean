/- Texts of one proof, put together: Gm1, Gm2, Gm3. -/
import Derived.Test.YtfceodbpkghkaaaGreatDoorMN
import Derived.Test.YtfceodbpkghkaaaGreatDoorMW
import Derived.Test.YtfceodbpkghkaaaGreatDoorMK
/- Subscriptions, plainly. -/
namespace Go.Proofs.YtfceodbpkghkaaaGreatDoor
open Go.RowKit
set_option linter.unusedVariables false
set_option linter.unusedSimpArgs false

/-- A subscription. -/
structure Sb where
  sid : Gs
  host : Nat
  port : Nat
  target : Gs
  seq : Nat
  ends : Nat
  busy : Bool
  ready : Nat
  last : Gp
def hexD (d : Nat) : UInt8 := if d < 10 then UInt8.ofNat (48 + d) else UInt8.ofNat (87 + d)
def hexL : Gs → Gs
  | [] => []
  | b :: l => hexD (b.toNat / 16) :: hexD (b.toNat % 16) :: hexL l
def uuP : Gs := [117, 117, 105, 100, 58]
def sixL (a b : Nat) : Gs := hexL (beL 8 a ++ beL 8 b)
def sidL (a b : Nat) : Gs := uuP ++ ((sixL a b).take 8 ++ 45 :: (((sixL a b).drop 8).take 4 ++ 45 :: (((sixL a b).drop 12).take 4 ++ 45 :: (((sixL a b).drop 16).take 4 ++ 45 :: (sixL a b).drop 20))))
def laterL (now n : Nat) : Nat := min (now + n) 18446744073709551615
def secP2 : Gs := [83, 101, 99, 111, 110, 100, 45]
def grantL (sid : Gs) (n : Nat) : List (Gs × Gs) := [([83, 73, 68], sid), ([84, 73, 77, 69, 79, 85, 84], secP2 ++ Lib.decDigits n)]
/-- A SID's place; as many as there are: there is none. -/
def findL : List Sb → Gs → Nat
  | [], _ => 0
  | x :: l, s => if x.sid = s then 0 else findL l s + 1
def kSid : Gs := [115, 105, 100]
def kNt : Gs := [110, 116]
def kCall : Gs := [99, 97, 108, 108, 98, 97, 99, 107]
def kTime : Gs := [116, 105, 109, 101, 111, 117, 116]
def kEvent : Gs := [117, 112, 110, 112, 58, 101, 118, 101, 110, 116]
def secsL (fs : List (Gs × Gs)) : Nat := match getL fs kTime with | [] => 1800 | t :: _ => secL t
/-- A SUBSCRIBE: the subscriptions behind it, the status, what is told of it. -/
def subsL (most : Nat) (L : List Sb) (fs : List (Gs × Gs)) (who now a b : Nat) : List Sb × Nat × List (Gs × Gs) :=
  match getL fs kSid with
  | s :: more =>
    if more ≠ [] ∨ getL fs kNt ≠ [] ∨ getL fs kCall ≠ [] then (L, 400, []) else
    match L[findL L s]? with
    | none => (L, 412, [])
    | some x => if x.host = who then (L.set (findL L s) { x with ends := laterL now (secsL fs) }, 200, grantL x.sid (secsL fs)) else (L, 412, [])
  | [] =>
    match getL fs kNt, getL fs kCall with
    | [t], [c] =>
      if t = kEvent then
        match cbL c with
        | none => (L, 412, [])
        | some (h, p, tg) =>
          if h ≠ who then (L, 412, []) else
          if most ≤ L.length ∨ findL L (sidL a b) < L.length then (L, 503, []) else
          (L ++ [⟨sidL a b, h, p, tg, 0, laterL now (secsL fs), false, now, []⟩], 200, grantL (sidL a b) (secsL fs))
      else (L, 412, [])
    | _, _ => (L, 412, [])
/-- An UNSUBSCRIBE. -/
def unsubL (L : List Sb) (fs : List (Gs × Gs)) (who : Nat) : List Sb × Nat :=
  match getL fs kSid with
  | [s] =>
    if getL fs kNt ≠ [] ∨ getL fs kCall ≠ [] then (L, 400) else
    match L[findL L s]? with
    | none => (L, 412)
    | some x => if x.host = who then (L.eraseIdx (findL L s), 200) else (L, 412)
  | _ => (L, 400)
/-- Is a subscriber to be told now? -/
def dueB (now : Nat) (vars : Gp) (x : Sb) : Bool := !x.busy && decide (x.ready ≤ now) && decide (x.last ≠ vars)
def newsL (x : Sb) (vars : Gp) : Gp := vars.filter fun v => decide (v ∉ x.last)
/-- The place of the one who is to be told next. -/
def nextL (L : List Sb) (now : Nat) (vars : Gp) : Nat := (L.takeWhile fun x => !dueB now vars x).length
def toldL (L : List Sb) (now : Nat) (vars : Gp) : List Sb := L.modify (nextL L now vars) fun x => { x with busy := true, last := vars }
def doneL (L : List Sb) (s : Gs) (ok : Bool) (now : Nat) : List Sb :=
  match L[findL L s]? with
  | none => L
  | some x =>
    if x.busy = false then L else if ok = false then L.eraseIdx (findL L s) else
    L.set (findL L s) { x with busy := false, ready := laterL now 1, seq := if x.seq = 4294967295 then 1 else x.seq + 1 }
def expireL (L : List Sb) (now : Nat) : List Sb := L.filter fun x => decide (now < x.ends)
def dropL (L : List Sb) (most : Nat) (right : Nat → Bool) : List Sb := (L.filter fun x => right x.host).take most
/-- What is kept of all subscriptions' bounds. -/
structure SbOk (x : Sb) : Prop where
  sid : x.sid.length ≤ 41
  host : x.host < 4294967296
  port : x.port < 65536
  target : x.target.length ≤ 256
  seq : x.seq < 4294967296
  ends : x.ends < 18446744073709551616
  ready : x.ready < 18446744073709551616
  last : SmP x.last
theorem findL_le (L : List Sb) (s : Gs) : findL L s ≤ L.length := by
  induction L with
  | nil => simp [findL]
  | cons x l ih =>
    unfold findL
    split
    · omega
    · simp; omega
theorem findL_at : ∀ (L : List Sb) (s : Gs) (x : Sb), L[findL L s]? = some x → x.sid = s := by
  intro L
  induction L with
  | nil => intro s x h; simp [findL] at h
  | cons y l ih =>
    intro s x h
    unfold findL at h
    split at h
    · rename_i hy
      obtain rfl : y = x := by simpa using h
      exact hy
    · exact ih s x (by simpa using h)
theorem findL_ahead : ∀ (L : List Sb) (s : Gs) (i : Nat) (x : Sb), i < findL L s → L[i]? = some x → x.sid ≠ s := by
  intro L
  induction L with
  | nil => intro s i x h; simp [findL] at h
  | cons y l ih =>
    intro s i x h hx
    unfold findL at h
    split at h
    · omega
    · rename_i hy
      cases i with
      | zero =>
        obtain rfl : y = x := by simpa using hx
        exact hy
      | succ i => exact ih s i x (by omega) (by simpa using hx)
/-- The place of a SID, found by what is known of it. -/
theorem findL_is (L : List Sb) (s : Gs) (i : Nat) (hi : i ≤ L.length) (ha : ∀ j x, j < i → L[j]? = some x → x.sid ≠ s) (h : i = L.length ∨ ∃ x, L[i]? = some x ∧ x.sid = s) : findL L s = i := by
  rcases Nat.lt_trichotomy (findL L s) i with h1 | h1 | h1
  · have h2 : findL L s < L.length := by omega
    have := findL_at L s _ (List.getElem?_eq_getElem h2)
    exact absurd this (ha _ _ h1 (List.getElem?_eq_getElem h2))
  · exact h1
  · rcases h with rfl | ⟨x, hx, hs⟩
    · have := findL_le L s; omega
    · exact absurd hs (findL_ahead L s i x h1 hx)
end Go.Proofs.YtfceodbpkghkaaaGreatDoor
/- Subscriptions as they lie in memory. -/
namespace Go.Proofs.YtfceodbpkghkaaaGreatDoor
open Go.RowKit
set_option linter.unusedVariables false
set_option linter.unusedSimpArgs false

def ptT : TypeId := 95
def sbT : TypeId := 94
def ssT : TypeId := 89
/-- The types of the blocks that the program's subscriptions are written in. -/
def TP (t : TypeId) : Bool := t == 95 || t == 94 || t == 89
/-- Those of the document's. -/
def TR (t : TypeId) : Bool := t == 111 || t == 108
def TA (t : TypeId) : Bool := TP t || TR t
theorem tp_ta (t : TypeId) (h : TP t = true) : TA t = true := by unfold TA; rw [h]; rfl
theorem tr_ta (t : TypeId) (h : TR t = true) : TA t = true := by unfold TA; rw [h, Bool.or_true]
theorem tp_tr (t : TypeId) (h : TP t = true) : TR t = false := by
  unfold TP at h; unfold TR
  simp only [Bool.or_eq_true, beq_iff_eq] at h
  rcases h with (h | h) | h <;> subst h <;> decide
theorem tr_tp (t : TypeId) (h : TR t = true) : TP t = false := by
  unfold TR at h; unfold TP
  simp only [Bool.or_eq_true, beq_iff_eq] at h
  rcases h with h | h <;> subst h <;> decide
/-- Variables in blocks that stay, of which F is so. -/
def ArgsK (w : World) (N : Nat) (F : Nat → Prop) (v : Value) (xs : Gp) : Prop :=
  ∃ a c, v = .slice a xs.length c ∧ xs.length ≤ c ∧ c ≤ maxLen ∧ (xs.length = 0 ∨ ∃ b o ob, a = some ⟨b, o, none⟩ ∧ w.heap[b]? = some ob ∧ Stay TA N b ob ∧ F b ∧ ∀ i, i < xs.length → PairAt w b (o + i * 2) (gN xs i) (gV xs i))
theorem ArgsK.at {w : World} {N : Nat} {F : Nat → Prop} {v : Value} {xs : Gp} (h : ArgsK w N F v xs) : ArgsAt w v xs := by
  obtain ⟨a, c, h1, -, -, h2⟩ := h
  refine ⟨a, c, h1, ?_⟩
  rcases h2 with h | ⟨b, o, ob, rfl, -, -, -, h⟩
  · exact .inl h
  · exact .inr ⟨b, o, rfl, h⟩
theorem ArgsK.nil (w : World) (N : Nat) (F : Nat → Prop) : ArgsK w N F (.slice none 0 0) [] := ⟨none, 0, rfl, Nat.le_refl _, by simp [maxLen], .inl rfl⟩
theorem ArgsK.kt {T : TypeId → Bool} (hT : ∀ t, T t = true → TA t = true) {w w' : World} {N : Nat} {F : Nat → Prop} {v : Value} {xs : Gp} (h : ArgsK w N F v xs) (k : KT T N w w') : ArgsK w' N F v xs := by
  have k := k.mono hT
  obtain ⟨a, c, h1, hc, hm, h2⟩ := h
  refine ⟨a, c, h1, hc, hm, ?_⟩
  rcases h2 with h | ⟨b, o, ob, rfl, hb, hs, hf, h⟩
  · exact .inl h
  · exact .inr ⟨b, o, ob, rfl, k.keep hb hs, hs, hf, fun i hi => ⟨k.cell (h i hi).c0 hb hs, k.cell (h i hi).c1 hb hs⟩⟩
theorem ArgsK.f {w : World} {N : Nat} {F F' : Nat → Prop} {v : Value} {xs : Gp} (h : ArgsK w N F v xs) (hF : ∀ b, b < w.heap.size → F b → F' b) : ArgsK w N F' v xs := by
  obtain ⟨a, c, h1, hc, hm, h2⟩ := h
  refine ⟨a, c, h1, hc, hm, ?_⟩
  rcases h2 with h | ⟨b, o, ob, rfl, hb, hs, hf, h⟩
  · exact .inl h
  · exact .inr ⟨b, o, ob, rfl, hb, hs, hF b (lt_of_block hb) hf, h⟩
/-- A step that writes one block, of which F isn't so. -/
theorem ArgsK.row {w w' : World} {N : Nat} {F : Nat → Prop} {v : Value} {xs : Gp} {r : Option Nat} (h : ArgsK w N F v xs) (g : w.grownBy w' r) (hr : ∀ b, r = some b → ¬ F b) : ArgsK w' N F v xs := by
  obtain ⟨a, c, h1, hc, hm, h2⟩ := h
  refine ⟨a, c, h1, hc, hm, ?_⟩
  rcases h2 with h | ⟨b, o, ob, rfl, hb, hs, hf, h⟩
  · exact .inl h
  · have hne : some b ≠ r := fun e => hr b e.symm hf
    exact .inr ⟨b, o, ob, rfl, gr_keep g hb hne, hs, hf, fun i hi => ⟨g.cell (h i hi).c0 hne, g.cell (h i hi).c1 hne⟩⟩
theorem ArgsK.grow {w w' : World} {N : Nat} {F : Nat → Prop} {v : Value} {xs : Gp} (h : ArgsK w N F v xs) (g : w.grownBy w' none) : ArgsK w' N F v xs := h.row g (by simp)
def subC (x : Sb) (lv : Value) : Array Value := #[str x.sid, .int .u32 x.host, .int .u16 x.port, str x.target, .int .u32 x.seq, .int .u64 x.ends, .bool x.busy, .int .u64 x.ready, lv]
/-- A subscription's own block. -/
def PSub (w : World) (N : Nat) (F : Nat → Prop) (d : Nat) (x : Sb) : Prop :=
  N ≤ d ∧ ∃ lv, w.heap[d]? = some (.cells (subC x lv) 94 (0, 0)) ∧ ArgsK w N F lv x.last
theorem PSub.kt {T : TypeId → Bool} (hT : ∀ t, T t = true → TR t = true) {w w' : World} {N : Nat} {F : Nat → Prop} {d : Nat} {x : Sb} (h : PSub w N F d x) (k : KT T N w w') : PSub w' N F d x := by
  obtain ⟨hd, lv, h1, h2⟩ := h
  have k' := k.mono hT
  exact ⟨hd, lv, k'.of_type h1 rfl, h2.kt tr_ta k'⟩
theorem PSub.row {w w' : World} {N : Nat} {F : Nat → Prop} {d : Nat} {x : Sb} {r : Option Nat} (h : PSub w N F d x) (g : w.grownBy w' r) (hd : some d ≠ r) (hr : ∀ b, r = some b → ¬ F b ∨ (N ≤ b ∧ ∃ cs t rr, w.heap[b]? = some (.cells cs t rr) ∧ TA t = true)) : PSub w' N F d x := by
  obtain ⟨h0, lv, h1, h2⟩ := h
  refine ⟨h0, lv, gr_keep g h1 hd, ?_⟩
  cases r with
  | none => exact h2.grow g
  | some b =>
    rcases hr b rfl with h | ⟨hN, cs, t, rr, hb, ht⟩
    · exact h2.row g (fun b' e => by cases e; exact h)
    · exact h2.kt (fun _ h => h) (KT.of_row g hb hN ht)
theorem PSub.f {w : World} {N : Nat} {F F' : Nat → Prop} {d : Nat} {x : Sb} (h : PSub w N F d x) (hF : ∀ b, b < w.heap.size → F b → F' b) : PSub w N F' d x := by
  obtain ⟨h0, lv, h1, h2⟩ := h
  exact ⟨h0, lv, h1, h2.f hF⟩
def ptV (e : Nat × Sb) : Value := .pointer (some ⟨e.1, 0, none⟩)
/-- The subscriptions: their places and what they are. -/
structure PAt (w : World) (N : Nat) (F : Nat → Prop) (B : Nat) (E : List (Nat × Sb)) (most : Nat) : Prop where
  low : N ≤ B
  head : ∃ lv, w.heap[B]? = some (.cells #[lv, .int .i64 most] 89 (0, 0)) ∧ w.ownsRow N 95 1 lv E.length (E.map ptV)
  nodup : (E.map (·.1)).Nodup
  each : ∀ e ∈ E, PSub w N F e.1 e.2
  mo : most ≤ 9223372036854775807
  n : E.length ≤ most
theorem PAt.kt {T : TypeId → Bool} (hT : ∀ t, T t = true → TR t = true) {w w' : World} {N : Nat} {F : Nat → Prop} {B : Nat} {E : List (Nat × Sb)} {most : Nat} (h : PAt w N F B E most) (k : KT T N w w') : PAt w' N F B E most := by
  have k := k.mono hT
  obtain ⟨lv, h1, h2⟩ := h.head
  refine ⟨h.low, ⟨lv, k.of_type h1 rfl, h2.1, ?_⟩, h.nodup, fun e he => (h.each e he).kt (fun _ h => h) k, h.mo, h.n⟩
  rcases h2.2 with h2 | ⟨g, cap, cur, e1, e2, e3, e4⟩
  · exact .inl h2
  · exact .inr ⟨g, cap, cur, e1, e2, k.of_type e3 rfl, e4⟩
theorem PAt.grow {w w' : World} {N : Nat} {F : Nat → Prop} {B : Nat} {E : List (Nat × Sb)} {most : Nat} (h : PAt w N F B E most) (g : w.grownBy w' none) : PAt w' N F B E most :=
  h.kt (T := fun _ => false) (fun _ h => by cases h) (KT.of_none g)
theorem PAt.f {w : World} {N : Nat} {F F' : Nat → Prop} {B : Nat} {E : List (Nat × Sb)} {most : Nat} (h : PAt w N F B E most) (hF : ∀ b, b < w.heap.size → F b → F' b) : PAt w N F' B E most :=
  ⟨h.low, h.head, h.nodup, fun e he => (h.each e he).f hF, h.mo, h.n⟩
/-- A block of another type is written, in which no variables lie. -/
theorem PAt.row {w w' : World} {N : Nat} {F : Nat → Prop} {B : Nat} {E : List (Nat × Sb)} {most : Nat} {b : Nat} {cs : Array Value} {t : TypeId} {rr : Nat × Nat} (h : PAt w N F B E most) (g : w.grownBy w' (some b)) (hb : w.heap[b]? = some (.cells cs t rr)) (ht : TP t = false) (hF : ¬ F b) : PAt w' N F B E most := by
  have hne : ∀ {g0 : Nat} {cs0 : Array Value} {t0 : TypeId}, w.heap[g0]? = some (.cells cs0 t0 (0, 0)) → TP t0 = true → some g0 ≠ some b := by
    intro g0 cs0 t0 h0 ht0 e
    obtain rfl : g0 = b := by simpa using e
    rw [h0] at hb
    obtain ⟨rfl, rfl, rfl⟩ : cs0 = cs ∧ t0 = t ∧ (0, 0) = rr := by simpa using hb
    rw [ht] at ht0; cases ht0
  obtain ⟨lv, h1, h2⟩ := h.head
  refine ⟨h.low, ⟨lv, gr_keep g h1 (hne h1 rfl), h2.1, ?_⟩, h.nodup, fun e he => (h.each e he).row g ?_ (fun b' e => .inl (by cases e; exact hF)), h.mo, h.n⟩
  · rcases h2.2 with h2 | ⟨g0, cap, cur, e1, e2, e3, e4⟩
    · exact .inl h2
    · exact .inr ⟨g0, cap, cur, e1, e2, gr_keep g e3 (hne e3 rfl), e4⟩
  · obtain ⟨-, lv, h1, -⟩ := h.each e he
    exact hne h1 rfl
/-- What an operation on the subscriptions leaves. -/
def PAll (w : World) (N : Nat) (F : Nat → Prop) (B : Nat) (L : List Sb) (most : Nat) : Prop := ∃ E, E.map (·.2) = L ∧ PAt w N F B E most
end Go.Proofs.YtfceodbpkghkaaaGreatDoor
/- gena.later, (*Subs).find and own. -/
namespace Go.Proofs.YtfceodbpkghkaaaGreatDoor
open Go.RowKit
set_option linter.unusedVariables false
set_option linter.unusedSimpArgs false

set_option maxRecDepth 20000 in
theorem later_x (now n : Nat) (h1 : now < 18446744073709551616) (h2 : n < 18446744073709551616) (w : World) :
    Calls Tryz.prog 39 #[.int .u64 (now : Int), .int .u64 (n : Int)] w fun e w' => e = .returned (.int .u64 (laterL now n : Int)) ∧ w = w' := by
  by_cases h : 18446744073709551615 < now + n
  · have hd : (18446744073709551615 - (n : Int) < (now : Int)) := by omega
    have R := hid (show laterL now n = 18446744073709551615 by unfold laterL; omega)
    clear h
    go_enter Tryz.func39, Tryz.ntmps39
    go_wp2
    go_ret
    exact ⟨by rw [R.out]; rfl, rfl⟩
  · have hd : ¬ (18446744073709551615 - (n : Int) < (now : Int)) := by omega
    have R := hid (show (laterL now n : Int) = (now : Int) + (n : Int) by unfold laterL; omega)
    clear h
    go_enter Tryz.func39, Tryz.ntmps39
    go_wp2
    go_ret
    exact ⟨by rw [R.out]; rfl, rfl⟩
theorem sid_eq (x : Sb) (s : Gs) : ((⟨x.sid.toArray⟩ : ByteArray).toList == (⟨s.toArray⟩ : ByteArray).toList) = decide (x.sid = s) := by
  rw [toList_beq]
  congr 1
  simp
theorem PSub.cells {w : World} {N : Nat} {F : Nat → Prop} {d : Nat} {x : Sb} (h : PSub w N F d x) :
    w.cell? ⟨d, 0, none⟩ = some (.string ⟨x.sid.toArray⟩) ∧ w.cell? ⟨d, 1, none⟩ = some (.int .u32 x.host) ∧ w.cell? ⟨d, 2, none⟩ = some (.int .u16 x.port) ∧ w.cell? ⟨d, 3, none⟩ = some (.string ⟨x.target.toArray⟩) ∧ w.cell? ⟨d, 4, none⟩ = some (.int .u32 x.seq) ∧ w.cell? ⟨d, 5, none⟩ = some (.int .u64 x.ends) ∧ w.cell? ⟨d, 6, none⟩ = some (.bool x.busy) ∧ w.cell? ⟨d, 7, none⟩ = some (.int .u64 x.ready) := by
  obtain ⟨-, lv, h, -⟩ := h
  exact ⟨(cell_of_block h 0).trans rfl, (cell_of_block h 1).trans rfl, (cell_of_block h 2).trans rfl, (cell_of_block h 3).trans rfl, (cell_of_block h 4).trans rfl, (cell_of_block h 5).trans rfl, (cell_of_block h 6).trans rfl, (cell_of_block h 7).trans rfl⟩
set_option maxHeartbeats 1000000 in
theorem findc_x (N : Nat) (F : Nat → Prop) (d : Nat) (x : Sb) (s : Gs) (q : Nat) (w : World) (h : PSub w N F d x) (hq : w.cell? ⟨q, 0, none⟩ = some (.string ⟨s.toArray⟩)) :
    Calls Tryz.prog 77 #[.pointer (some ⟨d, 0, none⟩), .pointer (some ⟨q, 0, none⟩)] w fun e w' => e = .returned (.bool (decide (x.sid = s))) ∧ w.grownBy w' none := by
  have c0 := h.cells.1
  have HE := hid (sid_eq x s)
  clear h
  obtain ⟨X, hX⟩ : ∃ X : ByteArray, X = ⟨x.sid.toArray⟩ := ⟨_, rfl⟩
  obtain ⟨Y, hY⟩ : ∃ Y : ByteArray, Y = ⟨s.toArray⟩ := ⟨_, rfl⟩
  rw [← hX] at c0 HE
  rw [← hY] at hq HE
  clear hX hY
  rw [← HE.out]
  go_enter Tryz.func77, Tryz.ntmps77
  go_wp2_with fail
  go_quiet (fail)
  go_wp2
  go_ret
  exact ⟨rfl, by (repeat (first | exact gr_refl _ _ | assumption | refine gr_drew ?_ | refine gr_drewN _ ?_ | refine gr_alloc ?_ _ | refine gr_set ?_ | refine gr_set_new ?_ (by first | omega | (simp; omega))))⟩
/-- What IndexFunc finds. -/
def FiR (L : List Sb) (s : Gs) (w : World) (vk : Value) (wr : World) : Prop :=
  ∃ k : Nat, vk = .int .i64 k ∧ k ≤ L.length ∧ w.grownBy wr none ∧ ∀ j x, j < k → L[j]? = some x → x.sid ≠ s
/-- A place as find tells it. -/
def plI (L : List Sb) (s : Gs) : Int := if findL L s < L.length then (findL L s : Int) else -1
theorem PAt.ptr {w : World} {N : Nat} {F : Nat → Prop} {B : Nat} {E : List (Nat × Sb)} {most : Nat} {lv : Value} (h : w.ownsRow N 95 1 lv E.length (E.map ptV)) : ∃ a cap, lv = .slice a E.length cap ∧ E.length ≤ cap ∧ ∀ i e, E[i]? = some e → ∃ g, a = some ⟨g, 0, none⟩ ∧ w.cell? ⟨g, i, none⟩ = some (.pointer (some ⟨e.1, 0, none⟩)) := by
  rcases Nat.eq_zero_or_pos E.length with h0 | hp
  · obtain ⟨a, cap, rfl, hc⟩ := own_shape h
    exact ⟨a, cap, rfl, hc, fun i e he => by have := (List.getElem?_eq_some_iff.1 he).1; omega⟩
  · obtain ⟨g, cap, rfl, -, hc, hcell⟩ := own_cell h hp
    exact ⟨_, cap, rfl, hc, fun i e he => ⟨g, rfl, hcell i _ (by rw [List.getElem?_map, he]; rfl)⟩⟩
set_option maxRecDepth 20000 in
set_option maxHeartbeats 2000000 in
theorem indexfunc_x (N : Nat) (F : Nat → Prop) (E : List (Nat × Sb)) (s : Gs) (v : Value) (q : Nat) (w : World) (hr : w.ownsRow N 95 1 v E.length (E.map ptV)) (he : ∀ e ∈ E, PSub w N F e.1 e.2) (hn : E.length ≤ 9223372036854775807) (hq : w.cell? ⟨q, 0, none⟩ = some (.string ⟨s.toArray⟩)) :
    Calls Tryz.prog 76 #[v, .func (Fn.func 77) #[] #[.pointer (some ⟨q, 0, none⟩)]] w fun e w' => e = .returned (.int .i64 (plI (E.map (·.2)) s)) ∧ w.grownBy w' none := by
  obtain ⟨a, cap, rfl, hcap, hc⟩ := PAt.ptr (B := 0) (most := 0) (F := F) hr
  have HC := hid hc
  have HX := hid he
  clear hc he hr
  have hl : (E.map (·.2)).length = E.length := List.length_map ..
  go_enter Tryz.func76, Tryz.ntmps76
  go_wp2_with fail
  go_loopw [8] (fun vk wr => FiR (E.map (·.2)) s w vk wr) (fun vk _ => E.length - (intOf vk).toNat)
  case atStart => exact ⟨0, rfl, Nat.zero_le _, gr_refl _ _, fun j x h _ => absurd h (Nat.not_lt_zero _)⟩
  case round =>
    obtain ⟨k, rfl, hk, gw, hno⟩ := hrel
    rw [hl] at hk
    have HNO := hid hno
    clear hno
    by_cases hkl : k < E.length
    · obtain ⟨e, hek⟩ : ∃ e, E[k]? = some e := ⟨_, List.getElem?_eq_getElem hkl⟩
      obtain ⟨g, rfl, hcell⟩ := HC.out k e hek
      have hcell2 := gw.cell hcell (by simp)
      have hq2 := gw.cell hq (by simp)
      have hps := (HX.out e (List.mem_of_getElem? hek)).row gw (by simp) (by simp)
      have HEK := hid (show (E.map (·.2))[k]? = some e.2 by rw [List.getElem?_map, hek]; rfl)
      have HF := hid (findc_x N F e.1 e.2 s q wr hps hq2)
      clear hek hcell hps
      go_wp2_with fail
      refine HF.out.mono ?_
      rintro e2 w2 ⟨rfl, g2⟩
      have GW := hid (gr_trans gw g2)
      by_cases hsm : e.2.sid = s
      · have HSM := hid hsm
        rw [decide_eq_true hsm]
        have HA := hid (show plI (E.map (·.2)) s = (k : Int) by
          have := findL_is (E.map (·.2)) s k (by omega) HNO.out (.inr ⟨_, HEK.out, hsm⟩)
          unfold plI
          rw [this, if_pos (by omega)])
        clear hsm
        go_wp2_with fail
        go_ret
        exact ⟨by rw [HA.out]; rfl, GW.out⟩
      · have HSM := hid hsm
        rw [decide_eq_false hsm]
        clear hsm
        go_wp2_with fail
        go_roundw
        case rel =>
          refine ⟨k + 1, by go_num, by omega, GW.out, fun j x' hlt hj => ?_⟩
          rcases Nat.lt_succ_iff_lt_or_eq.1 hlt with h1 | rfl
          · exact HNO.out j x' h1 hj
          · rw [HEK.out] at hj
            obtain rfl := Option.some.inj hj
            exact HSM.out
        case measure => simp [intOf]; omega
    · have HA := hid (show plI (E.map (·.2)) s = -1 by
        obtain rfl : k = E.length := by omega
        have := findL_is (E.map (·.2)) s E.length (by omega) HNO.out (.inl hl.symm)
        unfold plI
        rw [this, if_neg (by omega)])
      go_wp2_with fail
      go_ret
      exact ⟨by rw [HA.out]; rfl, gw⟩
set_option maxHeartbeats 1000000 in
theorem find_x (N : Nat) (F : Nat → Prop) (B : Nat) (E : List (Nat × Sb)) (most : Nat) (s : Gs) (w : World) (h : PAt w N F B E most) :
    Calls Tryz.prog 41 #[.pointer (some ⟨B, 0, none⟩), .string ⟨s.toArray⟩] w fun e w' => e = .returned (.int .i64 (plI (E.map (·.2)) s)) ∧ w.grownBy w' none := by
  have hmf : ∀ (fn : Fn) (first cap : Array Value) (w : World), (Instr.makeFunc fn first cap).run Tryz.prog w = .ok (.func fn first cap) w := fun _ _ _ _ => rfl
  have hb := heap_alloc_new w (.cells #[.string ⟨s.toArray⟩] 9)
  have g1 := World.grownBy_alloc w (.cells #[.string ⟨s.toArray⟩] 9) none
  obtain ⟨lv, h1, h2⟩ := h.head
  have HCF := hid (indexfunc_x N F E s lv w.heap.size _ (own_growG h2 g1) (fun e he => (h.each e he).row g1 (by simp) (by simp)) (by have := h.n; have := h.mo; omega) ((cell_of_block hb 0).trans rfl))
  have hq1 := g1.cell ((cell_of_block h1 0).trans rfl) (by simp)
  clear hb h1 h2 h
  go_enter Tryz.func41, Tryz.ntmps41
  go_wp2_with fail
  refine HCF.out.mono ?_
  rintro e w' ⟨rfl, g⟩
  go_wp2_with fail
  go_ret
  exact ⟨rfl, gr_trans g1 g⟩
end Go.Proofs.YtfceodbpkghkaaaGreatDoor
