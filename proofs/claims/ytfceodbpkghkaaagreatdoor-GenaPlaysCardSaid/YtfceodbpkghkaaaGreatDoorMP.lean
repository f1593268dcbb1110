/- Texts of one proof, put together: Gmp, Gmq, Gmr, Gms. -/
import Derived.Test.YtfceodbpkghkaaaGreatDoorMF
/- The document's subscriptions as they lie in memory: one row of Sub. New, Find, later. -/
namespace Go.Proofs.YtfceodbpkghkaaaGreatDoor
open Go.RowKit
set_option linter.unusedVariables false
set_option linter.unusedSimpArgs false

/-- A subscription, and the slice of what it was told last. -/
abbrev Sv := Sb × Value
def rw9 (E : List Sv) : List Value := E.flatMap fun e => (subC e.1 e.2).toList
theorem subC_len (x : Sb) (v : Value) : (subC x v).toList.length = 9 := rfl
theorem rw9_cons (e : Sv) (E : List Sv) : rw9 (e :: E) = (subC e.1 e.2).toList ++ rw9 E := rfl
theorem rw9_len (E : List Sv) : (rw9 E).length = E.length * 9 := by
  induction E with
  | nil => rfl
  | cons e l ih => rw [rw9_cons, List.length_append, ih, subC_len, List.length_cons]; omega
theorem rw9_app (E E' : List Sv) : rw9 (E ++ E') = rw9 E ++ rw9 E' := List.flatMap_append
theorem rw9_get : ∀ (E : List Sv) (i j : Nat) (e : Sv), E[i]? = some e → j < 9 → (rw9 E)[i * 9 + j]? = (subC e.1 e.2)[j]? := by
  intro E
  induction E with
  | nil => intro i j e h; simp at h
  | cons y l ih =>
    intro i j e h hj
    rw [rw9_cons]
    cases i with
    | zero =>
      obtain rfl : y = e := by simpa using h
      rw [List.getElem?_append_left (by rw [subC_len]; omega), Nat.zero_mul, Nat.zero_add, Array.getElem?_toList]
    | succ i =>
      rw [List.getElem?_append_right (by rw [subC_len]; omega), subC_len, show (i + 1) * 9 + j - 9 = i * 9 + j by omega]
      exact ih i j e (by simpa using h) hj
theorem rw9_set : ∀ (E : List Sv) (i j : Nat) (e e' : Sv) (v : Value), E[i]? = some e → j < 9 → (subC e'.1 e'.2).toList = (subC e.1 e.2).toList.set j v → (rw9 E).set (i * 9 + j) v = rw9 (E.set i e') := by
  intro E
  induction E with
  | nil => intro i j e e' v h; simp at h
  | cons y l ih =>
    intro i j e e' v h hj hs
    cases i with
    | zero =>
      obtain rfl : y = e := by simpa using h
      rw [List.set_cons_zero, rw9_cons, rw9_cons, hs, List.set_append_left _ _ (by rw [subC_len]; omega), Nat.zero_mul, Nat.zero_add]
    | succ i =>
      rw [List.set_cons_succ, rw9_cons, rw9_cons, List.set_append_right _ _ (by rw [subC_len]; omega), subC_len, show (i + 1) * 9 + j - 9 = i * 9 + j by omega, ih i j e e' v (by simpa using h) hj hs]
theorem rw9_take : ∀ (E : List Sv) (i : Nat), (rw9 E).take (i * 9) = rw9 (E.take i) := by
  intro E
  induction E with
  | nil => intro i; simp [rw9]
  | cons y l ih =>
    intro i
    cases i with
    | zero => simp [rw9]
    | succ i =>
      rw [List.take_succ_cons, rw9_cons, rw9_cons, List.take_append, subC_len, List.take_of_length_le (by rw [subC_len]; omega), show (i + 1) * 9 - 9 = i * 9 by omega, ih]
theorem rw9_drop : ∀ (E : List Sv) (i : Nat), (rw9 E).drop (i * 9) = rw9 (E.drop i) := by
  intro E
  induction E with
  | nil => intro i; simp [rw9]
  | cons y l ih =>
    intro i
    cases i with
    | zero => simp
    | succ i =>
      rw [List.drop_succ_cons, rw9_cons, List.drop_append, subC_len, List.drop_of_length_le (by rw [subC_len]; omega), List.nil_append, show (i + 1) * 9 - 9 = i * 9 by omega, ih]
theorem rw9_one (E : List Sv) (u : Value) (h : u ∈ rw9 E) (hE : ∀ e ∈ E, e.2.oneCell' = true) : u.oneCell' = true := by
  obtain ⟨e, he, hu⟩ := List.mem_flatMap.1 h
  have hl := hE e he
  unfold subC at hu
  simp only [List.mem_cons, List.not_mem_nil, or_false] at hu
  rcases hu with rfl | rfl | rfl | rfl | rfl | rfl | rfl | rfl | rfl <;> first | rfl | exact hl
structure RAt (w : World) (N : Nat) (F : Nat → Prop) (B : Nat) (E : List Sv) (most : Nat) : Prop where
  low : N ≤ B
  head : ∃ lv, w.heap[B]? = some (.cells #[lv, .int .i64 most] 108 (0, 0)) ∧ w.ownsRow N 111 9 lv E.length (rw9 E)
  each : ∀ e ∈ E, ArgsK w N F e.2 e.1.last
  mo : most ≤ 9223372036854775807
  n : E.length ≤ most
theorem RAt.kt {T : TypeId → Bool} (hT : ∀ t, T t = true → TP t = true) {w w' : World} {N : Nat} {F : Nat → Prop} {B : Nat} {E : List Sv} {most : Nat} (h : RAt w N F B E most) (k : KT T N w w') : RAt w' N F B E most := by
  have k := k.mono hT
  obtain ⟨lv, h1, h2⟩ := h.head
  refine ⟨h.low, ⟨lv, k.of_type h1 rfl, h2.1, ?_⟩, fun e he => (h.each e he).kt tp_ta k, h.mo, h.n⟩
  rcases h2.2 with h2 | ⟨g, cap, cur, e1, e2, e3, e4⟩
  · exact .inl h2
  · exact .inr ⟨g, cap, cur, e1, e2, k.of_type e3 rfl, e4⟩
theorem RAt.grow {w w' : World} {N : Nat} {F : Nat → Prop} {B : Nat} {E : List Sv} {most : Nat} (h : RAt w N F B E most) (g : w.grownBy w' none) : RAt w' N F B E most :=
  h.kt (T := fun _ => false) (fun _ h => by cases h) (KT.of_none g)
theorem RAt.f {w : World} {N : Nat} {F F' : Nat → Prop} {B : Nat} {E : List Sv} {most : Nat} (h : RAt w N F B E most) (hF : ∀ b, b < w.heap.size → F b → F' b) : RAt w N F' B E most :=
  ⟨h.low, h.head, fun e he => (h.each e he).f hF, h.mo, h.n⟩
/-- A block of another type is written, in which no variables lie. -/
theorem RAt.row {w w' : World} {N : Nat} {F : Nat → Prop} {B : Nat} {E : List Sv} {most : Nat} {b : Nat} {cs : Array Value} {t : TypeId} {rr : Nat × Nat} (h : RAt w N F B E most) (g : w.grownBy w' (some b)) (hb : w.heap[b]? = some (.cells cs t rr)) (ht : TR t = false) (hF : ¬ F b) : RAt w' N F B E most := by
  have hne : ∀ {g0 : Nat} {cs0 : Array Value} {t0 : TypeId}, w.heap[g0]? = some (.cells cs0 t0 (0, 0)) → TR t0 = true → some g0 ≠ some b := by
    intro g0 cs0 t0 h0 ht0 e
    obtain rfl : g0 = b := by simpa using e
    rw [h0] at hb
    obtain ⟨rfl, rfl, rfl⟩ : cs0 = cs ∧ t0 = t ∧ (0, 0) = rr := by simpa using hb
    rw [ht] at ht0; cases ht0
  obtain ⟨lv, h1, h2⟩ := h.head
  refine ⟨h.low, ⟨lv, gr_keep g h1 (hne h1 rfl), h2.1, ?_⟩, fun e he => (h.each e he).row g (fun b' e => by cases e; exact hF), h.mo, h.n⟩
  rcases h2.2 with h2 | ⟨g0, cap, cur, e1, e2, e3, e4⟩
  · exact .inl h2
  · exact .inr ⟨g0, cap, cur, e1, e2, gr_keep g e3 (hne e3 rfl), e4⟩
def RAll (w : World) (N : Nat) (F : Nat → Prop) (B : Nat) (L : List Sb) (most : Nat) : Prop := ∃ E : List Sv, E.map (·.1) = L ∧ RAt w N F B E most
theorem RAt.all {w : World} {N : Nat} {F : Nat → Prop} {B : Nat} {E : List Sv} {most : Nat} (h : RAt w N F B E most) : RAll w N F B (E.map (·.1)) most := ⟨E, rfl, h⟩
/-- The cells of the row. -/
theorem row9 {w : World} {N : Nat} {v : Value} {E : List Sv} (h : w.ownsRow N 111 9 v E.length (rw9 E)) : ∃ a cap, v = .slice a E.length cap ∧ E.length ≤ cap ∧ cap ≤ maxLen ∧ ∀ i e, E[i]? = some e → ∃ g, a = some ⟨g, 0, none⟩ ∧ N ≤ g ∧ (∃ cs, w.heap[g]? = some (.cells cs 111 (0, 0))) ∧ ∀ j, j < 9 → w.cell? ⟨g, i * 9 + j, none⟩ = (subC e.1 e.2)[j]? := by
  have hl := rw9_len E
  rcases h.2 with ⟨rfl, h0⟩ | ⟨g, cap, cur, rfl, hN, hg, k1, k2, k3, k4⟩
  · refine ⟨none, 0, by rw [h0], by omega, by simp [maxLen], fun i e he => ?_⟩
    have := (List.getElem?_eq_some_iff.1 he).1; omega
  · refine ⟨_, cap, rfl, k1, k2, fun i e he => ⟨g, rfl, hN, ⟨cur, hg⟩, fun j hj => ?_⟩⟩
    have hil := (List.getElem?_eq_some_iff.1 he).1
    have hlt : i * 9 + j < E.length * 9 := by omega
    have h1 := rw9_get E i j e he hj
    rw [← k4, List.getElem?_take_of_lt hlt, Array.getElem?_toList] at h1
    rw [← h1]
    exact (cell_of_block hg (i * 9 + j))
/-- The parts that a walk asks for. -/
theorem RAt.parts {w : World} {N : Nat} {F : Nat → Prop} {B : Nat} {E : List Sv} {most : Nat} (h : RAt w N F B E most) : ∃ a cap, w.heap[B]? = some (.cells #[.slice a E.length cap, .int .i64 most] 108 (0, 0)) ∧ w.ownsRow N 111 9 (.slice a E.length cap) E.length (rw9 E) ∧ E.length ≤ cap ∧ cap ≤ maxLen ∧ ∀ i e, E[i]? = some e → ∃ g, a = some ⟨g, 0, none⟩ ∧ N ≤ g ∧ (∃ cs, w.heap[g]? = some (.cells cs 111 (0, 0))) ∧ ∀ j, j < 9 → w.cell? ⟨g, i * 9 + j, none⟩ = (subC e.1 e.2)[j]? := by
  obtain ⟨lv, h1, h2⟩ := h.head
  obtain ⟨a, cap, rfl, k⟩ := row9 h2
  exact ⟨a, cap, h1, h2, k⟩
set_option maxRecDepth 20000 in
theorem rnew_x (N : Nat) (F : Nat → Prop) (most : Int) (h1 : -9223372036854775808 ≤ most) (h2 : most ≤ 9223372036854775807) (w : World) (hN : N ≤ w.heap.size) :
    Calls Tryz.prog 21 #[.int .i64 most] w fun e w' => e = .returned (.pointer (some ⟨w.heap.size, 0, none⟩)) ∧ RAt w' N F w.heap.size [] most.toNat ∧ w.grownBy w' none := by
  have h3 : most.toNat ≤ 9223372036854775807 := by omega
  by_cases hm : most < 0
  · have HM := hid (show most.toNat = 0 by omega)
    go_enter Tryz.func21, Tryz.ntmps21
    go_wp2
    go_ret
    refine ⟨rfl, ⟨hN, ⟨.slice none 0 0, ?_, World.ownsRow_nil _ _ _ _⟩, fun e he => (by cases he), h3, Nat.zero_le _⟩, gr_alloc (gr_refl _ _) _⟩
    rw [HM.out]
    exact heap_alloc_new w _
  · have HM := hid (show (most : Int) = (most.toNat : Int) by omega)
    have hd := decide_eq_false hm
    go_enter Tryz.func21, Tryz.ntmps21
    go_wp2
    go_ret
    refine ⟨rfl, ⟨hN, ⟨.slice none 0 0, ?_, World.ownsRow_nil _ _ _ _⟩, fun e he => (by cases he), h3, Nat.zero_le _⟩, gr_alloc (gr_refl _ _) _⟩
    rw [← HM.out]
    exact heap_alloc_new w _
def RfR (L : List Sb) (s : Gs) (w : World) (vk : Value) (wr : World) : Prop :=
  ∃ k : Nat, vk = .int .i64 k ∧ k ≤ L.length ∧ wr = w ∧ ∀ j x, j < k → L[j]? = some x → x.sid ≠ s
set_option maxRecDepth 20000 in
set_option maxHeartbeats 2000000 in
theorem rfind_x (N : Nat) (F : Nat → Prop) (B : Nat) (E : List Sv) (most : Nat) (s : Gs) (w : World) (h : RAt w N F B E most) :
    Calls Tryz.prog 87 #[.pointer (some ⟨B, 0, none⟩), .string ⟨s.toArray⟩] w fun e w' => e = .returned (.int .i64 (plI (E.map (·.1)) s)) ∧ w = w' := by
  have hn : E.length ≤ 9223372036854775807 := Nat.le_trans h.n h.mo
  obtain ⟨a, cap, hB, -, hcap, -, hc⟩ := h.parts
  have c0 := (cell_of_block hB 0).trans (show _ = some (Value.slice a E.length cap) from rfl)
  have HC := hid hc
  clear hc hB h
  have hl : (E.map (·.1)).length = E.length := List.length_map ..
  go_enter Tryz.func87, Tryz.ntmps87
  go_wp2_with fail
  go_loopw [5] (fun vk wr => RfR (E.map (·.1)) s w vk wr) (fun vk _ => E.length - (intOf vk).toNat)
  case atStart => exact ⟨0, rfl, Nat.zero_le _, rfl, fun j x h _ => absurd h (Nat.not_lt_zero _)⟩
  case round =>
    obtain ⟨k, rfl, hk, rfl, hno⟩ := hrel
    rw [hl] at hk
    have HNO := hid hno
    clear hno
    by_cases hkl : k < E.length
    · obtain ⟨e, hek⟩ : ∃ e, E[k]? = some e := ⟨_, List.getElem?_eq_getElem hkl⟩
      obtain ⟨g, rfl, -, -, hcell⟩ := HC.out k e hek
      have hc0 := (hcell 0 (by omega)).trans (show _ = some (str e.1.sid) from rfl)
      unfold str at hc0
      rw [Nat.add_zero] at hc0
      have HEK := hid (show (E.map (·.1))[k]? = some e.1 by rw [List.getElem?_map, hek]; rfl)
      clear hek hcell
      by_cases hsm : e.1.sid = s
      · have HA := hid (show plI (E.map (·.1)) s = (k : Int) by
          have := findL_is (E.map (·.1)) s k (by omega) HNO.out (.inr ⟨_, HEK.out, hsm⟩)
          unfold plI
          rw [this, if_pos (by omega)])
        have hbeq : (e.1.sid == s) = true := beq_iff_eq.2 hsm
        clear hsm
        go_wp2
        go_ret
        exact ⟨by rw [HA.out]; rfl, rfl⟩
      · have HSM := hid hsm
        have hbne : (e.1.sid == s) = false := beq_eq_false_iff_ne.2 hsm
        clear hsm
        go_wp2_with fail
        go_roundw
        case rel =>
          refine ⟨k + 1, by go_num, by omega, rfl, fun j x' hlt hj => ?_⟩
          rcases Nat.lt_succ_iff_lt_or_eq.1 hlt with h1 | rfl
          · exact HNO.out j x' h1 hj
          · rw [HEK.out] at hj
            obtain rfl := Option.some.inj hj
            exact HSM.out
        case measure => simp [intOf]; omega
    · have HA := hid (show plI (E.map (·.1)) s = -1 by
        obtain rfl : k = E.length := by omega
        have := findL_is (E.map (·.1)) s E.length (by omega) HNO.out (.inl hl.symm)
        unfold plI
        rw [this, if_neg (by omega)])
      go_wp2
      go_ret
      exact ⟨by rw [HA.out]; rfl, rfl⟩
end Go.Proofs.YtfceodbpkghkaaaGreatDoor
/- hearthref22: later, count, granted; what stores leave. -/
namespace Go.Proofs.YtfceodbpkghkaaaGreatDoor
open Go.RowKit
set_option linter.unusedVariables false
set_option linter.unusedSimpArgs false

set_option maxRecDepth 20000 in
theorem rlater_x (now n : Nat) (h1 : now < 18446744073709551616) (h2 : n < 18446744073709551616) (w : World) :
    Calls Tryz.prog 92 #[.int .u64 (now : Int), .int .u64 (n : Int)] w fun e w' => e = .returned (.int .u64 (laterL now n : Int)) ∧ w = w' := by
  have C1 := hid (show IntKind.u64.wrap ((now : Int) + (n : Int)) < (now : Int) → laterL now n = 18446744073709551615 by rw [IntKind.wrap_u64]; unfold laterL; omega)
  have C2 := hid (show (now : Int) ≤ IntKind.u64.wrap ((now : Int) + (n : Int)) → (laterL now n : Int) = IntKind.u64.wrap ((now : Int) + (n : Int)) by rw [IntKind.wrap_u64]; unfold laterL; omega)
  go_enter Tryz.func92, Tryz.ntmps92
  go_wp2
  · rename_i hh
    go_ret
    exact ⟨by rw [C1.out hh]; rfl, rfl⟩
  · rename_i hh
    go_ret
    exact ⟨by rw [C2.out hh]; rfl, rfl⟩
theorem rget_sat (w : World) (v : Value) (fs : List (Gs × Gs)) (name : Gs) (h : FsAt w v fs) (hl : fs.length ≤ 100000) :
    Calls Tryz.prog 88 #[v, .string ⟨name.toArray⟩] w fun e w' => ∃ v', e = .returned v' ∧ SAt w' v' (getL fs name) ∧ w.grownBy w' none := by
  obtain ⟨a, c, rfl⟩ := h.shape
  refine (rget_any w a fs.length c (fsN fs) (fsV fs) ⟨name.toArray⟩ h.pairs hl).mono ?_
  rintro e w' ⟨v', rfl, hown, g⟩
  have hg := getN_list name fs fs.length (Nat.le_refl _)
  rw [List.take_length] at hg
  have hlen : (getN (fsN fs) (fsV fs) ⟨name.toArray⟩ fs.length).length = (getL fs name).length := by have := congrArg List.length hg; simpa using this
  rw [hg, hlen] at hown
  exact ⟨v', rfl, sat_of_own hown, g⟩
theorem rcount_x (m t : ByteArray) (mi : Int) (fv bv : Value) (kp : Bool) (fs : List (Gs × Gs)) (name : Gs) (w : World) (hf : FsAt w fv fs) (hfl : fs.length ≤ 100000) (hbv : ∃ a n c, bv = .slice a n c) :
    Calls Tryz.prog 86 #[.agg #[.string m, .string t, .int .i64 mi, fv, bv, .bool kp], .string ⟨name.toArray⟩] w fun e w' => e = .returned (.int .i64 ((getL fs name).length : Int)) ∧ w.grownBy w' none := by
  obtain ⟨ba, bn, bc, rfl⟩ := hbv
  have HF := hid hf
  obtain ⟨fa, fc, rfl⟩ := hf.shape
  have nb := hid (heap_alloc_new w (.cells #[.string m, .string t, .int .i64 mi, .slice fa fs.length fc, .slice ba bn bc, .bool kp] 49))
  have g1 := hid (World.grownBy_alloc w (.cells #[.string m, .string t, .int .i64 mi, .slice fa fs.length fc, .slice ba bn bc, .bool kp] 49) none)
  have hc3 := (cell_of_block nb.out 3).trans (show _ = some (Value.slice fa fs.length fc) from rfl)
  have GET := hid (rget_sat _ _ fs name (HF.out.grow g1.out) hfl)
  clear hf nb
  go_enter Tryz.func86, Tryz.ntmps86
  go_wp2_with fail
  refine GET.out.mono ?_
  rintro e w2 ⟨sv, rfl, hs, g2⟩
  obtain ⟨sa, sc, rfl, -, -⟩ := hs
  have G2 := hid (gr_trans g1.out g2)
  clear g2
  go_wp2
  go_ret
  exact ⟨rfl, G2.out⟩
set_option maxRecDepth 20000 in
set_option maxHeartbeats 2000000 in
theorem rgranted_x (s : Gs) (n : Nat) (hn : n < 18446744073709551616) (w0 : World) :
    Calls Tryz.prog 94 #[.string ⟨s.toArray⟩, .int .u64 (n : Int)] w0 fun e w' => ∃ v, e = .returned v ∧ FsAt w' v (grantL s n) ∧ w0.grownBy w' none := by
  have HT := hid (rtext_any n hn w0)
  have HL := hid (dec_len n hn)
  obtain ⟨X, hX⟩ : ∃ X : ByteArray, X = ⟨s.toArray⟩ := ⟨_, rfl⟩
  obtain ⟨D, hD⟩ : ∃ X : ByteArray, X = ⟨(Lib.decDigits n).toArray⟩ := ⟨_, rfl⟩
  obtain ⟨T, hT⟩ : ∃ X : ByteArray, X = ⟨(secP2 ++ Lib.decDigits n).toArray⟩ := ⟨_, rfl⟩
  have HDT := hid (show (⟨#[83, 101, 99, 111, 110, 100, 45]⟩ : ByteArray) ++ D = T by rw [hD, hT]; exact g_app secP2 _)
  have HFS := hid (fun (W : World) (g : Nat) (h : W.heap[g]? = some (.cells #[.string ⟨#[83, 73, 68]⟩, .string X, .string ⟨#[84, 73, 77, 69, 79, 85, 84]⟩, .string T] 47 (0, 0))) => (show FsAt W (.slice (some ⟨g, 0, none⟩) 2 2) (grantL s n) from fs_two (by rw [hX, hT] at h; exact h)))
  have hDs : D.size ≤ 20 := by rw [hD, Lib.size_eq]; simpa using HL.out
  unfold str at HT
  rw [← hD] at HT
  rw [← hX]
  clear hX hD hT
  go_enter Tryz.func94, Tryz.ntmps94
  go_wp2_with fail
  refine HT.out.mono ?_
  rintro e w2 ⟨rfl, g2⟩
  have G2 := hid g2
  clear g2 HT
  go_wp2
  rw [HDT.out]
  go_ret
  exact ⟨_, rfl, HFS.out _ _ (heap_alloc_new w2 _), gr_alloc G2.out _⟩
end Go.Proofs.YtfceodbpkghkaaaGreatDoor
/- hearthref22: what stores leave; Expire. -/
namespace Go.Proofs.YtfceodbpkghkaaaGreatDoor
open Go.RowKit
set_option linter.unusedVariables false
set_option linter.unusedSimpArgs false

theorem infoRu : (Tryz.prog.info? 111).map (fun i => (i.zero, i.size, i.bytes)) = some (some (.agg #[.string ⟨#[]⟩, .int .u32 0, .int .u16 0, .string ⟨#[]⟩, .int .u32 0, .int .u64 0, .bool false, .int .u64 0, .slice none 0 0]), 9, 96) := by kernel_rfl
/-- The list is put in place. -/
theorem RAt.mk2 {w1 : World} {N N0 : Nat} {F : Nat → Prop} {B : Nat} {E' : List Sv} {most : Nat} {lv0 v' : Value} (low : N ≤ B) (hB : w1.heap[B]? = some (.cells #[lv0, .int .i64 most] 108 (0, 0))) (hr' : w1.ownsRow N0 111 9 v' E'.length (rw9 E')) (hN0 : N ≤ N0)
    (hE' : ∀ e ∈ E', ArgsK w1 N F e.2 e.1.last) (mo : most ≤ 9223372036854775807) (n : E'.length ≤ most) : RAt (w1.setCell ⟨B, 0, none⟩ v') N F B E' most ∧ KT TR N w1 (w1.setCell ⟨B, 0, none⟩ v') := by
  have g : w1.grownBy (w1.setCell ⟨B, 0, none⟩ v') (some B) := gr_set (gr_refl _ _)
  have k : KT TR N w1 (w1.setCell ⟨B, 0, none⟩ v') := KT.of_row g hB low rfl
  have hk := hr'.kept g (.inr (own_ne_fs hr' hB (by decide)).symm)
  refine ⟨⟨low, ⟨v', by rw [heap_set hB]; rfl, hk.1, ?_⟩, fun e he => (hE' e he).kt tr_ta k, mo, n⟩, k⟩
  rcases hk.2 with h | ⟨b, cap, cur, e1, e2, e3⟩
  · exact .inl h
  · exact .inr ⟨b, cap, cur, e1, Nat.le_trans hN0 e2, e3⟩
/-- A cell of the row is written. -/
theorem RAt.upd {w : World} {N : Nat} {F : Nat → Prop} {B : Nat} {E : List Sv} {most i j b cap : Nat} {e e' : Sv} {v : Value} (h : RAt w N F B E most) (hB : w.heap[B]? = some (.cells #[.slice (some ⟨b, 0, none⟩) E.length cap, .int .i64 most] 108 (0, 0))) (hi : E[i]? = some e) (hj : j < 9) (hs : (subC e'.1 e'.2).toList = (subC e.1 e.2).toList.set j v) (ha : ArgsK w N F e'.2 e'.1.last) :
    RAt (w.setCell ⟨b, i * 9 + j, none⟩ v) N F B (E.set i e') most ∧ KT TR N w (w.setCell ⟨b, i * 9 + j, none⟩ v) := by
  obtain ⟨lv, h1, h2⟩ := h.head
  obtain rfl : lv = .slice (some ⟨b, 0, none⟩) E.length cap := by rw [hB] at h1; simpa using h1.symm
  rcases h2.2 with ⟨e1, -⟩ | ⟨b', cap', cur, e1, e2, e3, k1, k2, k3, k4⟩
  · cases e1
  obtain ⟨rfl, rfl⟩ : b = b' ∧ cap = cap' := by simpa using e1
  have hil := (List.getElem?_eq_some_iff.1 hi).1
  have g : w.grownBy (w.setCell ⟨b, i * 9 + j, none⟩ v) (some b) := gr_set (gr_refl _ _)
  have k : KT TR N w (w.setCell ⟨b, i * 9 + j, none⟩ v) := KT.of_row g e3 e2 rfl
  refine ⟨⟨h.low, ⟨_, gr_keep g hB (blk_ne hB e3 (by decide)), by rw [rw9_len, List.length_set], .inr ⟨b, cap, cur.setIfInBounds (i * 9 + j) v, by rw [List.length_set], e2, by rw [heap_set e3], by rw [List.length_set]; exact k1, k2, by simpa using k3, ?_⟩⟩, fun x hx => ?_, h.mo, by rw [List.length_set]; exact h.n⟩, k⟩
  · rw [List.length_set, Array.toList_setIfInBounds, List.take_set, k4]
    exact rw9_set E i j e e' v hi hj hs
  · rcases List.mem_or_eq_of_mem_set hx with hx | rfl
    · exact (h.each x hx).kt tr_ta k
    · exact ha.kt tr_ta k
theorem filter_take_succ {E : List Sv} {k : Nat} {e : Sv} (p : Sv → Bool) (h : E[k]? = some e) : (E.take (k + 1)).filter p = (E.take k).filter p ++ (if p e then [e] else []) := by
  rw [List.take_add_one, h, List.filter_append]
  congr 1
  cases hp : p e <;> simp [hp]
/-- A row that is built of those whom a test takes. -/
def BuR (p : Sv → Bool) (E : List Sv) (w : World) (vi vo : Value) (wr : World) : Prop :=
  ∃ k : Nat, vi = .int .i64 k ∧ k ≤ E.length ∧ w.grownBy wr none ∧ wr.ownsRow w.heap.size 111 9 vo ((E.take k).filter p).length (rw9 ((E.take k).filter p))
theorem own_mt (w : World) (T : TypeId) : (w.alloc (.cells #[] T)).ownsRow w.heap.size T 9 (.slice (some ⟨w.heap.size, 0, none⟩) 0 0) 0 (rw9 []) :=
  ⟨rfl, .inr ⟨w.heap.size, 0, #[], rfl, Nat.le_refl _, heap_alloc_new w _, Nat.le_refl _, by simp [maxLen], rfl, rfl⟩⟩
set_option maxRecDepth 20000 in
set_option maxHeartbeats 4000000 in
theorem rexpire_x (N : Nat) (F : Nat → Prop) (B : Nat) (E : List Sv) (most : Nat) (now : Nat) (w : World) (h : RAt w N F B E most) (hEl : E.length ≤ 1000000) :
    Calls Tryz.prog 51 #[.pointer (some ⟨B, 0, none⟩), .int .u64 (now : Int)] w fun e w' => e = .returned (.tuple #[]) ∧ RAt w' N F B (E.filter fun e => decide (now < e.1.ends)) most ∧ KT TR N w w' := by
  obtain ⟨a, cap, hB, -, hcap, -, hc⟩ := h.parts
  have HB := hid hB
  have HH := hid h
  have c0 := (cell_of_block hB 0).trans (show _ = some (Value.slice a E.length cap) from rfl)
  have f0 := free_of_block hB 0
  have HC := hid hc
  have HNB := hid (Nat.le_trans h.low (Nat.le_of_lt (lt_of_block hB)))
  have OE := hid (own_mt w 111)
  have gE := hid (World.grownBy_alloc w (.cells #[] 111) none)
  clear hc hB h
  obtain ⟨P, hP⟩ : ∃ P : Sv → Bool, P = fun e => decide (now < e.1.ends) := ⟨_, rfl⟩
  have HPP := hid hP
  clear hP
  go_enter Tryz.func51, Tryz.ntmps51
  go_wp2_with fail
  go_loopw [5, 4] (fun vi vo wr => BuR P E w vi vo wr) (fun vi _ _ => E.length - (intOf vi).toNat)
  case atStart => exact ⟨0, rfl, Nat.zero_le _, gE.out, OE.out⟩
  case round =>
    obtain ⟨k, rfl, hk, gw, ho⟩ := hrel
    have OR := hid ho
    have GW := hid gw
    obtain ⟨oa, oc, rfl⟩ := own_shapeG ho
    have d0 := gw.cell c0 (by simp)
    clear ho
    by_cases hkl : k < E.length
    · obtain ⟨e, hek⟩ : ∃ e, E[k]? = some e := ⟨_, List.getElem?_eq_getElem hkl⟩
      obtain ⟨g, rfl, -, -, hcell⟩ := HC.out k e hek
      have hft := hid (filter_take_succ P hek)
      have hpe := hid (show P e = decide (now < e.1.ends) by rw [HPP.out])
      have q0 := gw.cell ((hcell 0 (by omega)).trans (show _ = some (str e.1.sid) from rfl)) (by simp)
      have q1 := gw.cell ((hcell 1 (by omega)).trans (show _ = some (.int .u32 e.1.host) from rfl)) (by simp)
      have q2 := gw.cell ((hcell 2 (by omega)).trans (show _ = some (.int .u16 e.1.port) from rfl)) (by simp)
      have q3 := gw.cell ((hcell 3 (by omega)).trans (show _ = some (str e.1.target) from rfl)) (by simp)
      have q4 := gw.cell ((hcell 4 (by omega)).trans (show _ = some (.int .u32 e.1.seq) from rfl)) (by simp)
      have q5 := gw.cell ((hcell 5 (by omega)).trans (show _ = some (.int .u64 e.1.ends) from rfl)) (by simp)
      have q6 := gw.cell ((hcell 6 (by omega)).trans (show _ = some (.bool e.1.busy) from rfl)) (by simp)
      have q7 := gw.cell ((hcell 7 (by omega)).trans (show _ = some (.int .u64 e.1.ready) from rfl)) (by simp)
      have q8 := gw.cell ((hcell 8 (by omega)).trans (show _ = some e.2 from rfl)) (by simp)
      have ho8 := hid (show e.2.oneCell' = true by obtain ⟨_, _, h, -⟩ := HH.out.each e (List.mem_of_getElem? hek); rw [h]; rfl)
      obtain ⟨⟨sd, hs, po, tg, sq, en, bu, re, la⟩, lv⟩ := e
      simp only [Nat.add_zero] at q0
      simp only at q0 q1 q2 q3 q4 q5 q6 q7 q8
      unfold str at q0 q3
      clear hcell hek gw
      by_cases hlt : now < en
      · have hPT := hid (show P (⟨sd, hs, po, tg, sq, en, bu, re, la⟩, lv) = true by rw [hpe.out]; exact decide_eq_true hlt)
        have hd := decide_eq_true (show (now : Int) < (en : Int) by omega)
        have hd2 : (now : Int) < (en : Int) := by omega
        obtain ⟨i0, hi0, hz0, hz1, hz2⟩ := info_parts infoRu
        have nB := heap_alloc_new wr (.cells #[.string ⟨sd.toArray⟩, .int .u32 (hs : Int), .int .u16 (po : Int), .string ⟨tg.toArray⟩, .int .u32 (sq : Int), .int .u64 (en : Int), .bool bu, .int .u64 (re : Int), lv] 111)
        have gB := World.grownBy_alloc wr (.cells #[.string ⟨sd.toArray⟩, .int .u32 (hs : Int), .int .u16 (po : Int), .string ⟨tg.toArray⟩, .int .u32 (sq : Int), .int .u64 (en : Int), .bool bu, .int .u64 (re : Int), lv] 111) none
        have OB := hid (own_growG OR.out gB)
        have GB := hid (gr_trans GW.out gB)
        have HSRC := hid (show SrcAt (wr.alloc (.cells #[.string ⟨sd.toArray⟩, .int .u32 (hs : Int), .int .u16 (po : Int), .string ⟨tg.toArray⟩, .int .u32 (sq : Int), .int .u64 (en : Int), .bool bu, .int .u64 (re : Int), lv] 111)) (some ⟨wr.heap.size, 0, none⟩) (subC ⟨sd, hs, po, tg, sq, en, bu, re, la⟩ lv).toList from .inr ⟨_, rfl, fun j u hu => by
          rw [Array.getElem?_toList] at hu
          rw [← hu]
          rw [show (⟨wr.heap.size, 0, none⟩ : Addr).add j = ⟨wr.heap.size, j, none⟩ by simp [Addr.add]; exact fun h => h.symm]
          exact cell_of_block nB j⟩)
        have HBS := hid GB.out.size
        have hfl := hid (Nat.le_trans (List.length_filter_le P (E.take k)) (Nat.le_trans (List.length_take_le ..) (Nat.le_of_lt hkl)))
        have H1C := hid (rw9_one [(⟨sd, hs, po, tg, sq, en, bu, re, la⟩, lv)])
        obtain ⟨T, hT⟩ : ∃ T, T = (E.take k).filter P := ⟨_, rfl⟩
        rw [← hT] at OB OR hfl
        have HTT := hid hT
        have hTl : T.length ≤ 1000000 := by have := hfl.out; omega
        rw [← hT]
        clear nB gB hT OR
        go_wp2_with (refine wpl_appG rfl (.tmp 26) (.tmp 34) 106 rfl (base := w.heap.size) (e := 111) (size := 9) (bytes := 96) Tryz.underlying106 hi0 hz0 hz1 hz2 rfl (by decide) (v := .slice oa T.length oc) (by rfl) OB.out (ad := some ⟨wr.heap.size, 0, none⟩) (m := 1) (c := 1) (news := (subC ⟨sd, hs, po, tg, sq, en, bu, re, la⟩ lv).toList) (by rfl) rfl HSRC.out (fun u hu => H1C.out u (by rw [rw9_cons]; exact List.mem_append_left _ hu) (fun e he => by obtain rfl := List.mem_singleton.1 he; exact ho8.out)) (by unfold maxLen; omega) (by omega) HBS.out ?_; intro v8 w8 k2 k3 k4; have NXT := hid (show BuR P E w (.int .i64 ((k : Int) + 1)) v8 w8 from ⟨k + 1, by go_num, by omega, gr_own GB.out OB.out (Nat.le_refl _) k3, by rw [hft.out, hPT.out, if_pos rfl, ← HTT.out, List.length_append, rw9_app]; exact k2⟩); clear k2 k3 k4)
        go_roundw
        case rel => exact NXT.out
        case measure => simp [intOf]; omega
      · have hPF := hid (show P (⟨sd, hs, po, tg, sq, en, bu, re, la⟩, lv) = false by rw [hpe.out]; exact decide_eq_false hlt)
        have hd := decide_eq_false hlt
        go_wp2_with fail
        go_roundw
        case rel => exact ⟨k + 1, by go_num, by omega, GW.out, by rw [hft.out, hPF.out]; simpa using OR.out⟩
        case measure => simp [intOf]; omega
    · obtain rfl : k = E.length := by omega
      have HT := hid (List.take_length (l := E))
      obtain ⟨T, hT⟩ : ∃ T, T = E.filter P := ⟨_, rfl⟩
      have OR2 := hid (show wr.ownsRow w.heap.size 111 9 (.slice oa (E.filter P).length oc) T.length (rw9 T) by have := OR.out; rw [hT]; rw [HT.out] at this; exact this)
      have hB2 := gr_keep GW.out HB.out (by simp)
      have f2 := free_of_block hB2 0
      have MK := hid (RAt.mk2 (F := F) HH.out.low hB2 OR2.out HNB.out (fun e he => (HH.out.each e (by rw [hT] at he; exact (List.mem_filter.1 he).1)).grow GW.out) HH.out.mo (by rw [hT]; exact Nat.le_trans (List.length_filter_le _ _) HH.out.n))
      have HTT := hid hT
      clear hT hB2
      go_wp2
      refine bodyPost_end (results_none rfl _ _ _) rfl ?_
      refine ⟨rfl, ?_, (KT.of_none GW.out).trans MK.out.2⟩
      have := MK.out.1
      rw [HTT.out] at this
      rw [← HPP.out]
      exact this
end Go.Proofs.YtfceodbpkghkaaaGreatDoor
/- hearthref22: Drop. -/
namespace Go.Proofs.YtfceodbpkghkaaaGreatDoor
open Go.RowKit
set_option linter.unusedVariables false
set_option linter.unusedSimpArgs false

/-- Numbers that lie below a bound. -/
def U32K (w : World) (N : Nat) (v : Value) (hs : List Nat) : Prop :=
  ∃ a c, v = .slice a hs.length c ∧ ∀ (i x : Nat), hs[i]? = some x → ∃ b o, a = some ⟨b, o, none⟩ ∧ b < N ∧ w.cell? ⟨b, o + i, none⟩ = some (.int .u32 (x : Int))
theorem U32K.kt {T : TypeId → Bool} {w w' : World} {N : Nat} {v : Value} {hs : List Nat} (h : U32K w N v hs) (k : KT T N w w') : U32K w' N v hs := by
  obtain ⟨a, c, e, h⟩ := h
  refine ⟨a, c, e, fun i x hx => ?_⟩
  obtain ⟨b, o, e1, e2, e3⟩ := h i x hx
  exact ⟨b, o, e1, e2, k.cell_low e3 e2⟩
def dropT (M : Nat) (p : Sv → Bool) (E : List Sv) : List Sv := (E.filter p).take M
theorem dropT_succ {E : List Sv} {k M : Nat} {e : Sv} (p : Sv → Bool) (h : E[k]? = some e) : dropT M p (E.take (k + 1)) = dropT M p (E.take k) ++ (if p e = true ∧ (dropT M p (E.take k)).length < M then [e] else []) := by
  unfold dropT
  rw [filter_take_succ p h, List.take_append]
  congr 1
  rw [List.length_take]
  by_cases hp : p e = true
  · rw [if_pos hp]
    by_cases hl : ((E.take k).filter p).length < M
    · rw [if_pos ⟨hp, by omega⟩, List.take_of_length_le (by simp; omega)]
    · rw [if_neg (fun h => hl (by have := h.2; omega)), show M - ((E.take k).filter p).length = 0 by omega]; rfl
  · rw [if_neg hp, if_neg (fun h => hp h.1)]; simp
theorem dropT_mem {E : List Sv} {M : Nat} {p : Sv → Bool} {e : Sv} (h : e ∈ dropT M p E) : e ∈ E := (List.mem_filter.1 (List.mem_of_mem_take h)).1
/-- The loop's state. -/
structure DrR (N : Nat) (B : Nat) (a : Option Addr) (cap : Nat) (M : Nat) (p : Sv → Bool) (E : List Sv) (w : World) (k : Nat) (vo : Value) (wr : World) : Prop where
  kt : KT TR N w wr
  big : w.heap.size ≤ wr.heap.size
  head : wr.heap[B]? = some (.cells #[.slice a E.length cap, .int .i64 M] 108 (0, 0))
  row : wr.ownsRow N 111 9 (.slice a E.length cap) E.length (rw9 E)
  out : wr.ownsRow N 111 9 vo (dropT M p (E.take k)).length (rw9 (dropT M p (E.take k)))
  ne : (Value.slice a E.length cap).ownBlock = none ∨ (Value.slice a E.length cap).ownBlock ≠ vo.ownBlock
  low : ∀ b, (Value.slice a E.length cap).ownBlock = some b → b < w.heap.size
theorem DrR.grow {N B : Nat} {a : Option Addr} {cap M : Nat} {p : Sv → Bool} {E : List Sv} {w : World} {k : Nat} {vo : Value} {wr w2 : World} (h : DrR N B a cap M p E w k vo wr) (g : wr.grownBy w2 none) : DrR N B a cap M p E w k vo w2 :=
  ⟨h.kt.trans (KT.of_none g), Nat.le_trans h.big g.size, gr_keep g h.head (by simp), own_growG h.row g, own_growG h.out g, h.ne, h.low⟩
theorem mem_take_succ {hs : List Nat} {i x h : Nat} (hx : hs[i]? = some x) : decide (h ∈ hs.take (i + 1)) = (decide (h ∈ hs.take i) || decide (x = h)) := by
  rw [List.take_add_one, hx]
  by_cases h1 : h ∈ hs.take i
  · simp [h1]
  · by_cases h2 : x = h
    · simp [h2]
    · have : ¬ h = x := fun e => h2 e.symm
      simp [h1, h2, this]
set_option maxRecDepth 20000 in
set_option maxHeartbeats 4000000 in
theorem rdrop_x (N : Nat) (F : Nat → Prop) (B : Nat) (E : List Sv) (most : Nat) (m' : Int) (hm1 : -9223372036854775808 ≤ m') (hm2 : m' ≤ 9223372036854775807) (hs : List Nat) (hv : Value) (w : World) (h : RAt w N F B E most) (hh : U32K w N hv hs) (hhl : hs.length ≤ 1000000) (hEl : E.length ≤ 1000000) :
    Calls Tryz.prog 59 #[.pointer (some ⟨B, 0, none⟩), .int .i64 m', hv] w fun e w' => e = .returned (.tuple #[]) ∧ RAt w' N F B (dropT m'.toNat (fun e => decide (e.1.host ∈ hs)) E) m'.toNat ∧ KT TR N w w' := by
  obtain ⟨a, cap, hB, hr, hcap, -, hc⟩ := h.parts
  have HB := hid hB
  have HH := hid h
  have HLOW := hid (show ∀ b, (Value.slice a E.length cap).ownBlock = some b → b < w.heap.size by
    intro b hb
    rcases hr.2 with ⟨e, -⟩ | ⟨g, c', cur, e, hN, hg, -⟩
    · rw [e] at hb; cases hb
    · rw [e] at hb
      obtain rfl : g = b := by simpa [Value.ownBlock] using hb
      exact lt_of_block hg)
  have HNB := hid (Nat.le_trans h.low (Nat.le_of_lt (lt_of_block hB)))
  have HR := hid hr
  obtain ⟨M, hM⟩ : ∃ M, M = m'.toNat := ⟨_, rfl⟩
  have hM3 : M ≤ 9223372036854775807 := by omega
  have OE := hid (own_mt w 111)
  have gE := hid (World.grownBy_alloc w (.cells #[] 111) none)
  have HN := hid (rnew_x N F m' hm1 hm2 (w.alloc (.cells #[] 111)) (Nat.le_trans HNB.out gE.out.size))
  rw [← hM] at HN ⊢
  have HU := hid hh
  obtain ⟨ua, uc, rfl, -⟩ := hh
  clear hc hr h hM
  obtain ⟨P, hP⟩ : ∃ P : Sv → Bool, P = fun e => decide (e.1.host ∈ hs) := ⟨_, rfl⟩
  rw [← hP]
  have HPP := hid hP
  clear hP
  go_enter Tryz.func59, Tryz.ntmps59
  go_wp2_with fail
  refine HN.out.mono ?_
  rintro e w2 ⟨rfl, hn, g2⟩
  obtain ⟨lvn, hn1, -⟩ := hn.head
  have c1 := (cell_of_block hn1 1).trans (show _ = some (Value.int .i64 M) from rfl)
  rw [show (w.alloc (.cells #[] 111)).heap.size = w.heap.size + 1 from Array.size_push ..] at c1
  have G2 := hid (gr_trans gE.out g2)
  have hB2 := gr_keep G2.out hB (by simp)
  have f1 := free_of_block hB2 1
  have cb1 := (cell_of_block hB2 1).trans (show _ = some (Value.int .i64 most) from rfl)
  have gS : w2.grownBy (w2.setCell ⟨B, 1, none⟩ (.int .i64 M)) (some B) := gr_set (gr_refl _ _)
  have hB3 := hid (show (w2.setCell ⟨B, 1, none⟩ (.int .i64 M)).heap[B]? = some (.cells #[.slice a E.length cap, .int .i64 M] 108 (0, 0)) by rw [heap_set hB2]; rfl)
  have ST := hid (show DrR N B a cap M P E w 0 (.slice (some ⟨w.heap.size, 0, none⟩) 0 0) (w2.setCell ⟨B, 1, none⟩ (.int .i64 M)) from
    ⟨(KT.of_none G2.out).trans (KT.of_row gS hB2 HH.out.low rfl), Nat.le_trans G2.out.size gS.size, hB3.out,
      (own_growG HR.out G2.out).kept gS (.inr (own_ne_fs (own_growG HR.out G2.out) hB2 (by decide)).symm),
      by
        have h1 := (own_growG OE.out g2).kept gS (.inr (own_ne_fs (own_growG OE.out g2) hB2 (by decide)).symm)
        rw [show dropT M P (E.take 0) = [] by simp [dropT]]
        refine ⟨rfl, ?_⟩
        rcases h1.2 with ⟨e, -⟩ | ⟨g, c', cur, e1, e2, e3⟩
        · cases e
        · exact .inr ⟨g, c', cur, by rw [e1]; rfl, Nat.le_trans HNB.out e2, e3⟩,
      .inr (by
        intro e
        have := HLOW.out w.heap.size e
        omega), HLOW.out⟩)
  clear hn hn1 hB2 hB g2 gS OE
  go_wp2_with fail
  go_loopw [7, 6] (fun vi vo wr => ∃ k : Nat, vi = .int .i64 k ∧ k ≤ E.length ∧ DrR N B a cap M P E w k vo wr) (fun vi _ _ => E.length - (intOf vi).toNat)
  case atStart => exact ⟨0, rfl, Nat.zero_le _, ST.out⟩
  case round =>
    obtain ⟨k, rfl, hk, hrr⟩ := hrel
    have RR := hid hrr
    obtain ⟨oa, oc, rfl⟩ := own_shapeG hrr.out
    have d0 := (cell_of_block hrr.head 0).trans (show _ = some (Value.slice a E.length cap) from rfl)
    clear hrr
    by_cases hkl : k < E.length
    · obtain ⟨e, hek⟩ : ∃ e, E[k]? = some e := ⟨_, List.getElem?_eq_getElem hkl⟩
      obtain ⟨g, rfl, -, -, hcell⟩ : ∃ g, a = some ⟨g, 0, none⟩ ∧ True ∧ True ∧ ∀ j, j < 9 → wr.cell? ⟨g, k * 9 + j, none⟩ = (subC e.1 e.2)[j]? := by
        obtain ⟨a2, c2, e2, -, -, h2⟩ := row9 RR.out.row
        obtain ⟨rfl, rfl⟩ : a = a2 ∧ cap = c2 := by simpa using e2
        obtain ⟨g, h3, -, -, h4⟩ := h2 k e hek
        exact ⟨g, h3, trivial, trivial, h4⟩
      have hft := hid (dropT_succ (M := M) P hek)
      have hpe := hid (show P e = decide (e.1.host ∈ hs) by rw [HPP.out])
      have HQ := hid hcell
      have q1 := (hcell 1 (by omega)).trans (show _ = some (.int .u32 e.1.host) from rfl)
      have HUR := hid (show ∀ (i x : Nat), hs[i]? = some x → ∃ b o, ua = some ⟨b, o, none⟩ ∧ wr.cell? ⟨b, o + i, none⟩ = some (.int .u32 (x : Int)) by
        obtain ⟨a2, c2, e2, h2⟩ := HU.out.kt RR.out.kt
        obtain ⟨rfl, rfl⟩ : ua = a2 ∧ uc = c2 := by simpa using e2
        intro i x hx
        obtain ⟨b, o, h3, -, h4⟩ := h2 i x hx
        exact ⟨b, o, h3, h4⟩)
      have ho8 := hid (show e.2.oneCell' = true by obtain ⟨_, _, h, -⟩ := HH.out.each e (List.mem_of_getElem? hek); rw [h]; rfl)
      obtain ⟨⟨sd, ht, po, tg, sq, en, bu, re, la⟩, lv⟩ := e
      simp only at q1 HQ
      clear hcell hek
      go_wp2_with fail
      go_loopw [9, 8] (fun vi vb w4 => ∃ i : Nat, vi = .int .i64 i ∧ i ≤ hs.length ∧ vb = .bool (decide (ht ∈ hs.take i)) ∧ wr.grownBy w4 none) (fun vi _ _ => hs.length - (intOf vi).toNat)
      case atStart => exact ⟨0, rfl, Nat.zero_le _, by simp, gr_refl _ _⟩
      case round =>
        obtain ⟨i, rfl, hi, rfl, g4⟩ := hrel
        have G4 := hid g4
        have e0 := g4.cell d0 (by simp)
        have e1 := g4.cell q1 (by simp)
        clear g4
        by_cases hil : i < hs.length
        · obtain ⟨x, hx⟩ : ∃ x, hs[i]? = some x := ⟨_, List.getElem?_eq_getElem hil⟩
          obtain ⟨b, o, rfl, hcx⟩ := HUR.out i x hx
          have e2 := G4.out.cell hcx (by simp)
          have HMS := hid (mem_take_succ (h := ht) hx)
          clear hcx hx
          have hi1 : (i : Int) < (hs.length : Int) := by omega
          have hk1 : (k : Int) < (E.length : Int) := by omega
          cases hb : decide (ht ∈ hs.take i)
          · by_cases hxe : x = ht
            · have HR1 := hid (show decide (ht ∈ hs.take (i + 1)) = true by rw [HMS.out, hb, hxe]; simp)
              subst hxe
              clear hb
              go_wp2_with fail
              go_quiet (fail)
              go_wp2_with fail
              go_roundw
              case rel => exact ⟨i + 1, by go_num, by omega, by rw [HR1.out], gr_trans G4.out (by (repeat (first | exact gr_refl _ _ | assumption | refine gr_drew ?_ | refine gr_drewN _ ?_ | refine gr_alloc ?_ _ | refine gr_set ?_ | refine gr_set_new ?_ (by first | omega | (simp; omega)))))⟩
              case measure => simp [intOf]; omega
            · have HR1 := hid (show decide (ht ∈ hs.take (i + 1)) = false by rw [HMS.out, hb]; simp [hxe])
              have hne : ((x : Int) == (ht : Int)) = false := by simp; omega
              clear hb
              go_wp2_with fail
              go_quiet (fail)
              go_wp2_with fail
              go_roundw
              case rel => exact ⟨i + 1, by go_num, by omega, by rw [HR1.out], gr_trans G4.out (by (repeat (first | exact gr_refl _ _ | assumption | refine gr_drew ?_ | refine gr_drewN _ ?_ | refine gr_alloc ?_ _ | refine gr_set ?_ | refine gr_set_new ?_ (by first | omega | (simp; omega)))))⟩
              case measure => simp [intOf]; omega
          · have HR1 := hid (show decide (ht ∈ hs.take (i + 1)) = true by rw [HMS.out, hb]; simp)
            clear hb
            go_wp2_with fail
            go_quiet (fail)
            go_wp2_with fail
            go_roundw
            case rel => exact ⟨i + 1, by go_num, by omega, by rw [HR1.out], gr_trans G4.out (by (repeat (first | exact gr_refl _ _ | assumption | refine gr_drew ?_ | refine gr_drewN _ ?_ | refine gr_alloc ?_ _ | refine gr_set ?_ | refine gr_set_new ?_ (by first | omega | (simp; omega)))))⟩
            case measure => simp [intOf]; omega
        · obtain rfl : i = hs.length := by omega
          rw [List.take_length]
          have R40 := RR.out.grow G4.out
          obtain ⟨T, hT⟩ : ∃ T, T = dropT M P (E.take k) := ⟨_, rfl⟩
          rw [← hT] at R40
          have R4 := hid R40
          clear R40
          have HTT := hid hT
          have hTl : T.length ≤ 1000000 := by
            rw [hT]; unfold dropT
            refine Nat.le_trans (List.length_take_le' ..) (Nat.le_trans (List.length_filter_le ..) (Nat.le_trans (List.length_take_le' ..) hEl))
          have OUT := hid R4.out.out
          rw [← hT] at OUT hft ⊢
          clear hT RR HUR
          have e8 := (cell_of_block R4.out.head 1).trans (show _ = some (Value.int .i64 M) from rfl)
          have hk1 : (k : Int) < (E.length : Int) := by omega
          by_cases hin : ht ∈ hs
          · rw [decide_eq_true hin]
            have hPT := hid (show P (⟨sd, ht, po, tg, sq, en, bu, re, la⟩, lv) = true by rw [hpe.out]; exact decide_eq_true hin)
            clear hin
            by_cases htm : T.length < M
            · have hd := decide_eq_true (show (T.length : Int) < (M : Int) by omega)
              have r0 := G4.out.cell ((HQ.out 0 (by omega)).trans (show _ = some (.string ⟨sd.toArray⟩) from rfl)) (by simp)
              have r2 := G4.out.cell ((HQ.out 2 (by omega)).trans (show _ = some (.int .u16 po) from rfl)) (by simp)
              have r3 := G4.out.cell ((HQ.out 3 (by omega)).trans (show _ = some (.string ⟨tg.toArray⟩) from rfl)) (by simp)
              have r4 := G4.out.cell ((HQ.out 4 (by omega)).trans (show _ = some (.int .u32 sq) from rfl)) (by simp)
              have r5 := G4.out.cell ((HQ.out 5 (by omega)).trans (show _ = some (.int .u64 en) from rfl)) (by simp)
              have r6 := G4.out.cell ((HQ.out 6 (by omega)).trans (show _ = some (.bool bu) from rfl)) (by simp)
              have r7 := G4.out.cell ((HQ.out 7 (by omega)).trans (show _ = some (.int .u64 re) from rfl)) (by simp)
              have r8 := G4.out.cell ((HQ.out 8 (by omega)).trans (show _ = some lv from rfl)) (by simp)
              rw [Nat.add_zero] at r0
              obtain ⟨i0, hi0, hz0, hz1, hz2⟩ := info_parts infoRu
              have nB := heap_alloc_new wr (.cells #[.string ⟨sd.toArray⟩, .int .u32 (ht : Int), .int .u16 (po : Int), .string ⟨tg.toArray⟩, .int .u32 (sq : Int), .int .u64 (en : Int), .bool bu, .int .u64 (re : Int), lv] 111)
              have gB := World.grownBy_alloc wr (.cells #[.string ⟨sd.toArray⟩, .int .u32 (ht : Int), .int .u16 (po : Int), .string ⟨tg.toArray⟩, .int .u32 (sq : Int), .int .u64 (en : Int), .bool bu, .int .u64 (re : Int), lv] 111) none
              have RB := hid (R4.out.grow gB)
              have OB := hid (own_growG OUT.out gB)
              have HSRC := hid (show SrcAt (wr.alloc (.cells #[.string ⟨sd.toArray⟩, .int .u32 (ht : Int), .int .u16 (po : Int), .string ⟨tg.toArray⟩, .int .u32 (sq : Int), .int .u64 (en : Int), .bool bu, .int .u64 (re : Int), lv] 111)) (some ⟨wr.heap.size, 0, none⟩) (subC ⟨sd, ht, po, tg, sq, en, bu, re, la⟩ lv).toList from .inr ⟨_, rfl, fun j u hu => by
                rw [Array.getElem?_toList] at hu
                rw [← hu]
                rw [show (⟨wr.heap.size, 0, none⟩ : Addr).add j = ⟨wr.heap.size, j, none⟩ by simp [Addr.add]; exact fun h => h.symm]
                exact cell_of_block nB j⟩)
              have HBS := hid (Nat.le_trans HNB.out RB.out.big)
              have H1C := hid (rw9_one [(⟨sd, ht, po, tg, sq, en, bu, re, la⟩, lv)])
              have NX := hid (fun (v8 : Value) (w8 : World) (k2 : w8.ownsRow N 111 9 v8 (T.length + 1) (rw9 T ++ (subC ⟨sd, ht, po, tg, sq, en, bu, re, la⟩ lv).toList)) (k3 : (wr.alloc (.cells #[.string ⟨sd.toArray⟩, .int .u32 (ht : Int), .int .u16 (po : Int), .string ⟨tg.toArray⟩, .int .u32 (sq : Int), .int .u64 (en : Int), .bool bu, .int .u64 (re : Int), lv] 111)).grownBy w8 (Value.slice oa T.length oc).ownBlock) (k4 : v8.ownBlock = (Value.slice oa T.length oc).ownBlock ∨ v8.ownBlock = some (wr.alloc (.cells #[.string ⟨sd.toArray⟩, .int .u32 (ht : Int), .int .u16 (po : Int), .string ⟨tg.toArray⟩, .int .u32 (sq : Int), .int .u64 (en : Int), .bool bu, .int .u64 (re : Int), lv] 111)).heap.size) =>
                (show DrR N B (some ⟨g, 0, none⟩) cap M P E w (k + 1) v8 w8 from by
                  have hk8 : KT TR N (wr.alloc (.cells #[.string ⟨sd.toArray⟩, .int .u32 (ht : Int), .int .u16 (po : Int), .string ⟨tg.toArray⟩, .int .u32 (sq : Int), .int .u64 (en : Int), .bool bu, .int .u64 (re : Int), lv] 111)) w8 := by
                    rcases OB.out.2 with ⟨e, -⟩ | ⟨b9, c9, u9, e, hN9, hb9, -⟩
                    · rw [e] at k3; exact KT.of_none k3
                    · rw [e] at k3; exact KT.of_row k3 hb9 hN9 rfl
                  refine ⟨RB.out.kt.trans hk8, Nat.le_trans RB.out.big k3.size, gr_keep k3 RB.out.head (own_ne_fs OB.out RB.out.head (by decide)), RB.out.row.kept k3 RB.out.ne, ?_, ?_, RB.out.low⟩
                  · rw [hft.out, if_pos ⟨hPT.out, htm⟩, List.length_append, rw9_app]; exact k2
                  · rcases k4 with e | e
                    · rw [e]; exact RB.out.ne
                    · rw [e]
                      refine .inr fun e2 => ?_
                      have := RB.out.low _ e2
                      have := RB.out.big
                      omega))
              clear nB gB R4 OUT
              go_wp2_with (refine wpl_appG rfl (.tmp 60) (.tmp 68) 106 rfl (base := N) (e := 111) (size := 9) (bytes := 96) Tryz.underlying106 hi0 hz0 hz1 hz2 rfl (by decide) (v := .slice oa T.length oc) (by rfl) OB.out (ad := some ⟨wr.heap.size, 0, none⟩) (m := 1) (c := 1) (news := (subC ⟨sd, ht, po, tg, sq, en, bu, re, la⟩ lv).toList) (by rfl) rfl HSRC.out (fun u hu => H1C.out u (by rw [rw9_cons]; exact List.mem_append_left _ hu) (fun e he => by obtain rfl := List.mem_singleton.1 he; exact ho8.out)) (by unfold maxLen; omega) (by omega) HBS.out ?_; intro v8 w8 k2 k3 k4; have NXT := hid (NX.out v8 w8 k2 k3 k4); clear k2 k3 k4)
              go_roundw
              case rel => exact ⟨k + 1, by go_num, by omega, NXT.out⟩
              case measure => simp [intOf]; omega
            · have hd := decide_eq_false htm
              have hd2 := decide_eq_false (show ¬ (T.length : Int) < (M : Int) by omega)
              have NXT := hid (show DrR N B (some ⟨g, 0, none⟩) cap M P E w (k + 1) (.slice oa T.length oc) wr from ⟨R4.out.kt, R4.out.big, R4.out.head, R4.out.row, by rw [hft.out, if_neg (fun h => htm h.2), List.append_nil]; exact OUT.out, R4.out.ne, R4.out.low⟩)
              clear R4 OUT
              go_wp2_with fail
              go_roundw
              case rel => exact ⟨k + 1, by go_num, by omega, NXT.out⟩
              case measure => simp [intOf]; omega
          · rw [decide_eq_false hin]
            have hPF := hid (show ¬ P (⟨sd, ht, po, tg, sq, en, bu, re, la⟩, lv) = true by rw [hpe.out]; simp [hin])
            have NXT := hid (show DrR N B (some ⟨g, 0, none⟩) cap M P E w (k + 1) (.slice oa T.length oc) wr from ⟨R4.out.kt, R4.out.big, R4.out.head, R4.out.row, by rw [hft.out, if_neg (fun h => hPF.out h.1), List.append_nil]; exact OUT.out, R4.out.ne, R4.out.low⟩)
            clear R4 OUT hin
            go_wp2_with fail
            go_roundw
            case rel => exact ⟨k + 1, by go_num, by omega, NXT.out⟩
            case measure => simp [intOf]; omega
    · obtain rfl : k = E.length := by omega
      obtain ⟨T, hT⟩ : ∃ T, T = dropT M P (E.take E.length) := ⟨_, rfl⟩
      have RO := RR.out.out
      rw [← hT] at RO ⊢
      have HTT := hid (show T = dropT M P E by rw [hT, List.take_length])
      have f2 := free_of_block RR.out.head 0
      have MK := hid (RAt.mk2 (F := F) HH.out.low RR.out.head RO (Nat.le_refl _) (fun e he => (HH.out.each e (by rw [HTT.out] at he; exact dropT_mem he)).kt tr_ta RR.out.kt) hM3 (by rw [HTT.out]; unfold dropT; exact List.length_take_le ..))
      have KK := hid RR.out.kt
      clear RO RR hT
      go_wp2
      refine bodyPost_end (results_none rfl _ _ _) rfl ?_
      refine ⟨rfl, ?_, KK.out.trans MK.out.2⟩
      rw [← HTT.out]
      exact MK.out.1
end Go.Proofs.YtfceodbpkghkaaaGreatDoor
