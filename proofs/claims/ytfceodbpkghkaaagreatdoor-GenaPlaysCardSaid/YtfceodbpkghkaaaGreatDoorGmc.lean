/- gena.(*Subs).Subscribe. -/
import Derived.Test.YtfceodbpkghkaaaGreatDoorMB
import Derived.Test.YtfceodbpkghkaaaGreatDoorMS
namespace Go.Proofs.YtfceodbpkghkaaaGreatDoor
open Go.RowKit
set_option linter.unusedVariables false
set_option linter.unusedSimpArgs false

/-- The tables that are looked into, below the bound. -/
structure Tabs (N : Nat) (mc : Int) (w : World) : Prop where
  p10 : P10 w
  low : ∀ i, Tryz.prog.globalNamed "internal/strconv.uint64pow10" = some i → i < N
  max : MaxCell mc w
  pos : 0 < N
theorem Tabs.kt {T : TypeId → Bool} {N : Nat} {mc : Int} {w w' : World} (h : Tabs N mc w) (k : KT T N w w') : Tabs N mc w' := by
  refine ⟨?_, h.low, k.cell_low h.max h.pos, h.pos⟩
  have hp := h.p10
  have hl := h.low
  unfold P10 Lib.TabIs World.var? at *
  cases hg : Tryz.prog.globalNamed "internal/strconv.uint64pow10" with
  | none => simp [hg] at hp
  | some i =>
    simp only [hg, Option.bind_some] at hp ⊢
    have hlt : i < w.heap.size := by
      rcases Nat.lt_or_ge i w.heap.size with h' | h'
      · exact h'
      · simp [Array.getElem?_eq_none h'] at hp
    rw [k.low (Array.getElem?_eq_getElem hlt) (hl i hg), ← Array.getElem?_eq_getElem hlt]
    exact hp
theorem Tabs.grow {N : Nat} {mc : Int} {w w' : World} (h : Tabs N mc w) (g : w.grownBy w' none) : Tabs N mc w' := h.kt (T := fun _ => false) (KT.of_none g)
theorem subsL_sid {most : Nat} {L : List Sb} {fs : List (Gs × Gs)} {who now a b : Nat} {s : Gs} {more : List Gs} (h : getL fs kSid = s :: more) :
    subsL most L fs who now a b = if more ≠ [] ∨ getL fs kNt ≠ [] ∨ getL fs kCall ≠ [] then (L, 400, []) else (match L[findL L s]? with | none => (L, 412, []) | some x => if x.host = who then (L.set (findL L s) { x with ends := laterL now (secsL fs) }, 200, grantL x.sid (secsL fs)) else (L, 412, [])) := by
  unfold subsL; rw [h]; rfl
theorem subsL_new {most : Nat} {L : List Sb} {fs : List (Gs × Gs)} {who now a b : Nat} (h : getL fs kSid = []) :
    subsL most L fs who now a b = match getL fs kNt, getL fs kCall with
    | [t], [c] =>
      if t = kEvent then
        match cbL c with
        | none => (L, 412, [])
        | some (h, p, tg) =>
          if h ≠ who then (L, 412, []) else
          if most ≤ L.length ∨ findL L (sidL a b) < L.length then (L, 503, []) else
          (L ++ [⟨sidL a b, h, p, tg, 0, laterL now (secsL fs), false, now, []⟩], 200, grantL (sidL a b) (secsL fs))
      else (L, 412, [])
    | _, _ => (L, 412, []) := by
  unfold subsL; rw [h]; rfl
/-- One more is put in place. -/
theorem PAt.push {w w1 : World} {N : Nat} {F : Nat → Prop} {B : Nat} {E : List (Nat × Sb)} {most d : Nat} {x : Sb} {lv v' : Value} (h : PAt w N F B E most) (hB : w.heap[B]? = some (.cells #[lv, .int .i64 most] 89 (0, 0))) (hr : w.ownsRow N 95 1 lv E.length (E.map ptV))
    (g : w.grownBy w1 lv.ownBlock) (hr' : w1.ownsRow N 95 1 v' (E.length + 1) (E.map ptV ++ [.pointer (some ⟨d, 0, none⟩)])) (hx : PSub w N F d x) (hd : ∀ e ∈ E, e.1 ≠ d) (hn : E.length < most) :
    PAt (w1.setCell ⟨B, 0, none⟩ v') N F B (E ++ [(d, x)]) most ∧ KT TP N w (w1.setCell ⟨B, 0, none⟩ v') := by
  have k1 : KT TL N w w1 := own_KT rfl hr g
  have hB1 : w1.heap[B]? = some (.cells #[lv, .int .i64 most] 89 (0, 0)) := gr_keep g hB (own_ne_fs hr hB (by decide))
  have g2 : w1.grownBy (w1.setCell ⟨B, 0, none⟩ v') (some B) := gr_set (gr_refl _ _)
  have k2 : KT TL N w (w1.setCell ⟨B, 0, none⟩ v') := k1.trans (KT.of_row g2 hB1 h.low rfl)
  refine ⟨⟨h.low, ⟨v', by rw [heap_set hB1]; rfl, ?_⟩, ?_, fun e he => ?_, h.mo, by rw [List.length_append]; exact hn⟩, k2.mono tl_tp⟩
  · rw [List.length_append, List.map_append]
    exact hr'.kept g2 (.inr (own_ne_fs hr' hB1 (by decide)).symm)
  · rw [List.map_append, List.nodup_append]
    refine ⟨h.nodup, by simp, fun b hb c hc e => ?_⟩
    obtain ⟨e1, he1, rfl⟩ := List.mem_map.1 hb
    simp only [List.map_cons, List.map_nil, List.mem_singleton] at hc
    exact hd e1 he1 (e.trans hc)
  · rcases List.mem_append.1 he with he | he
    · exact (h.each e he).kt2 tl_ta rfl k2
    · obtain rfl : e = (d, x) := by simpa using he
      exact hx.kt2 tl_ta rfl k2
/-- An answer: a status and fields. -/
def FdPost (w : World) (N : Nat) (F : Nat → Prop) (B most : Nat) (r : List Sb × Nat × List (Gs × Gs)) (e : Ending) (w' : World) : Prop :=
  ∃ v, e = .returned (.tuple #[.int .i64 (r.2.1 : Int), v]) ∧ FsAt w' v r.2.2 ∧ PAll w' N F B r.1 most ∧ KT TP N w w'
theorem secL_le (l : Gs) : secL l ≤ 1800 := by unfold secL; split <;> omega
theorem secsL_le (fs : List (Gs × Gs)) : secsL fs ≤ 1800 := by unfold secsL; split; omega; exact secL_le _
def secsT : List Gs → Nat
  | [] => 1800
  | t :: _ => secL t
theorem secsL_T (fs : List (Gs × Gs)) : secsL fs = secsT (getL fs kTime) := by unfold secsL secsT; cases getL fs kTime <;> rfl
theorem SAt.shape {w : World} {v : Value} {xs : List Gs} (h : SAt w v xs) : ∃ a c, v = .slice a xs.length c ∧ ∀ s r, xs = s :: r → ∃ g, a = some ⟨g, 0, none⟩ ∧ w.cell? ⟨g, 0, none⟩ = some (.string ⟨s.toArray⟩) := by
  obtain ⟨a, c, h1, -, h2⟩ := h
  exact ⟨a, c, h1, fun s r e => h2 0 s (by rw [e]; rfl)⟩
set_option maxRecDepth 20000 in
set_option maxHeartbeats 4000000 in
theorem subscribe_x (N : Nat) (F : Nat → Prop) (B : Nat) (E : List (Nat × Sb)) (most : Nat) (m t : ByteArray) (mi : Int) (fv bv : Value) (kp : Bool) (fs : List (Gs × Gs)) (who now a b : Nat) (mc : Int) (w : World)
    (h : PAt w N F B E most) (hf : FsAt w fv fs) (hfl : fs.length ≤ 100000) (hfv : ∀ f ∈ fs, f.2.length ≤ 2000) (hbv : ∃ a n c, bv = .slice a n c) (hEl : E.length ≤ 1000000)
    (hN : N ≤ w.heap.size) (hnow : now < 18446744073709551616) (ha : a < 18446744073709551616) (hb : b < 18446744073709551616) (htb : Tabs N mc w) :
    Calls Tryz.prog 15 #[.pointer (some ⟨B, 0, none⟩), .agg #[.string m, .string t, .int .i64 mi, fv, bv, .bool kp], .int .u32 (who : Int), .int .u64 (now : Int), .agg #[.int .u64 (a : Int), .int .u64 (b : Int)]] w (FdPost w N F B most (subsL most (E.map (·.2)) fs who now a b)) := by
  obtain ⟨ba, bn, bc, rfl⟩ := hbv
  have HF := hid hf
  obtain ⟨fa, fc, rfl⟩ := hf.shape
  have nb := hid (heap_alloc_new w (.cells #[.string m, .string t, .int .i64 mi, .slice fa fs.length fc, .slice ba bn bc, .bool kp] 49))
  have g1 := World.grownBy_alloc w (.cells #[.string m, .string t, .int .i64 mi, .slice fa fs.length fc, .slice ba bn bc, .bool kp] 49) none
  obtain ⟨w1, hw1⟩ : ∃ w1, w1 = w.alloc (.cells #[.string m, .string t, .int .i64 mi, .slice fa fs.length fc, .slice ba bn bc, .bool kp] 49) := ⟨_, rfl⟩
  rw [← hw1] at nb g1
  have HW1 := hid hw1
  clear hw1
  have nb2 := heap_alloc_new w1 (.cells #[.int .u64 (a : Int), .int .u64 (b : Int)] 43)
  have g2 := World.grownBy_alloc w1 (.cells #[.int .u64 (a : Int), .int .u64 (b : Int)] 43) none
  obtain ⟨w2, hw2⟩ : ∃ w2, w2 = w1.alloc (.cells #[.int .u64 (a : Int), .int .u64 (b : Int)] 43) := ⟨_, rfl⟩
  rw [← hw2] at nb2 g2
  have HW2 := hid hw2
  clear hw2
  obtain ⟨A, hA⟩ : ∃ A, A = w.heap.size := ⟨_, rfl⟩
  obtain ⟨D, hD⟩ : ∃ D, D = w1.heap.size := ⟨_, rfl⟩
  rw [← hA] at nb
  rw [← hD] at nb2
  have HAA := hid hA
  have HDD := hid (show D = A + 1 by rw [hD, HW1.out, hA]; simp)
  have G2 := hid (gr_trans g1 g2)
  have P2 := hid (h.grow G2.out)
  have p3 := g2.cell ((cell_of_block nb.out 3).trans (show _ = some (Value.slice fa fs.length fc) from rfl)) (by simp)
  have HND := hid nb2
  have GET := hid (fun (W : World) (g : w2.grownBy W none) (name : Gs) => get_sat W _ fs name ((HF.out.grow G2.out).grow g) (by omega))
  have HTB := hid (htb.grow G2.out)
  have HFV := hid hfv
  have HNB := hid (show N ≤ w2.heap.size from Nat.le_trans hN G2.out.size)
  have HB64 := hid (And.intro hnow (And.intro ha hb))
  clear hA hD g1 g2 nb nb2 hf h htb hfv hN hnow ha hb
  obtain ⟨r, hr⟩ : ∃ r, r = subsL most (E.map (·.2)) fs who now a b := ⟨_, rfl⟩
  have HR := hid hr
  rw [← hr]
  clear hr
  go_enter Tryz.func15, Tryz.ntmps15
  go_wp2_with fail
  rw [← HW1.out, ← HAA.out, ← HDD.out, ← HW2.out]
  obtain ⟨w0, hw0⟩ : ∃ w0, w0 = w2 := ⟨_, rfl⟩
  rw [← hw0] at G2 P2 p3 HND GET HTB HNB ⊢
  clear hw0 HW2 HW1 HDD HAA
  refine wp_region_spec2 (by kernel_rfl) (by kernel_rfl) (n := 12) (by kernel_rfl) [some 24, some 25, some 26, some 27, some 28, some 29, some 30, some 31, some 32, some 12, some 13, some 14] (by kernel_rfl) _ (fun u => (by simp only [fill, List.zipIdx_cons, List.zipIdx_nil, List.foldl_cons, List.foldl_nil, Act.put, List.setIfInBounds_toArray, List.set_cons_zero, List.set_cons_succ, Nat.zero_add, Nat.reduceAdd]; exact rfl)) (by kernel_rfl)
    (all_succ (all_succ (all_succ (all_succ (all_succ (all_succ (all_succ (all_succ (all_succ (all_succ (all_succ (all_succ (all_zero _) (fun u v => by kernel_rfl)) (fun u v => by kernel_rfl)) (fun u v => by kernel_rfl)) (fun u v => by kernel_rfl)) (fun u v => by kernel_rfl)) (fun u v => by kernel_rfl)) (fun u v => by kernel_rfl)) (fun u v => by kernel_rfl)) (fun u v => by kernel_rfl)) (fun u v => by kernel_rfl)) (fun u v => by kernel_rfl)) (fun u v => by kernel_rfl))
    (fun ri v w => match ri with | 0 => v = .pointer (some ⟨A, 3, none⟩) | 1 => v = .slice fa fs.length fc | 2 => SAt w v (getL fs kSid) | 3 => v = .pointer (some ⟨A, 3, none⟩) | 4 => v = .slice fa fs.length fc | 5 => SAt w v (getL fs kNt) | 6 => v = .pointer (some ⟨A, 3, none⟩) | 7 => v = .slice fa fs.length fc | 8 => SAt w v (getL fs kCall) | 9 => SAt w v (getL fs kSid) | 10 => SAt w v (getL fs kNt) | 11 => SAt w v (getL fs kCall) | _ => True)
    (all_succ (all_succ (all_succ (all_succ (all_succ (all_succ (all_succ (all_succ (all_succ (all_succ (all_succ (all_succ (all_zero _) ?m0) ?m1) ?m2) ?m3) ?m4) ?m5) ?m6) ?m7) ?m8) ?m9) ?m10) ?m11)
    [[], [0], [1], [], [3], [4], [], [6], [7], [2], [5], [8]] (by kernel_rfl)
    ⟨?o0, ?o1, ?o2, ?o3, ?o4, ?o5, ?o6, ?o7, ?o8, ?o9, ?o10, ?o11, trivial⟩ ?done
  case m0 => intro v w w' h g; first | exact h | exact SAt.grow h g
  case m1 => intro v w w' h g; first | exact h | exact SAt.grow h g
  case m2 => intro v w w' h g; first | exact h | exact SAt.grow h g
  case m3 => intro v w w' h g; first | exact h | exact SAt.grow h g
  case m4 => intro v w w' h g; first | exact h | exact SAt.grow h g
  case m5 => intro v w w' h g; first | exact h | exact SAt.grow h g
  case m6 => intro v w w' h g; first | exact h | exact SAt.grow h g
  case m7 => intro v w w' h g; first | exact h | exact SAt.grow h g
  case m8 => intro v w w' h g; first | exact h | exact SAt.grow h g
  case m9 => intro v w w' h g; first | exact h | exact SAt.grow h g
  case m10 => intro v w w' h g; first | exact h | exact SAt.grow h g
  case m11 => intro v w w' h g; first | exact h | exact SAt.grow h g
  case o0 =>
    intro u w g hd K hK
    clear hd
    simp only [Act.put, List.setIfInBounds_toArray, List.set_cons_zero, List.set_cons_succ] at hK
    go_simp
    exact hK _ _ rfl (gr_refl _ _)
  case o1 =>
    intro u w g hd K hK
    have h0 : (u 0) = .pointer (some ⟨A, 3, none⟩) := hd 0 (by simp)
    clear hd
    simp only [Act.put, List.setIfInBounds_toArray, List.set_cons_zero, List.set_cons_succ] at hK
    have c := g.cell p3 (by simp)
    simp only [h0] at hK ⊢
    go_simp
    exact hK _ _ rfl (gr_refl _ _)
  case o2 =>
    intro u w g hd K hK
    have h1 : (u 1) = .slice fa fs.length fc := hd 1 (by simp)
    clear hd
    simp only [Act.put, List.setIfInBounds_toArray, List.set_cons_zero, List.set_cons_succ] at hK
    simp only [h1] at hK ⊢
    go_simp
    refine (GET.out w g kSid).mono ?_
    rintro e w' ⟨v', rfl, hs, g'⟩
    exact hK v' w' hs g'
  case o3 =>
    intro u w g hd K hK
    clear hd
    simp only [Act.put, List.setIfInBounds_toArray, List.set_cons_zero, List.set_cons_succ] at hK
    go_simp
    exact hK _ _ rfl (gr_refl _ _)
  case o4 =>
    intro u w g hd K hK
    have h3 : (u 3) = .pointer (some ⟨A, 3, none⟩) := hd 3 (by simp)
    clear hd
    simp only [Act.put, List.setIfInBounds_toArray, List.set_cons_zero, List.set_cons_succ] at hK
    have c := g.cell p3 (by simp)
    simp only [h3] at hK ⊢
    go_simp
    exact hK _ _ rfl (gr_refl _ _)
  case o5 =>
    intro u w g hd K hK
    have h4 : (u 4) = .slice fa fs.length fc := hd 4 (by simp)
    clear hd
    simp only [Act.put, List.setIfInBounds_toArray, List.set_cons_zero, List.set_cons_succ] at hK
    simp only [h4] at hK ⊢
    go_simp
    refine (GET.out w g kNt).mono ?_
    rintro e w' ⟨v', rfl, hs, g'⟩
    exact hK v' w' hs g'
  case o6 =>
    intro u w g hd K hK
    clear hd
    simp only [Act.put, List.setIfInBounds_toArray, List.set_cons_zero, List.set_cons_succ] at hK
    go_simp
    exact hK _ _ rfl (gr_refl _ _)
  case o7 =>
    intro u w g hd K hK
    have h6 : (u 6) = .pointer (some ⟨A, 3, none⟩) := hd 6 (by simp)
    clear hd
    simp only [Act.put, List.setIfInBounds_toArray, List.set_cons_zero, List.set_cons_succ] at hK
    have c := g.cell p3 (by simp)
    simp only [h6] at hK ⊢
    go_simp
    exact hK _ _ rfl (gr_refl _ _)
  case o8 =>
    intro u w g hd K hK
    have h7 : (u 7) = .slice fa fs.length fc := hd 7 (by simp)
    clear hd
    simp only [Act.put, List.setIfInBounds_toArray, List.set_cons_zero, List.set_cons_succ] at hK
    simp only [h7] at hK ⊢
    go_simp
    refine (GET.out w g kCall).mono ?_
    rintro e w' ⟨v', rfl, hs, g'⟩
    exact hK v' w' hs g'
  case o9 =>
    intro u w g hd K hK
    have h2 : SAt w (u 2) (getL fs kSid) := hd 2 (by simp)
    clear hd
    simp only [Act.put, List.setIfInBounds_toArray, List.set_cons_zero, List.set_cons_succ] at hK
    go_simp
    exact hK _ _ h2 (gr_refl _ _)
  case o10 =>
    intro u w g hd K hK
    have h5 : SAt w (u 5) (getL fs kNt) := hd 5 (by simp)
    clear hd
    simp only [Act.put, List.setIfInBounds_toArray, List.set_cons_zero, List.set_cons_succ] at hK
    go_simp
    exact hK _ _ h5 (gr_refl _ _)
  case o11 =>
    intro u w g hd K hK
    have h8 : SAt w (u 8) (getL fs kCall) := hd 8 (by simp)
    clear hd
    simp only [Act.put, List.setIfInBounds_toArray, List.set_cons_zero, List.set_cons_succ] at hK
    go_simp
    exact hK _ _ h8 (gr_refl _ _)
  intro u w hS g
  have s0 : (u 0) = .pointer (some ⟨A, 3, none⟩) := hS 0 (by decide)
  have s1 : (u 1) = .slice fa fs.length fc := hS 1 (by decide)
  have s2 : SAt w (u 2) (getL fs kSid) := hS 2 (by decide)
  have s3 : (u 3) = .pointer (some ⟨A, 3, none⟩) := hS 3 (by decide)
  have s4 : (u 4) = .slice fa fs.length fc := hS 4 (by decide)
  have s5 : SAt w (u 5) (getL fs kNt) := hS 5 (by decide)
  have s6 : (u 6) = .pointer (some ⟨A, 3, none⟩) := hS 6 (by decide)
  have s7 : (u 7) = .slice fa fs.length fc := hS 7 (by decide)
  have s8 : SAt w (u 8) (getL fs kCall) := hS 8 (by decide)
  have s9 : SAt w (u 9) (getL fs kSid) := hS 9 (by decide)
  have s10 : SAt w (u 10) (getL fs kNt) := hS 10 (by decide)
  have s11 : SAt w (u 11) (getL fs kCall) := hS 11 (by decide)
  clear hS
  have S12 := hid s9
  have S13 := hid s10
  have S14 := hid s11
  have GX := hid g
  clear s0 s1 s2 s3 s4 s5 s6 s7 s8 s9 s10 s11 g
  generalize u 0 = x0 at *
  generalize u 1 = x1 at *
  generalize u 2 = x2 at *
  generalize u 3 = x3 at *
  generalize u 4 = x4 at *
  generalize u 5 = x5 at *
  generalize u 6 = x6 at *
  generalize u 7 = x7 at *
  generalize u 8 = x8 at *
  generalize u 9 = x9 at *
  generalize u 10 = x10 at *
  generalize u 11 = x11 at *
  have q3 := GX.out.cell p3 (by simp)
  obtain ⟨sa, sc, rfl, hsa⟩ := S12.out.shape
  obtain ⟨na, nc, rfl, hna⟩ := S13.out.shape
  obtain ⟨ca, cc, rfl, hca⟩ := S14.out.shape
  clear p3 S12 S13 S14
  have HSA := hid hsa
  have HNA := hid hna
  have HCA := hid hca
  clear hsa hna hca
  obtain ⟨sids, hsids⟩ : ∃ x, x = getL fs kSid := ⟨_, rfl⟩
  obtain ⟨nts, hnts⟩ : ∃ x, x = getL fs kNt := ⟨_, rfl⟩
  obtain ⟨calls, hcalls⟩ : ∃ x, x = getL fs kCall := ⟨_, rfl⟩
  rw [← hsids] at HSA ⊢
  rw [← hnts] at HNA ⊢
  rw [← hcalls] at HCA ⊢
  have E1 := hid hsids
  have E2 := hid hnts
  have E3 := hid hcalls
  clear hsids hnts hcalls
  go_wp2_with fail
  refine (GET.out w GX.out kTime).mono ?_
  rintro e w3 ⟨tv, rfl, hs3, g3⟩
  obtain ⟨ta, tc, rfl, ht⟩ := hs3.shape
  have G3 := hid (gr_trans GX.out g3)
  have GW := hid g3
  have HT := hid ht
  obtain ⟨ts, hts⟩ : ∃ x, x = getL fs kTime := ⟨_, rfl⟩
  have SEC := hid (show secsL fs = secsT ts by rw [hts]; exact secsL_T fs)
  have HTL := hid (show ∀ t ∈ ts, t.length ≤ 2000 by
    intro t ht
    rw [hts] at ht
    unfold getL at ht
    obtain ⟨f, hf, rfl⟩ := List.mem_map.1 ht
    exact HFV.out f (List.mem_filter.1 hf).1)
  rw [← hts] at HT ⊢
  clear hts ht hs3 g3 q3 GET
  have hsl := secsL_le fs
  obtain ⟨n, hn⟩ : ∃ n, n = secsL fs := ⟨_, rfl⟩
  rw [← hn] at SEC hsl
  have HNN := hid hn
  clear hn
  obtain ⟨tl, htl⟩ : ∃ x, x = ts.length := ⟨_, rfl⟩
  rw [← htl]
  have HTL2 := hid htl
  clear htl
  go_upto_if 38 with fail
  go_cut [15] (fun v15 wx => v15 = .int .u64 (n : Int) ∧ w3.grownBy wx none)
  case first =>
    cases ts with
    | nil =>
      obtain rfl : n = 1800 := SEC.out
      obtain rfl : tl = 0 := HTL2.out
      go_wp2_with fail
      go_meet
      exact ⟨rfl, gr_refl _ _⟩
    | cons t ts =>
      obtain ⟨g, rfl, ct⟩ := HT.out t ts rfl
      obtain rfl : n = secL t := SEC.out
      have HSX := hid (fun W => seconds_x ⟨t.toArray⟩ W (by rw [Lib.size_eq]; have := HTL.out t (List.mem_cons_self ..); simp only; omega))
      have hp : 0 < tl := by rw [HTL2.out]; simp
      have hd := decide_eq_true hp
      have hpi : (0 : Int) < (tl : Int) := by omega
      clear SEC HTL HT
      go_wp2_with fail
      refine (HSX.out w3).mono ?_
      rintro e w4 ⟨rfl, g4⟩
      go_wp2_with fail
      go_meet
      exact ⟨rfl, g4⟩
  case rest =>
    obtain ⟨rfl, gc⟩ := hcut
    have GC := hid (gr_trans G3.out gc)
    have PC := hid (P2.out.grow GC.out)
    have HSA2 := hid (fun s r (e : sids = s :: r) => (show ∃ g, sa = some ⟨g, 0, none⟩ ∧ wc.cell? ⟨g, 0, none⟩ = some (.string ⟨s.toArray⟩) from by
      obtain ⟨g, h1, h2⟩ := HSA.out s r e
      exact ⟨g, h1, gc.cell (GW.out.cell h2 (by simp)) (by simp)⟩))
    have HNA2 := hid (fun s r (e : nts = s :: r) => (show ∃ g, na = some ⟨g, 0, none⟩ ∧ wc.cell? ⟨g, 0, none⟩ = some (.string ⟨s.toArray⟩) from by
      obtain ⟨g, h1, h2⟩ := HNA.out s r e
      exact ⟨g, h1, gc.cell (GW.out.cell h2 (by simp)) (by simp)⟩))
    have HCA2 := hid (fun s r (e : calls = s :: r) => (show ∃ g, ca = some ⟨g, 0, none⟩ ∧ wc.cell? ⟨g, 0, none⟩ = some (.string ⟨s.toArray⟩) from by
      obtain ⟨g, h1, h2⟩ := HCA.out s r e
      exact ⟨g, h1, gc.cell (GW.out.cell h2 (by simp)) (by simp)⟩))
    clear HSA HNA HCA GW gc G3 GX HT SEC HTL HTL2 P2
    obtain ⟨nl, hnl⟩ : ∃ x, x = nts.length := ⟨_, rfl⟩
    obtain ⟨cl, hcl⟩ : ∃ x, x = calls.length := ⟨_, rfl⟩
    rw [← hnl, ← hcl]
    have HNL := hid hnl
    have HCL := hid hcl
    clear hnl hcl
    by_cases hs0 : sids = []
    · subst hs0
      have HR2 := hid (HR.out.trans (subsL_new E1.out.symm))
      rw [← E2.out, ← E3.out, ← HNN.out] at HR2
      have HCV := hid (show ∀ c ∈ calls, c.length ≤ 2000 by
        intro c hc
        rw [E3.out] at hc
        unfold getL at hc
        obtain ⟨f, hf, rfl⟩ := List.mem_map.1 hc
        exact HFV.out f (List.mem_filter.1 hf).1)
      have P5 := PC
      have G5 := hid (gr_trans G2.out GC.out)
      have T5 := hid (HTB.out.grow GC.out)
      have HND5 := hid (gr_keep GC.out HND.out (by simp))
      have HNB5 := hid (Nat.le_trans HNB.out GC.out.size)
      clear HSA2 HR E1 E2 E3 HNN GC PC HTB HND HNB HFV
      by_cases a1 : nl = 1
      rotate_left
      · have R := hid (show r = (E.map (·.2), 412, []) by
          rw [HR2.out]
          rcases nts with _ | ⟨x, _ | ⟨y, nts⟩⟩
          · rfl
          · exact absurd HNL.out a1
          · rfl)
        have a1' : ((nl : Int) != 1) = true := by simp; omega
        have a1'' : ((nl : Int) == 1) = false := by simp; omega
        go_wp2
        ((try simp only [Exit.inBlock, Exit.then]); refine bodyPost_ret (results_tmp2 rfl _ _ _) rfl ?_)
        exact ⟨.slice none 0 0, by rw [R.out]; rfl, by rw [R.out]; exact FsAt.nil _, by rw [R.out]; exact P5.out.all, KT.of_none G5.out⟩
      subst a1
      obtain ⟨t, rfl⟩ : ∃ t, nts = [t] := List.length_eq_one_iff.1 HNL.out.symm
      obtain ⟨gn, rfl, cn⟩ := HNA2.out t [] rfl
      clear HNA2 HNL
      have HEQ := hid (show (⟨t.toArray⟩ : ByteArray).toList = t from by rw [Lib.toList_data])
      by_cases a2 : t = kEvent
      rotate_left
      · have R := hid (show r = (E.map (·.2), 412, []) by
          rw [HR2.out]
          rcases calls with _ | ⟨x, _ | ⟨y, calls⟩⟩
          · rfl
          · exact if_neg a2
          · rfl)
        have a2' : ((⟨t.toArray⟩ : ByteArray).toList == [117, 112, 110, 112, 58, 101, 118, 101, 110, 116]) = false := by
          rw [HEQ.out, beq_eq_false_iff_ne]
          exact a2
        have a2'' : ((⟨t.toArray⟩ : ByteArray).toList != [117, 112, 110, 112, 58, 101, 118, 101, 110, 116]) = true := by
          rw [HEQ.out, bne_iff_ne]
          exact a2
        have a2n : ¬ (⟨t.toArray⟩ : ByteArray).toList = [117, 112, 110, 112, 58, 101, 118, 101, 110, 116] := by
          rw [HEQ.out]
          exact a2
        obtain ⟨X, hX⟩ : ∃ X : ByteArray, X = ⟨t.toArray⟩ := ⟨_, rfl⟩
        rw [← hX] at a2' a2'' a2n cn
        clear hX HEQ
        go_wp2
        ((try simp only [Exit.inBlock, Exit.then]); refine bodyPost_ret (results_tmp2 rfl _ _ _) rfl ?_)
        exact ⟨.slice none 0 0, by rw [R.out]; rfl, by rw [R.out]; exact FsAt.nil _, by rw [R.out]; exact P5.out.all, KT.of_none G5.out⟩
      have a2' : ((⟨t.toArray⟩ : ByteArray).toList == [117, 112, 110, 112, 58, 101, 118, 101, 110, 116]) = true := by
        rw [HEQ.out, beq_iff_eq]
        exact a2
      have a2'' : ((⟨t.toArray⟩ : ByteArray).toList != [117, 112, 110, 112, 58, 101, 118, 101, 110, 116]) = false := by
        rw [HEQ.out, bne_eq_false_iff_eq]
        exact a2
      obtain ⟨X, hX⟩ : ∃ X : ByteArray, X = ⟨t.toArray⟩ := ⟨_, rfl⟩
      rw [← hX] at a2' a2'' cn
      clear hX HEQ
      by_cases a3 : cl = 1
      rotate_left
      · have R := hid (show r = (E.map (·.2), 412, []) by
          rw [HR2.out]
          rcases calls with _ | ⟨x, _ | ⟨y, calls⟩⟩
          · rfl
          · exact absurd HCL.out a3
          · rfl)
        have a3' : ((cl : Int) != 1) = true := by simp; omega
        have a3'' : ((cl : Int) == 1) = false := by simp; omega
        clear a2
        go_wp2
        ((try simp only [Exit.inBlock, Exit.then]); refine bodyPost_ret (results_tmp2 rfl _ _ _) rfl ?_)
        exact ⟨.slice none 0 0, by rw [R.out]; rfl, by rw [R.out]; exact FsAt.nil _, by rw [R.out]; exact P5.out.all, KT.of_none G5.out⟩
      subst a3
      obtain ⟨c, rfl⟩ : ∃ c, calls = [c] := List.length_eq_one_iff.1 HCL.out.symm
      obtain ⟨gc, rfl, cc0⟩ := HCA2.out c [] rfl
      have HR3 := hid (HR2.out.trans (if_pos a2))
      have CB := hid (callback_x ⟨c.toArray⟩ mc wc (hid T5.out.max) (hid T5.out.p10) (by rw [Lib.size_eq]; exact HCV.out c (List.mem_cons_self ..)))
      rw [show (⟨c.toArray⟩ : ByteArray).data.toList = c from rfl] at CB
      clear HCA2 HCL HR2 a2 HCV
      go_wp2_with fail
      refine CB.out.mono ?_
      rintro e w5 ⟨rfl, g5⟩
      have G6 := hid (gr_trans G5.out g5)
      have T6 := hid (T5.out.grow g5)
      have P6 := hid (P5.out.grow g5)
      have HND6 := hid (gr_keep g5 HND5.out (by simp))
      have HNB6 := hid (Nat.le_trans HNB5.out g5.size)
      clear g5 G5 T5 P5 HND5 HNB5 CB cc0 cn a2' a2''
      have P5 := P6
      have G5 := G6
      clear P6 G6
      rcases hcb : cbL c with - | ⟨h, p, tg⟩
      · have R := hid (show r = (E.map (·.2), 412, []) by rw [HR3.out, hcb])
        unfold cbV
        clear HR3 hcb
        go_wp2
        ((try simp only [Exit.inBlock, Exit.then]); refine bodyPost_ret (results_tmp2 rfl _ _ _) rfl ?_)
        exact ⟨.slice none 0 0, by rw [R.out]; rfl, by rw [R.out]; exact FsAt.nil _, by rw [R.out]; exact P5.out.all, KT.of_none G5.out⟩
      unfold cbV
      by_cases a4 : h = who
      rotate_left
      · have R := hid (show r = (E.map (·.2), 412, []) by rw [HR3.out, hcb]; exact if_pos a4)
        have a4' : ((h : Int) != (who : Int)) = true := by simp; omega
        have a4'' : ((h : Int) == (who : Int)) = false := by simp; omega
        clear HR3 hcb a4
        go_wp2
        ((try simp only [Exit.inBlock, Exit.then]); refine bodyPost_ret (results_tmp2 rfl _ _ _) rfl ?_)
        exact ⟨.slice none 0 0, by rw [R.out]; rfl, by rw [R.out]; exact FsAt.nil _, by rw [R.out]; exact P5.out.all, KT.of_none G5.out⟩
      have HR4 := hid (show r = if most ≤ (E.map (·.2)).length ∨ findL (E.map (·.2)) (sidL a b) < (E.map (·.2)).length then (E.map (·.2), 503, []) else (E.map (·.2) ++ [⟨sidL a b, h, p, tg, 0, laterL now n, false, now, []⟩], 200, grantL (sidL a b) n) by rw [HR3.out, hcb]; exact if_neg (fun hne => hne a4))
      have a4' : ((h : Int) != (who : Int)) = false := by simp; omega
      have a4'' : ((h : Int) == (who : Int)) = true := by simp; omega
      have hl : (E.map (·.2)).length = E.length := List.length_map ..
      clear HR3 hcb a4
      obtain ⟨lv, h1, h2⟩ := P5.out.head
      obtain ⟨a1, cap, rfl, hcap, -⟩ := PAt.ptr (B := 0) (most := 0) (F := fun _ => True) h2
      have H1 := hid h1
      have H2 := hid h2
      have b1 := (cell_of_block h1 0).trans (show _ = some (Value.slice a1 E.length cap) from rfl)
      have b8 := (cell_of_block h1 1).trans (show _ = some (Value.int .i64 (most : Int)) from rfl)
      clear h1 h2 hcap
      by_cases a5 : most ≤ E.length
      · have R := hid (show r = (E.map (·.2), 503, []) from HR4.out.trans (if_pos (.inl (by rw [hl]; exact a5))))
        have a5' := decide_eq_true a5
        have a5'' := decide_eq_true (show (most : Int) ≤ (E.length : Int) by omega)
        clear HR4 a5
        go_wp2_with fail
        go_quiet (fail)
        have P5 := hid (P5.out.grow (gr_drewN nq (gr_refl _ _)))
        have G5 := hid (gr_drewN nq G5.out)
        go_wp2
        ((try simp only [Exit.inBlock, Exit.then]); refine bodyPost_ret (results_tmp2 rfl _ _ _) rfl ?_)
        exact ⟨.slice none 0 0, by rw [R.out]; rfl, by rw [R.out]; exact FsAt.nil _, by rw [R.out]; exact P5.out.all, KT.of_none G5.out⟩
      have HMD := hid (decide_eq_false a5)
      have hmlt : E.length < most := by omega
      have HML := hid hmlt
      have SID := hid (fun W => sid_x a b HB64.out.2.1 HB64.out.2.2 W)
      have FND := hid (fun (W : World) (g : w5.grownBy W none) => find_x N F B E most (sidL a b) W (P5.out.grow g))
      obtain ⟨pI, hpI⟩ : ∃ x, x = plI (E.map (·.2)) (sidL a b) := ⟨_, rfl⟩
      rw [← hpI] at FND
      obtain ⟨q, hq⟩ : ∃ q, q = decide (0 ≤ pI) := ⟨_, rfl⟩
      have HQ := hid hq.symm
      have HPI := hid hpI
      have pd0 := (cell_of_block HND6.out 0).trans (show _ = some (Value.int .u64 (a : Int)) from rfl)
      have pd1 := (cell_of_block HND6.out 1).trans (show _ = some (Value.int .u64 (b : Int)) from rfl)
      have a5' := HMD.out
      have a5'' := decide_eq_false (show ¬ (most : Int) ≤ (E.length : Int) by omega)
      clear hq hpI hmlt
      go_wp2_with fail
      obtain ⟨w0, hw0⟩ : ∃ w0, w0 = w5 := ⟨_, rfl⟩
      rw [← hw0] at b1 b8 pd0 pd1 P5 G5 T6 H1 H2 HND6 HNB6 FND ⊢
      clear hw0
      refine wp_region_spec5 (by kernel_rfl) (by kernel_rfl) (n := 18) (by kernel_rfl) [some 127, some 128, some 129, some 130, some 131, some 132, some 133, some 134, some 135, some 136, some 137, some 138, some 139, some 140, some 141, some 142, some 143, some 126] (by kernel_rfl) _ (fun u => (by simp only [fill, List.zipIdx_cons, List.zipIdx_nil, List.foldl_cons, List.foldl_nil, Act.put, List.setIfInBounds_toArray, List.set_cons_zero, List.set_cons_succ, Nat.zero_add, Nat.reduceAdd]; exact rfl)) (by kernel_rfl) (by kernel_rfl) (by kernel_rfl)
        (fun ri v w => match ri with | 0 => v = .pointer (some ⟨B, 0, none⟩) | 1 => v = .pointer (some ⟨B, 0, none⟩) | 2 => v = .pointer (some ⟨B, 0, none⟩) | 3 => v = .slice a1 E.length cap | 4 => v = .int .i64 (E.length : Int) | 5 => v = .pointer (some ⟨B, 0, none⟩) | 6 => v = .pointer (some ⟨B, 0, none⟩) | 7 => v = .pointer (some ⟨B, 1, none⟩) | 8 => v = .int .i64 (most : Int) | 9 => v = .bool false | 10 => v = .bool false | 11 => v = .pointer (some ⟨B, 0, none⟩) | 12 => v = .agg #[.int .u64 (a : Int), .int .u64 (b : Int)] | 13 => v = .string ⟨(sidL a b).toArray⟩ | 14 => v = .int .i64 pI | 15 => v = .bool q | 16 => v = .bool q | 17 => v = .bool q | _ => True)
        (all_succ (all_succ (all_succ (all_succ (all_succ (all_succ (all_succ (all_succ (all_succ (all_succ (all_succ (all_succ (all_succ (all_succ (all_succ (all_succ (all_succ (all_succ (all_zero _) ?rm0) ?rm1) ?rm2) ?rm3) ?rm4) ?rm5) ?rm6) ?rm7) ?rm8) ?rm9) ?rm10) ?rm11) ?rm12) ?rm13) ?rm14) ?rm15) ?rm16) ?rm17)
        [[], [0], [1], [2], [3], [], [5], [6], [7], [4, 8], [9], [10], [10], [12, 10], [11, 13, 10], [14, 10], [10, 15], [16]] (by kernel_rfl)
        ⟨?ro0, ?ro1, ?ro2, ?ro3, ?ro4, ?ro5, ?ro6, ?ro7, ?ro8, ?ro9, ?ro10, ?ro11, ?ro12, ?ro13, ?ro14, ?ro15, ?ro16, ?ro17, trivial⟩ ?rdone
      case rm0 => intro v w w' h g; exact h
      case rm1 => intro v w w' h g; exact h
      case rm2 => intro v w w' h g; exact h
      case rm3 => intro v w w' h g; exact h
      case rm4 => intro v w w' h g; exact h
      case rm5 => intro v w w' h g; exact h
      case rm6 => intro v w w' h g; exact h
      case rm7 => intro v w w' h g; exact h
      case rm8 => intro v w w' h g; exact h
      case rm9 => intro v w w' h g; exact h
      case rm10 => intro v w w' h g; exact h
      case rm11 => intro v w w' h g; exact h
      case rm12 => intro v w w' h g; exact h
      case rm13 => intro v w w' h g; exact h
      case rm14 => intro v w w' h g; exact h
      case rm15 => intro v w w' h g; exact h
      case rm16 => intro v w w' h g; exact h
      case rm17 => intro v w w' h g; exact h
      case ro0 =>
        intro u w g hd K hK
        clear hd
        simp only [Act.put, List.setIfInBounds_toArray, List.set_cons_zero, List.set_cons_succ] at hK
        go_simp
        exact hK _ _ rfl (gr_refl _ _)
      case ro1 =>
        intro u w g hd K hK
        have h0 : (u 0) = .pointer (some ⟨B, 0, none⟩) := hd 0 (by simp)
        clear hd
        simp only [Act.put, List.setIfInBounds_toArray, List.set_cons_zero, List.set_cons_succ] at hK
        simp only [h0] at hK ⊢
        go_simp
        exact hK _ _ rfl (gr_refl _ _)
      case ro2 =>
        intro u w g hd K hK
        have h1 : (u 1) = .pointer (some ⟨B, 0, none⟩) := hd 1 (by simp)
        clear hd
        simp only [Act.put, List.setIfInBounds_toArray, List.set_cons_zero, List.set_cons_succ] at hK
        simp only [h1] at hK ⊢
        go_simp
        exact hK _ _ rfl (gr_refl _ _)
      case ro3 =>
        intro u w g hd K hK
        have h2 : (u 2) = .pointer (some ⟨B, 0, none⟩) := hd 2 (by simp)
        clear hd
        simp only [Act.put, List.setIfInBounds_toArray, List.set_cons_zero, List.set_cons_succ] at hK
        have c := g.cell b1 (by simp)
        simp only [h2] at hK ⊢
        go_simp
        exact hK _ _ rfl (gr_refl _ _)
      case ro4 =>
        intro u w g hd K hK
        have h3 : (u 3) = .slice a1 E.length cap := hd 3 (by simp)
        clear hd
        simp only [Act.put, List.setIfInBounds_toArray, List.set_cons_zero, List.set_cons_succ] at hK
        simp only [h3] at hK ⊢
        go_simp
        exact hK _ _ rfl (gr_refl _ _)
      case ro5 =>
        intro u w g hd K hK
        clear hd
        simp only [Act.put, List.setIfInBounds_toArray, List.set_cons_zero, List.set_cons_succ] at hK
        go_simp
        exact hK _ _ rfl (gr_refl _ _)
      case ro6 =>
        intro u w g hd K hK
        have h5 : (u 5) = .pointer (some ⟨B, 0, none⟩) := hd 5 (by simp)
        clear hd
        simp only [Act.put, List.setIfInBounds_toArray, List.set_cons_zero, List.set_cons_succ] at hK
        simp only [h5] at hK ⊢
        go_simp
        exact hK _ _ rfl (gr_refl _ _)
      case ro7 =>
        intro u w g hd K hK
        have h6 : (u 6) = .pointer (some ⟨B, 0, none⟩) := hd 6 (by simp)
        clear hd
        simp only [Act.put, List.setIfInBounds_toArray, List.set_cons_zero, List.set_cons_succ] at hK
        simp only [h6] at hK ⊢
        go_simp
        exact hK _ _ rfl (gr_refl _ _)
      case ro8 =>
        intro u w g hd K hK
        have h7 : (u 7) = .pointer (some ⟨B, 1, none⟩) := hd 7 (by simp)
        clear hd
        simp only [Act.put, List.setIfInBounds_toArray, List.set_cons_zero, List.set_cons_succ] at hK
        have c := g.cell b8 (by simp)
        simp only [h7] at hK ⊢
        go_simp
        exact hK _ _ rfl (gr_refl _ _)
      case ro9 =>
        intro u w g hd K hK
        have h4 : (u 4) = .int .i64 (E.length : Int) := hd 4 (by simp)
        have h8 : (u 8) = .int .i64 (most : Int) := hd 8 (by simp)
        clear hd
        simp only [Act.put, List.setIfInBounds_toArray, List.set_cons_zero, List.set_cons_succ] at hK
        simp only [h4, h8] at hK ⊢
        go_simp
        first | exact hK _ _ rfl (gr_refl _ _) | (rw [HMD.out]; exact hK _ _ rfl (gr_refl _ _))
      case ro10 =>
        intro u w g hd K hK
        have h9 : (u 9) = .bool false := hd 9 (by simp)
        clear hd
        simp only [Act.put, List.setIfInBounds_toArray, List.set_cons_zero, List.set_cons_succ] at hK
        simp only [h9] at hK ⊢
        go_simp
        exact hK _ _ rfl (gr_refl _ _)
      case ro11 =>
        intro u w g hd K hK
        have h10 : (u 10) = .bool false := hd 10 (by simp)
        clear hd
        simp only [Act.put, List.setIfInBounds_toArray, List.set_cons_zero, List.set_cons_succ] at hK
        simp only [h10] at hK ⊢
        go_simp
        exact hK _ _ rfl (gr_refl _ _)
      case ro12 =>
        intro u w g hd K hK
        have h10 : (u 10) = .bool false := hd 10 (by simp)
        clear hd
        simp only [Act.put, List.setIfInBounds_toArray, List.set_cons_zero, List.set_cons_succ] at hK
        have c := g.cell pd0 (by simp)
        have c' := g.cell pd1 (by simp)
        simp only [h10] at hK ⊢
        go_simp
        exact hK _ _ rfl (gr_refl _ _)
      case ro13 =>
        intro u w g hd K hK
        have h12 : (u 12) = .agg #[.int .u64 (a : Int), .int .u64 (b : Int)] := hd 12 (by simp)
        have h10 : (u 10) = .bool false := hd 10 (by simp)
        clear hd
        simp only [Act.put, List.setIfInBounds_toArray, List.set_cons_zero, List.set_cons_succ] at hK
        simp only [h12, h10] at hK ⊢
        go_simp
        refine (SID.out w).mono ?_
        rintro e w' ⟨rfl, g'⟩
        exact hK _ _ rfl g'
      case ro14 =>
        intro u w g hd K hK
        have h11 : (u 11) = .pointer (some ⟨B, 0, none⟩) := hd 11 (by simp)
        have h13 : (u 13) = .string ⟨(sidL a b).toArray⟩ := hd 13 (by simp)
        have h10 : (u 10) = .bool false := hd 10 (by simp)
        clear hd
        simp only [Act.put, List.setIfInBounds_toArray, List.set_cons_zero, List.set_cons_succ] at hK
        simp only [h11, h13, h10] at hK ⊢
        go_simp
        refine (FND.out w g).mono ?_
        rintro e w' ⟨rfl, g'⟩
        exact hK _ _ rfl g'
      case ro15 =>
        intro u w g hd K hK
        have h14 : (u 14) = .int .i64 pI := hd 14 (by simp)
        have h10 : (u 10) = .bool false := hd 10 (by simp)
        clear hd
        simp only [Act.put, List.setIfInBounds_toArray, List.set_cons_zero, List.set_cons_succ] at hK
        simp only [h14, h10] at hK ⊢
        go_simp
        first | exact hK _ _ rfl (gr_refl _ _) | (rw [HQ.out]; exact hK _ _ rfl (gr_refl _ _))
      case ro16 =>
        intro u w g hd K hK
        have h10 : (u 10) = .bool false := hd 10 (by simp)
        have h15 : (u 15) = .bool q := hd 15 (by simp)
        clear hd
        simp only [Act.put, List.setIfInBounds_toArray, List.set_cons_zero, List.set_cons_succ] at hK
        simp only [h10, h15] at hK ⊢
        go_simp
        exact hK _ _ rfl (gr_refl _ _)
      case ro17 =>
        intro u w g hd K hK
        have h16 : (u 16) = .bool q := hd 16 (by simp)
        clear hd
        simp only [Act.put, List.setIfInBounds_toArray, List.set_cons_zero, List.set_cons_succ] at hK
        simp only [h16] at hK ⊢
        go_simp
        exact hK _ _ rfl (gr_refl _ _)
      intro u w hS g
      have s0 : (u 0) = .pointer (some ⟨B, 0, none⟩) := hS 0 (by decide)
      have s1 : (u 1) = .pointer (some ⟨B, 0, none⟩) := hS 1 (by decide)
      have s2 : (u 2) = .pointer (some ⟨B, 0, none⟩) := hS 2 (by decide)
      have s3 : (u 3) = .slice a1 E.length cap := hS 3 (by decide)
      have s4 : (u 4) = .int .i64 (E.length : Int) := hS 4 (by decide)
      have s5 : (u 5) = .pointer (some ⟨B, 0, none⟩) := hS 5 (by decide)
      have s6 : (u 6) = .pointer (some ⟨B, 0, none⟩) := hS 6 (by decide)
      have s7 : (u 7) = .pointer (some ⟨B, 1, none⟩) := hS 7 (by decide)
      have s8 : (u 8) = .int .i64 (most : Int) := hS 8 (by decide)
      have s9 : (u 9) = .bool false := hS 9 (by decide)
      have s10 : (u 10) = .bool false := hS 10 (by decide)
      have s11 : (u 11) = .pointer (some ⟨B, 0, none⟩) := hS 11 (by decide)
      have s12 : (u 12) = .agg #[.int .u64 (a : Int), .int .u64 (b : Int)] := hS 12 (by decide)
      have s13 : (u 13) = .string ⟨(sidL a b).toArray⟩ := hS 13 (by decide)
      have s14 : (u 14) = .int .i64 pI := hS 14 (by decide)
      have s15 : (u 15) = .bool q := hS 15 (by decide)
      have s16 : (u 16) = .bool q := hS 16 (by decide)
      have s17 : (u 17) = .bool q := hS 17 (by decide)
      clear hS
      have T17 := hid s17
      have GY := hid g
      clear s0 s1 s2 s3 s4 s5 s6 s7 s8 s9 s10 s11 s12 s13 s14 s15 s16 s17 g
      generalize u 0 = y0 at *
      generalize u 1 = y1 at *
      generalize u 2 = y2 at *
      generalize u 3 = y3 at *
      generalize u 4 = y4 at *
      generalize u 5 = y5 at *
      generalize u 6 = y6 at *
      generalize u 7 = y7 at *
      generalize u 8 = y8 at *
      generalize u 9 = y9 at *
      generalize u 10 = y10 at *
      generalize u 11 = y11 at *
      generalize u 12 = y12 at *
      generalize u 13 = y13 at *
      generalize u 14 = y14 at *
      generalize u 15 = y15 at *
      generalize u 16 = y16 at *
      generalize u 17 = y17 at *
      obtain rfl := T17.out
      have P5 := hid (P5.out.grow GY.out)
      have G5 := hid (gr_trans G5.out GY.out)
      cases q
      case true =>
        have R := hid (show r = (E.map (·.2), 503, []) from HR4.out.trans (if_pos (.inr (by
          have h1 := HPI.out
          have h2 := of_decide_eq_true HQ.out
          unfold plI at h1
          by_cases h3 : findL (E.map (·.2)) (sidL a b) < (E.map (·.2)).length
          · exact h3
          · rw [if_neg h3] at h1; omega))))
        clear HR4 b1 b8 pd0 pd1
        go_wp2
        ((try simp only [Exit.inBlock, Exit.then]); refine bodyPost_ret (results_tmp2 rfl _ _ _) rfl ?_)
        exact ⟨.slice none 0 0, by rw [R.out]; rfl, by rw [R.out]; exact FsAt.nil _, by rw [R.out]; exact P5.out.all, KT.of_none G5.out⟩
      have R := hid (show r = (E.map (·.2) ++ [⟨sidL a b, h, p, tg, 0, laterL now n, false, now, []⟩], 200, grantL (sidL a b) n) from HR4.out.trans (if_neg (by
        rintro (h1 | h1)
        · have := HML.out; omega
        · have h2 := HPI.out
          unfold plI at h2
          rw [if_pos h1] at h2
          have h3 := of_decide_eq_false HQ.out
          omega)))
      have HLA := hid (fun W => later_x now n HB64.out.1 (by omega) W)
      obtain ⟨ln, hln⟩ : ∃ ln, ln = laterL now n := ⟨_, rfl⟩
      rw [← hln] at HLA R
      have T6 := hid (T6.out.grow GY.out)
      have HNB7 := hid (Nat.le_trans HNB6.out GY.out.size)
      have H1 := hid (gr_keep GY.out H1.out (by simp))
      have H2 := hid (own_growG H2.out GY.out)
      have b1 := GY.out.cell b1 (by simp)
      have pd0 := GY.out.cell pd0 (by simp)
      have pd1 := GY.out.cell pd1 (by simp)
      clear HR4 b8 HQ HPI GY HNB6 HND6 hln
      go_wp2_with fail
      refine (SID.out w).mono ?_
      rintro e w6 ⟨rfl, g6⟩
      have G6 := hid (gr_trans G5.out g6)
      have P6 := hid (P5.out.grow g6)
      have T7 := hid (T6.out.grow g6)
      have H1 := hid (gr_keep g6 H1.out (by simp))
      have H2 := hid (own_growG H2.out g6)
      have b1 := g6.cell b1 (by simp)
      have HNB8 := hid (Nat.le_trans HNB7.out g6.size)
      clear g6 G5 P5 T6 HNB7 pd0 pd1 SID
      go_wp2_with fail
      refine (HLA.out _).mono ?_
      rintro e w7 ⟨rfl, rfl⟩
      clear HLA
      obtain ⟨x, hxd⟩ : ∃ x : Sb, x = ⟨sidL a b, h, p, tg, 0, ln, false, now, []⟩ := ⟨_, rfl⟩
      go_upto_region 22 with fail
      have NX : (w6.alloc (.cells (subC x (.slice none 0 0)) 94)).heap[w6.heap.size]? = some (.cells (subC x (.slice none 0 0)) 94 (0, 0)) := heap_alloc_new w6 _
      have gX := World.grownBy_alloc w6 (.cells (subC x (.slice none 0 0)) 94) none
      obtain ⟨wX, hwX⟩ : ∃ wX, wX = w6.alloc (.cells (subC x (.slice none 0 0)) 94) := ⟨_, rfl⟩
      rw [← hwX] at NX gX
      have hwX' := hwX
      rw [hxd] at hwX'
      unfold subC str at hwX'
      simp only at hwX'
      obtain ⟨dn, hdn⟩ : ∃ dn, dn = w6.heap.size := ⟨_, rfl⟩
      rw [← hdn] at NX
      rw [show ((0 : Nat) : Int) = 0 from rfl] at hwX'
      rw [← hwX', ← hdn]
      have hde : ∀ e ∈ E, e.1 ≠ dn := by
        intro e he e2
        obtain ⟨-, _, hb, -⟩ := P6.out.each e he
        have := lt_of_block hb
        omega
      have PSX : PSub wX N F dn x := ⟨by rw [hdn]; exact HNB8.out, _, NX, by rw [show x.last = [] by rw [hxd]]; exact ArgsK.nil _ _ _⟩
      have R2 := hid (show r = ((E ++ [(dn, x)]).map (·.2), 200, grantL x.sid n) by rw [R.out, List.map_append, hxd]; rfl)
      have gY := World.grownBy_alloc wX (.cells #[.pointer (some ⟨dn, 0, none⟩)] 95) none
      have gXY := gr_trans gX gY
      have nY := heap_alloc_new wX (.cells #[.pointer (some ⟨dn, 0, none⟩)] 95)
      have H1Y := hid (gr_keep gXY H1.out (by simp))
      have H2Y := hid (own_growG H2.out gXY)
      have PY := hid (P6.out.grow gXY)
      have PSY := hid (PSX.row gY (by simp) (by simp))
      have b1X := gX.cell b1 (by simp)
      have SRC : SrcAt (wX.alloc (.cells #[.pointer (some ⟨dn, 0, none⟩)] 95)) (some ⟨wX.heap.size, 0, none⟩) [.pointer (some ⟨dn, 0, none⟩)] := .inr ⟨_, rfl, fun j u hu => by
        match j, hu with
        | 0, hu => obtain rfl := Option.some.inj hu; exact (cell_of_block nY 0).trans rfl⟩
      have HSRC := hid SRC
      obtain ⟨i0, hi0, hz0, hz1, hz2⟩ := info_parts infoPt
      have HBASE := hid (Nat.le_trans HNB8.out gXY.size)
      have K6 := hid (KT.of_none (T := TP) (N := N) (gr_trans G6.out gXY))
      have T8 := hid (T7.out.grow gXY)
      have HDE := hid hde
      clear R SRC nY gY gXY PSX NX gX hwX hwX' hdn hxd hde b1 H1 H2 P6 T7 G6 HNB8
      go_upto_region 23 with (refine wpl_appG rfl (.tmp 159) (.tmp 161) 87 rfl (base := N) (e := 95) (size := 1) (bytes := 8) Tryz.underlying87 hi0 hz0 hz1 hz2 rfl (by decide) (v := .slice a1 E.length cap) (by rfl) H2Y.out (ad := some ⟨wX.heap.size, 0, none⟩) (m := 1) (c := 1) (news := [.pointer (some ⟨dn, 0, none⟩)]) (by rfl) rfl HSRC.out (by simp [Value.oneCell']) (by unfold maxLen; omega) (by omega) HBASE.out ?_; intro v' w8 q2 q3 q4; have PUSH := hid (PY.out.push H1Y.out H2Y.out q3 q2 PSY.out HDE.out HML.out); have hB8 := gr_keep q3 H1Y.out (own_ne_fs H2Y.out H1Y.out (by decide)); have b8 := (cell_of_block hB8 0).trans (show _ = some (Value.slice a1 E.length cap) from rfl); have f8 := free_of_block hB8 0; obtain ⟨a8, c8, rfl⟩ := own_shapeG q2; clear q2 q3 q4 hB8)
      have PS9 := PUSH.out.1.each (dn, x) (by simp)
      obtain ⟨w9, hw9⟩ : ∃ w9, w9 = w8.setCell ⟨B, 0, none⟩ (.slice a8 (E.length + 1) c8) := ⟨_, rfl⟩
      rw [← hw9] at PUSH PS9 ⊢
      have HGR := hid (granted_x N F dn x n (by omega) w9 (hid (T8.out.kt PUSH.out.2).p10) PS9)
      clear PS9 b8 f8 hw9 b1X HSRC hi0 hz0 hz1 hz2 HBASE T8
      go_wp2_with fail
      refine HGR.out.mono ?_
      rintro e w10 ⟨v10, rfl, hf10, g10⟩
      have FIN := hid (And.intro hf10 (And.intro (PUSH.out.1.grow g10).all (K6.out.trans (PUSH.out.2.trans (KT.of_none g10)))))
      clear hf10 g10 HGR
      go_wp2
      ((try simp only [Exit.inBlock, Exit.then]); refine bodyPost_ret (results_tmp2 rfl _ _ _) rfl ?_)
      exact ⟨v10, by rw [R2.out]; rfl, by rw [R2.out]; exact FIN.out.1, by rw [R2.out]; exact FIN.out.2.1, FIN.out.2.2⟩
    · obtain ⟨s, more, rfl⟩ := List.exists_cons_of_ne_nil hs0
      obtain ⟨g, rfl, cs⟩ := HSA2.out s more rfl
      have HR2 := hid (HR.out.trans (subsL_sid E1.out.symm))
      rw [← E2.out, ← E3.out, ← HNN.out] at HR2
      obtain ⟨k, hk⟩ : ∃ x, x = (s :: more).length := ⟨_, rfl⟩
      rw [← hk]
      have hkp : 0 < k := by rw [hk]; simp
      have hkd := decide_eq_true hkp
      have HK := hid (show k = more.length + 1 from hk)
      clear hs0 HSA2 HNA2 HCA2 HR E1 E2 E3 hk HNN
      have HOWN := hid (own_x N F B E most s who wc PC.out)
      go_wp2_with fail
      refine HOWN.out.mono ?_
      rintro e w5 ⟨rfl, g5⟩
      have G5 := hid (gr_trans G2.out (gr_trans GC.out g5))
      have T5 := hid ((HTB.out.grow GC.out).grow g5)
      have P5 := hid (PC.out.grow g5)
      clear g5 PC GC HOWN cs HTB HND HFV HNB
      by_cases a1 : (1 : Int) < (k : Int)
      · have R := hid (show r = (E.map (·.2), 400, []) from HR2.out.trans (if_pos (.inl (by intro e; have := HK.out; rw [e] at this; simp at this; omega))))
        have a1' := decide_eq_true a1
        go_wp2
        ((try simp only [Exit.inBlock, Exit.then]); refine bodyPost_ret (results_tmp2 rfl _ _ _) rfl ?_)
        exact ⟨.slice none 0 0, by rw [R.out]; rfl, by rw [R.out]; exact FsAt.nil _, by rw [R.out]; exact P5.out.all, KT.of_none G5.out⟩
      have a1' := decide_eq_false a1
      have hm0 : more = [] := List.eq_nil_of_length_eq_zero (by have := HK.out; omega)
      by_cases a2 : 0 < nl
      · have R := hid (show r = (E.map (·.2), 400, []) from HR2.out.trans (if_pos (.inr (.inl (by intro e; have := HNL.out; rw [e] at this; simp at this; omega)))))
        have a2' := decide_eq_true a2
        go_wp2
        ((try simp only [Exit.inBlock, Exit.then]); refine bodyPost_ret (results_tmp2 rfl _ _ _) rfl ?_)
        exact ⟨.slice none 0 0, by rw [R.out]; rfl, by rw [R.out]; exact FsAt.nil _, by rw [R.out]; exact P5.out.all, KT.of_none G5.out⟩
      have a2' := decide_eq_false a2
      have hn0 : nts = [] := List.eq_nil_of_length_eq_zero (by have := HNL.out; omega)
      by_cases a3 : 0 < cl
      · have R := hid (show r = (E.map (·.2), 400, []) from HR2.out.trans (if_pos (.inr (.inr (by intro e; have := HCL.out; rw [e] at this; simp at this; omega)))))
        have a3' := decide_eq_true a3
        go_wp2
        ((try simp only [Exit.inBlock, Exit.then]); refine bodyPost_ret (results_tmp2 rfl _ _ _) rfl ?_)
        exact ⟨.slice none 0 0, by rw [R.out]; rfl, by rw [R.out]; exact FsAt.nil _, by rw [R.out]; exact P5.out.all, KT.of_none G5.out⟩
      have a3' := decide_eq_false a3
      have hc0 : calls = [] := List.eq_nil_of_length_eq_zero (by have := HCL.out; omega)
      have HR3 := hid (HR2.out.trans (if_neg (by rw [hm0, hn0, hc0]; simp)))
      have hl : (E.map (·.2)).length = E.length := List.length_map ..
      clear HR2 hm0 hn0 hc0
      cases hx : (E.map (·.2))[findL (E.map (·.2)) s]? with
      | none =>
        have ho : ownB (E.map (·.2)) s who = false := by unfold ownB; rw [hx]
        have R := hid (show r = (E.map (·.2), 412, []) by rw [HR3.out, hx])
        rw [ho]
        clear HR3 hx ho
        go_wp2
        ((try simp only [Exit.inBlock, Exit.then]); refine bodyPost_ret (results_tmp2 rfl _ _ _) rfl ?_)
        exact ⟨.slice none 0 0, by rw [R.out]; rfl, by rw [R.out]; exact FsAt.nil _, by rw [R.out]; exact P5.out.all, KT.of_none G5.out⟩
      | some x =>
        have ho : ownB (E.map (·.2)) s who = decide (x.host = who) := by unfold ownB; rw [hx]
        by_cases hw : x.host = who
        rotate_left
        · have R := hid (show r = (E.map (·.2), 412, []) by rw [HR3.out, hx]; exact if_neg hw)
          rw [ho, decide_eq_false hw]
          clear HR3 hx ho hw
          go_wp2
          ((try simp only [Exit.inBlock, Exit.then]); refine bodyPost_ret (results_tmp2 rfl _ _ _) rfl ?_)
          exact ⟨.slice none 0 0, by rw [R.out]; rfl, by rw [R.out]; exact FsAt.nil _, by rw [R.out]; exact P5.out.all, KT.of_none G5.out⟩
        · rw [ho, decide_eq_true hw, plI_some hx]
          obtain ⟨i, hi⟩ : ∃ i, i = findL (E.map (·.2)) s := ⟨_, rfl⟩
          have hil : i < E.length := by rw [hi, ← hl]; exact (List.getElem?_eq_some_iff.1 hx).1
          obtain ⟨ln, hln⟩ : ∃ ln, ln = laterL now n := ⟨_, rfl⟩
          rw [← hi] at hx
          obtain ⟨d, he⟩ := map_at hx
          have R := hid (show r = ((E.set i (d, { x with ends := ln })).map (·.2), 200, grantL x.sid n) by
            rw [HR3.out, ← hi, hx, map_set2, hln]; exact if_pos hw)
          rw [← hi]
          have HLA := hid (fun W => later_x now n HB64.out.1 (by omega) W)
          rw [← hln] at HLA
          have HE := hid he
          obtain ⟨lv, h1, h2⟩ := P5.out.head
          obtain ⟨a', cap, rfl, hcap, hc⟩ := PAt.ptr (B := 0) (most := 0) (F := fun _ => True) h2
          obtain ⟨g2, rfl, b2⟩ := hc i _ he
          have H1 := hid h1
          have b1 := (cell_of_block h1 0).trans (show _ = some (Value.slice (some ⟨g2, 0, none⟩) E.length cap) from rfl)
          have PS := hid (P5.out.each _ (List.mem_of_getElem? he))
          simp only at b2 PS
          obtain ⟨hNd, lvx, hdx, hax⟩ := PS.out
          have HD0 := hid hdx
          have HA0 := hid hax
          have HNd := hid hNd
          have hi0 : (0 : Int) ≤ (i : Int) := by omega
          have hi1 : (i : Int) < (E.length : Int) := by omega
          have HG2 := hid (own_blk h2 g2 rfl)
          clear h1 h2 hc he hcap hx hi HR3 hw ho hln hdx hax hNd
          go_wp2_with fail
          obtain ⟨w0, hw0⟩ : ∃ w0, w0 = w5 := ⟨_, rfl⟩
          rw [← hw0] at b1 b2 HD0 HA0 P5 G5 T5 H1 HG2 ⊢
          clear hw0
          refine wp_region_spec3 12 13 none (by kernel_rfl) (by kernel_rfl) (by kernel_rfl) (by kernel_rfl) (by kernel_rfl) (by kernel_rfl) [some 72, some 73, some 74, some 75, some 76, some 77, some 78, some 79, some 80, some 81, some 82, some 83] (by kernel_rfl) _ (fun u => (by simp only [fill, List.zipIdx_cons, List.zipIdx_nil, List.foldl_cons, List.foldl_nil, Act.put, List.setIfInBounds_toArray, List.set_cons_zero, List.set_cons_succ, Nat.zero_add, Nat.reduceAdd]; exact rfl)) (by kernel_rfl)
            (all_succ (all_succ (all_succ (all_succ (all_succ (all_succ (all_succ (all_succ (all_succ (all_succ (all_succ (all_succ (all_zero _) (fun u v => by kernel_rfl)) (fun u v => by kernel_rfl)) (fun u v => by kernel_rfl)) (fun u v => by kernel_rfl)) (fun u v => by kernel_rfl)) (fun u v => by kernel_rfl)) (fun u v => by kernel_rfl)) (fun u v => by kernel_rfl)) (fun u v => by kernel_rfl)) (fun u v => by kernel_rfl)) (fun u v => by kernel_rfl)) (fun u v => by kernel_rfl))
            (fun ri v w => match ri with | 0 => v = .pointer (some ⟨B, 0, none⟩) | 1 => v = .pointer (some ⟨B, 0, none⟩) | 2 => v = .pointer (some ⟨B, 0, none⟩) | 3 => v = .slice (some ⟨g2, 0, none⟩) E.length cap | 4 => v = .int .i64 (i : Int) | 5 => v = .pointer (some ⟨g2, i, none⟩) | 6 => v = .pointer (some ⟨d, 0, none⟩) | 7 => v = .int .u64 (now : Int) | 8 => v = .int .u64 (n : Int) | 9 => v = .int .u64 (ln : Int) | 10 => v = .pointer (some ⟨d, 0, none⟩) | 11 => v = .pointer (some ⟨d, 5, none⟩) | _ => True)
            (all_succ (all_succ (all_succ (all_succ (all_succ (all_succ (all_succ (all_succ (all_succ (all_succ (all_succ (all_succ (all_zero _) ?qm0) ?qm1) ?qm2) ?qm3) ?qm4) ?qm5) ?qm6) ?qm7) ?qm8) ?qm9) ?qm10) ?qm11)
            [[], [0], [1], [2], [], [3, 4], [5], [], [], [7, 8], [6], [10]] (by kernel_rfl)
            ⟨?qo0, ?qo1, ?qo2, ?qo3, ?qo4, ?qo5, ?qo6, ?qo7, ?qo8, ?qo9, ?qo10, ?qo11, trivial⟩ ?qdone
          case qm0 => intro v w w' h g; exact h
          case qm1 => intro v w w' h g; exact h
          case qm2 => intro v w w' h g; exact h
          case qm3 => intro v w w' h g; exact h
          case qm4 => intro v w w' h g; exact h
          case qm5 => intro v w w' h g; exact h
          case qm6 => intro v w w' h g; exact h
          case qm7 => intro v w w' h g; exact h
          case qm8 => intro v w w' h g; exact h
          case qm9 => intro v w w' h g; exact h
          case qm10 => intro v w w' h g; exact h
          case qm11 => intro v w w' h g; exact h
          case qo0 =>
            intro u w g hd K hK
            replace g : w0.grownBy w (none) := g
            clear hd
            simp only [Act.put, List.setIfInBounds_toArray, List.set_cons_zero, List.set_cons_succ] at hK
            go_simp
            exact hK _ _ rfl (gr_refl _ _)
          case qo1 =>
            intro u w g hd K hK
            replace g : w0.grownBy w (none) := g
            have h0 : (u 0) = .pointer (some ⟨B, 0, none⟩) := hd 0 (by simp)
            clear hd
            simp only [Act.put, List.setIfInBounds_toArray, List.set_cons_zero, List.set_cons_succ] at hK
            simp only [h0] at hK ⊢
            go_simp
            exact hK _ _ rfl (gr_refl _ _)
          case qo2 =>
            intro u w g hd K hK
            replace g : w0.grownBy w (none) := g
            have h1 : (u 1) = .pointer (some ⟨B, 0, none⟩) := hd 1 (by simp)
            clear hd
            simp only [Act.put, List.setIfInBounds_toArray, List.set_cons_zero, List.set_cons_succ] at hK
            simp only [h1] at hK ⊢
            go_simp
            exact hK _ _ rfl (gr_refl _ _)
          case qo3 =>
            intro u w g hd K hK
            replace g : w0.grownBy w (none) := g
            have h2 : (u 2) = .pointer (some ⟨B, 0, none⟩) := hd 2 (by simp)
            clear hd
            simp only [Act.put, List.setIfInBounds_toArray, List.set_cons_zero, List.set_cons_succ] at hK
            have c := g.cell b1 (by simp)
            simp only [h2] at hK ⊢
            go_simp
            exact hK _ _ rfl (gr_refl _ _)
          case qo4 =>
            intro u w g hd K hK
            replace g : w0.grownBy w (none) := g
            clear hd
            simp only [Act.put, List.setIfInBounds_toArray, List.set_cons_zero, List.set_cons_succ] at hK
            go_simp
            exact hK _ _ rfl (gr_refl _ _)
          case qo5 =>
            intro u w g hd K hK
            replace g : w0.grownBy w (none) := g
            have h3 : (u 3) = .slice (some ⟨g2, 0, none⟩) E.length cap := hd 3 (by simp)
            have h4 : (u 4) = .int .i64 (i : Int) := hd 4 (by simp)
            clear hd
            simp only [Act.put, List.setIfInBounds_toArray, List.set_cons_zero, List.set_cons_succ] at hK
            simp only [h3, h4] at hK ⊢
            go_simp
            exact hK _ _ rfl (gr_refl _ _)
          case qo6 =>
            intro u w g hd K hK
            replace g : w0.grownBy w (none) := g
            have h5 : (u 5) = .pointer (some ⟨g2, i, none⟩) := hd 5 (by simp)
            clear hd
            simp only [Act.put, List.setIfInBounds_toArray, List.set_cons_zero, List.set_cons_succ] at hK
            have c := g.cell b2 (by simp)
            simp only [h5] at hK ⊢
            go_simp
            exact hK _ _ rfl (gr_refl _ _)
          case qo7 =>
            intro u w g hd K hK
            replace g : w0.grownBy w (none) := g
            clear hd
            simp only [Act.put, List.setIfInBounds_toArray, List.set_cons_zero, List.set_cons_succ] at hK
            go_simp
            exact hK _ _ rfl (gr_refl _ _)
          case qo8 =>
            intro u w g hd K hK
            replace g : w0.grownBy w (none) := g
            clear hd
            simp only [Act.put, List.setIfInBounds_toArray, List.set_cons_zero, List.set_cons_succ] at hK
            go_simp
            exact hK _ _ rfl (gr_refl _ _)
          case qo9 =>
            intro u w g hd K hK
            replace g : w0.grownBy w (none) := g
            have h7 : (u 7) = .int .u64 (now : Int) := hd 7 (by simp)
            have h8 : (u 8) = .int .u64 (n : Int) := hd 8 (by simp)
            clear hd
            simp only [Act.put, List.setIfInBounds_toArray, List.set_cons_zero, List.set_cons_succ] at hK
            simp only [h7, h8] at hK ⊢
            go_simp
            refine (HLA.out w).mono ?_
            rintro e w' ⟨rfl, rfl⟩
            exact hK _ _ rfl (gr_refl _ _)
          case qo10 =>
            intro u w g hd K hK
            replace g : w0.grownBy w (none) := g
            have h6 : (u 6) = .pointer (some ⟨d, 0, none⟩) := hd 6 (by simp)
            clear hd
            simp only [Act.put, List.setIfInBounds_toArray, List.set_cons_zero, List.set_cons_succ] at hK
            simp only [h6] at hK ⊢
            go_simp
            exact hK _ _ rfl (gr_refl _ _)
          case qo11 =>
            intro u w g hd K hK
            replace g : w0.grownBy w (none) := g
            have h10 : (u 10) = .pointer (some ⟨d, 0, none⟩) := hd 10 (by simp)
            clear hd
            simp only [Act.put, List.setIfInBounds_toArray, List.set_cons_zero, List.set_cons_succ] at hK
            simp only [h10] at hK ⊢
            go_simp
            exact hK _ _ rfl (gr_refl _ _)
          intro u w hS g
          have s0 : (u 0) = .pointer (some ⟨B, 0, none⟩) := hS 0 (by decide)
          have s1 : (u 1) = .pointer (some ⟨B, 0, none⟩) := hS 1 (by decide)
          have s2 : (u 2) = .pointer (some ⟨B, 0, none⟩) := hS 2 (by decide)
          have s3 : (u 3) = .slice (some ⟨g2, 0, none⟩) E.length cap := hS 3 (by decide)
          have s4 : (u 4) = .int .i64 (i : Int) := hS 4 (by decide)
          have s5 : (u 5) = .pointer (some ⟨g2, i, none⟩) := hS 5 (by decide)
          have s6 : (u 6) = .pointer (some ⟨d, 0, none⟩) := hS 6 (by decide)
          have s7 : (u 7) = .int .u64 (now : Int) := hS 7 (by decide)
          have s8 : (u 8) = .int .u64 (n : Int) := hS 8 (by decide)
          have s9 : (u 9) = .int .u64 (ln : Int) := hS 9 (by decide)
          have s10 : (u 10) = .pointer (some ⟨d, 0, none⟩) := hS 10 (by decide)
          have s11 : (u 11) = .pointer (some ⟨d, 5, none⟩) := hS 11 (by decide)
          clear hS
          replace g : w0.grownBy w none := g
          change wpList _ _ _ [_] _ _
          have hd5 := (cell_of_block (gr_keep g HD0.out (by simp)) 5).trans (show _ = some (Value.int .u64 (x.ends : Int)) from rfl)
          have fd5 := free_of_block (gr_keep g HD0.out (by simp)) 5
          have GY := hid g
          have T11 := hid s11
          have T9 := hid s9
          clear s0 s1 s2 s3 s4 s5 s6 s7 s8 s9 s10 s11 g
          generalize u 0 = y0 at *
          generalize u 1 = y1 at *
          generalize u 2 = y2 at *
          generalize u 3 = y3 at *
          generalize u 4 = y4 at *
          generalize u 5 = y5 at *
          generalize u 6 = y6 at *
          generalize u 7 = y7 at *
          generalize u 8 = y8 at *
          generalize u 9 = y9 at *
          generalize u 10 = y10 at *
          generalize u 11 = y11 at *
          obtain rfl := T11.out
          obtain rfl := T9.out
          go_upto_region 13 with fail
          obtain ⟨w6, hw6⟩ : ∃ w6, w6 = w.setCell ⟨d, 5, none⟩ (.int .u64 (ln : Int)) := ⟨_, rfl⟩
          have hdw := gr_keep GY.out HD0.out (by simp)
          have g6 : w.grownBy w6 (some d) := by rw [hw6]; exact gr_set (gr_refl _ _)
          have k6 : KT TS N w w6 := KT.of_row g6 hdw HNd.out rfl
          have RS := hid ((P5.out.grow GY.out).resub (x' := { x with ends := ln }) (lv' := lvx) HE.out g6 (by rw [hw6]; exact heap_set hdw) ((HA0.out.grow GY.out).kt (fun t ht => tp_ta t (ts_tp t ht)) k6))
          obtain ⟨hg2N, csg, rrg, hg2b⟩ := HG2.out
          have b1' := k6.cell (GY.out.cell b1 (by simp)) (gr_keep GY.out H1.out (by simp)) (.inr ⟨_, _, _, rfl, rfl⟩)
          have b2' := k6.cell (GY.out.cell b2 (by simp)) (gr_keep GY.out hg2b (by simp)) (.inr ⟨_, _, _, rfl, rfl⟩)
          have T6 := hid ((T5.out.grow GY.out).kt k6)
          have K6 := hid (((KT.of_none (T := TP) (N := N) G5.out).trans (KT.of_none GY.out)).trans (k6.mono ts_tp))
          have PS6 := RS.out.1.each (d, { x with ends := ln }) (List.mem_of_getElem? (List.getElem?_set_self hil))
          have HGR := hid (granted_x N F d { x with ends := ln } n (by omega) w6 (hid T6.out.p10) PS6)
          rw [← hw6]
          clear hw6 hdw g6 k6 hg2N hg2b b1 b2 PS6 GY G5 T5 T6 hd5 fd5 HLA HD0 HA0 HG2
          go_wp2_with fail
          refine HGR.out.mono ?_
          rintro e w7 ⟨v7, rfl, hf7, g7⟩
          have FIN := hid (And.intro hf7 (And.intro (RS.out.1.grow g7).all (K6.out.trans (KT.of_none g7))))
          clear hf7 g7 HGR
          go_wp2
          ((try simp only [Exit.inBlock, Exit.then]); refine bodyPost_ret (results_tmp2 rfl _ _ _) rfl ?_)
          exact ⟨v7, by rw [R.out]; rfl, by rw [R.out]; exact FIN.out.1, by rw [R.out]; exact FIN.out.2.1, FIN.out.2.2⟩
end Go.Proofs.YtfceodbpkghkaaaGreatDoor
