/- Texts of one proof, put together: Xmq, Xmr. -/
import Derived.Test.YtmofnoconhgjmaaGreatDoorMK
import Derived.Test.YtmofnoconhgjmaaGreatDoorMP
import Derived.Maps.AppendAt
import Derived.Test.YtmofnoconhgjmaaGreatDoorXmo
/- The parser's begin: a frame more. -/
namespace Go.Proofs.YtmofnoconhgjmaaGreatDoor
open Go.RowKit
set_option linter.unusedVariables false
set_option linter.unusedSimpArgs false

theorem ptrs_cons (x : Nat × Value) (l : List (Nat × Value)) : ptrs (x :: l) = ptrs l ++ [.pointer (some ⟨x.1, 0, none⟩)] := by
  unfold ptrs; rw [List.map_cons, List.reverse_cons]
theorem attrsL_names : ∀ (n : Nat) {r : Bs} {acc l : List At} {b : Bool} {r' : Bs}, attrsL n r acc = some (l, b, r') → (∀ a ∈ acc, a.2.1 ≠ []) → ∀ a ∈ l, a.2.1 ≠ [] := by
  intro n
  induction n with
  | zero => intro r acc l b r' h; cases h
  | succ n ih =>
    intro r acc l b r' h hacc
    unfold attrsL at h
    split at h
    · cases h; exact hacc
    split at h
    · cases h; exact hacc
    split at h
    · split at h
      · cases h
      · rename_i a r2 h2
        split at h
        · cases h
        · refine ih h (fun x hx => ?_)
          rcases List.mem_append.1 hx with hx | hx
          · exact hacc x hx
          · obtain rfl := List.mem_singleton.1 hx
            unfold oneL at h2
            split at h2
            · rename_i h3
              obtain ⟨y, hy, e⟩ := Option.map_eq_some_iff.1 h2
              cases e
              simp only [Bool.and_eq_true] at h3
              have h4 : nameB (fullL (Lib.trimLeftS r blkL)).1.2.1 = true := by
                have h5 := h3.1
                unfold fullL at h5 ⊢
                split at h5 <;> rename_i h6
                · rw [if_pos h6]; exact h5
                · rw [if_neg h6]; exact h5
              intro e
              simp only at e
              rw [e] at h4; cases h4
            · cases h2
    · cases h
theorem attrsL_cnt : ∀ (n : Nat) {r : Bs} {acc l : List At} {b : Bool} {r' : Bs}, attrsL n r acc = some (l, b, r') → l.length + r'.length ≤ acc.length + r.length := by
  intro n
  induction n with
  | zero => intro r acc l b r' h; cases h
  | succ n ih =>
    intro r acc l b r' h
    unfold attrsL at h
    have h0 := trimS_len r
    split at h
    · cases h
      have := trim_len (Lib.trimLeftS r blkL) [47, 62]
      omega
    split at h
    · cases h
      have := trim_len (Lib.trimLeftS r blkL) [62]
      omega
    split at h
    · split at h
      · cases h
      · rename_i a r2 h2
        have := oneL_len h2
        split at h
        · cases h
        · have := ih h
          simp only [List.length_append, List.length_singleton] at this
          omega
    · cases h
/-- A frame more. -/
theorem push_fin {w0 we w W W8 : World} {X : Nat → Prop} {b : Nat} {sv sv' : Value} {fb : Nat} {l : List (Nat × Value)} {r : Bs} {f : Fr} {S : List Fr} {cnt : Nat} {full : Bool} {av sp : Value}
    (h : MP w0 we X b sv l ⟨r, S, cnt, full⟩) (ge : we.grownBy w none) (hwb : we.heap.size ≤ fb)
    (hB : FrB w fb f.p f.n f.s f.n av [] (.slice none 0 0) sp) (hsp : SpAt w sp f.bs) (hrow : w.ownsRow we.heap.size 102 3 av f.ats.length (tri f.ats)) (ht : f.tx = []) (hk : f.kids = .nil)
    (g0 : w.grownBy W none) (h8 : W8.ownsRow w0.heap.size 248 1 sv' (S.length + 1) (ptrs l ++ [.pointer (some ⟨fb, 0, none⟩)])) (g8 : W.grownBy W8 sv.ownBlock) (hat : sv'.ownBlock = sv.ownBlock ∨ sv'.ownBlock = some W.heap.size) :
    MAt w0 (W8.setCell ⟨b, 1, none⟩ sv') b ⟨r, f :: S, cnt, full⟩ := by
  have geW := gr_trans ge g0
  have hW := h.grow geW
  have hb : b < we.heap.size := lt_of_block h.pr
  have hs : ∀ k, sv.ownBlock = some k → k < we.heap.size := fun k e => (h.row.lt k e).2
  have hme := h.frs.mem
  have hl : ∀ y ∈ l, y.1 < we.heap.size ∧ ∀ k, y.2.ownBlock = some k → k < we.heap.size := fun y hy => by
    obtain ⟨-, -, ⟨c1, e1⟩, h2⟩ := hme y hy
    exact ⟨lt_of_block e1, fun k e => by obtain ⟨c2, e2⟩ := h2 k e; exact lt_of_block e2⟩
  have keep : ∀ k, k < W.heap.size → some k ≠ sv.ownBlock → k ≠ b → (W8.setCell ⟨b, 1, none⟩ sv').heap[k]? = W.heap[k]? := fun k h1 h2 h3 =>
    ((gr_set (gr_refl W8 (some b))).block k (Nat.lt_of_lt_of_le h1 g8.size) (by simpa using h3)).trans (g8.block k h1 h2)
  have hty : ∀ (k : Nat) (cs' : Array Value) (T : TypeId) (r' : Nat × Nat), W.heap[k]? = some (.cells cs' T r') → T ≠ 248 → T ≠ 114 → (W8.setCell ⟨b, 1, none⟩ sv').heap[k]? = W.heap[k]? := fun k cs' T r' h1 h2 h3 => by
    refine keep k (lt_of_block h1) (fun e1 => ?_) (fun e1 => blk_ne h1 hW.pr h3 (by rw [e1]))
    rcases hW.row.2 with ⟨e3, _⟩ | ⟨g', cap', cur, e3, hg, hh, _⟩
    · rw [e3] at e1; cases e1
    · rw [e3] at e1
      obtain rfl : k = g' := by simpa [Value.ownBlock] using e1
      exact blk_ne h1 hh h2 rfl
  have hBW : FrB W fb f.p f.n f.s f.n av [] (.slice none 0 0) sp := hB.grow g0
  have ksp : ∀ u l', SpAt W u l' → SpAt (W8.setCell ⟨b, 1, none⟩ sv') u l' := by
    intro u l'
    induction l' generalizing u with
    | nil => exact fun h => h
    | cons x l' ih => intro ⟨b', u', e1, h1, h2⟩; exact ⟨b', u', e1, (hty b' _ _ _ h1 (by decide) (by decide)).trans h1, ih u' h2⟩
  have hpr8 : W8.heap[b]? = W.heap[b]? := g8.block b (lt_of_block hW.pr) (fun e1 => by
    rcases hW.row.2 with ⟨e3, _⟩ | ⟨g', cap', cur, e3, hg, hh, _⟩
    · rw [e3] at e1; cases e1
    · rw [e3] at e1
      obtain rfl : b = g' := by simpa [Value.ownBlock] using e1
      exact blk_ne hW.pr hh (by decide) rfl)
  have hprF : PrAt (W8.setCell ⟨b, 1, none⟩ sv') b r sv' (cnt : Int) full := heap_set (o := 1) (hpr8.trans hW.pr)
  have hlb : fb < W.heap.size := lt_of_block hBW
  have hup : ∀ k, k < we.heap.size → ((X k ∧ k < we.heap.size) ∨ k = fb ∨ sv'.ownBlock = some k) → X k := fun k h1 h2 => by
    rcases h2 with h2 | h2 | h2
    · exact h2.1
    · omega
    · rcases hat with e | e
      · exact h.inS k (by rw [← e]; exact h2)
      · rw [e] at h2
        have : W.heap.size = k := by simpa using h2
        have := geW.size
        omega
  have keepX : ∀ k, k < W.heap.size → ¬ ((X k ∧ k < we.heap.size) ∨ k = fb ∨ sv'.ownBlock = some k) → (W8.setCell ⟨b, 1, none⟩ sv').heap[k]? = W.heap[k]? := fun k h1 h2 =>
    keep k h1 (fun e => h2 (.inl ⟨h.inS k e.symm, hs k e.symm⟩)) (fun e => h2 (.inl (by rw [e]; exact ⟨h.inB, hb⟩)))
  have hl2 : ∀ y ∈ l, ((X y.1 ∧ y.1 < we.heap.size) ∨ y.1 = fb ∨ sv'.ownBlock = some y.1) ∧ ∀ k, y.2.ownBlock = some k → ((X k ∧ k < we.heap.size) ∨ k = fb ∨ sv'.ownBlock = some k) := fun y hy =>
    ⟨.inl ⟨(hme y hy).1, (hl y hy).1⟩, fun k e => .inl ⟨(hme y hy).2.1 k e, (hl y hy).2 k e⟩⟩
  have hF := ((h.frs.less (X' := fun k => (X k ∧ k < we.heap.size) ∨ k = fb ∨ sv'.ownBlock = some k) hup hl2).grow geW).same keepX ksp (fun y hy => by
    obtain ⟨-, -, ⟨c5, e5⟩, hm5⟩ := hW.frs.mem y hy
    exact ⟨hty y.1 _ _ _ e5 (by decide) (by decide), fun k hk' => by obtain ⟨c6, e6⟩ := hm5 k hk'; exact hty k _ _ _ e6 (by decide) (by decide)⟩)
  refine ⟨fun k => (X k ∧ k < we.heap.size) ∨ k = fb ∨ sv'.ownBlock = some k, sv', (fb, .slice none 0 0) :: l, ?_, h.lo, hprF, ?_, ⟨⟨⟨av, sp, by rw [ht]; exact (hty fb _ _ _ hBW (by decide) (by decide)).trans hBW, ?_, ksp _ _ (hsp.grow g0)⟩, ⟨[], ⟨by rw [hk]; rfl, .inl ⟨rfl, by rw [hk]; rfl⟩⟩, (fun k o n c e => by cases e)⟩, .inr (.inl rfl), (fun k e => by cases e), Nat.le_trans h.gr.size hwb⟩, fun y hy => ⟨fun e => ?_, (fun k e => by cases e)⟩, hF⟩, .inl ⟨h.inB, hb⟩, (fun k e => .inr (.inr e)), fun k hk => .inl ⟨h.old k hk, Nat.lt_of_lt_of_le hk h.gr.size⟩⟩
  · exact gr_new (gr_own hW.gr hW.row (Nat.le_refl _) g8) (gr_set (gr_refl _ (some b))) h.lo
  · rw [ptrs_cons]
    exact row_ty h8 (gr_set (gr_refl _ (some b))) (hpr8.trans hW.pr) (by decide)
  · rcases hrow.2 with ⟨e, h0⟩ | ⟨g, cap, cur, e, hg, hh, hc, hm, hs2, ht2⟩
    · exact ⟨none, 0, by rw [e, h0], fun i hi => by omega⟩
    · refine ⟨_, cap, e, fun i hi => ⟨g, 0, rfl, ⟨?_, hc⟩, ?_⟩⟩
      · have hgw := lt_of_block hh
        rintro (h1 | h1 | h1)
        · omega
        · exact blk_ne hB hh (by decide) (by rw [h1])
        · rcases hat with e2 | e2
          · have := hs g (by rw [← e2]; exact h1); omega
          · rw [e2] at h1
            have : W.heap.size = g := by simpa using h1
            have := g0.size; omega
      · obtain ⟨g', cap', e', -, -, -, -, hc'⟩ := own_tri hrow (by omega)
        rw [e] at e'
        cases e'
        rw [Nat.zero_add]
        have hhW := gr_keep g0 hh (by simp)
        exact ((hc' i hi).grow g0).same (hty g _ _ _ hhW (by decide) (by decide))
  · have := (hl y hy).1
    simp only at e
    omega
end Go.Proofs.YtmofnoconhgjmaaGreatDoor
/- The parser's begin: its walk. -/
namespace Go.Proofs.YtmofnoconhgjmaaGreatDoor
open Go.RowKit
set_option linter.unusedVariables false
set_option linter.unusedSimpArgs false

/-- What begin, end and content leave. -/
def StPost (w0 : World) (b : Nat) (o : Option (Ma ⊕ Res)) (e : Ending) (w' : World) : Prop :=
  w0.grownBy w' none ∧ ((o = none ∧ e = .returned (.tuple #[.pointer none, .bool false])) ∨ ∃ x v, o = some x ∧ e = .returned (.tuple #[v, .bool true]) ∧ OutP w0 b x v w')
def upOf : List Fr → List (Bs × Bs)
  | [] => xmlB
  | f :: _ => f.bs
theorem OutP.gr {w0 w : World} {b : Nat} {x : Ma ⊕ Res} {v : Value} (h : OutP w0 b x v w) : w0.grownBy w none := by
  cases x with
  | inl m => obtain ⟨X, sv, l, h1, _⟩ := h.2; exact h1
  | inr y => obtain ⟨fb, sv, -, h1, _⟩ := h; exact h1
theorem MP.lt {w0 w : World} {X : Nat → Prop} {b : Nat} {sv : Value} {l : List (Nat × Value)} {m : Ma} (h : MP w0 w X b sv l m) : b < w.heap.size := lt_of_block h.pr
theorem infoP : (Tryz.prog.info? 248).map (fun i => (i.zero, i.size, i.bytes)) = some (some (.pointer none), 1, 8) := by kernel_rfl
theorem MAt.setCF {w0 w : World} {b : Nat} {r : Bs} {S : List Fr} {cnt : Nat} {full : Bool} (h : MAt w0 w b ⟨r, S, cnt, full⟩) (cnt' : Nat) (full' : Bool) : MAt w0 ((w.setCell ⟨b, 2, none⟩ (.int .i64 (cnt' : Int))).setCell ⟨b, 3, none⟩ (.bool full')) b ⟨r, S, cnt', full'⟩ := by
  obtain ⟨X, sv, l, hp⟩ := h.parts
  have g : w.grownBy ((w.setCell ⟨b, 2, none⟩ (.int .i64 (cnt' : Int))).setCell ⟨b, 3, none⟩ (.bool full')) (some b) := gr_set (gr_set (gr_refl _ _))
  refine MP.mat (X := X) (sv := sv) (l := l) ⟨gr_p hp.gr hp.lo g, hp.lo, heap_set (o := 3) (heap_set (o := 2) hp.pr), row_pr hp.row g hp.pr (by decide), hp.frs.write hp.pr hp.inB g (by decide) (by decide) (by decide), hp.inB, hp.inS, hp.old⟩
set_option maxRecDepth 20000 in
set_option maxHeartbeats 8000000 in
theorem begin_x (w0 w : World) (b : Nat) (r : Bs) (S : List Fr) (cnt : Nat) (full : Bool) (m : Int) (h : MAt w0 w b ⟨r, S, cnt, full⟩) (hm : w0.cell? ⟨0, 0, none⟩ = some (.int .i64 m)) (hok : Ma.ok 20000 ⟨r, S, cnt, full⟩) :
    Calls Tryz.prog 98 #[.pointer (some ⟨b, 0, none⟩)] w (StPost w0 b (stepBegin (upOf S) r S cnt full)) := by
  obtain ⟨X, sv, l, hp⟩ := h.parts
  obtain ⟨i0, hi, hz0, hz1, hz2⟩ := info_parts infoP
  have hmw : w.cell? ⟨0, 0, none⟩ = some (.int .i64 m) := hp.gr.cell hm (by simp)
  have hm0 : (0 : Nat) < w0.heap.size := lt_of_cell hm
  have hb : b ≠ 0 := by have := hp.lo; omega
  have hlr := hok.1
  have hls := hok.2.1
  simp only at hlr hls
  have hfl := fullL_len r
  have HF := hid (full_x b r sv (cnt : Int) full w hp.pr (by omega))
  obtain ⟨O, hO⟩ : ∃ O, stepBegin (upOf S) r S cnt full = O := ⟨_, rfl⟩
  rw [hO]
  have HO := hid (show O = match (if (fullL r).1.2.2 then match attrsA (fullL r).2 with
    | none => none
    | some (l, emp, r') => (elemL (fullL r).1.1 (fullL r).1.2.1 l (upOf S)).map fun f => (f, emp, r', l.length)
  else none) with
    | none => none
    | some (g, emp, r', k) => some (if emp then popL g.el r' S (cnt + 1) (fullB full (cnt + 1) (S.length + 1) k) else .inl ⟨r', g :: S, cnt + 1, fullB full (cnt + 1) (S.length + 1) k⟩) from hO.symm)
  have HOK2 := hid (fun (g : Fr) (emp : Bool) (r' : Bs) (k : Nat) (h : beginL (upOf S) r = some (g, emp, r', k)) => (⟨beginL_len h, beginL_new h⟩ : r'.length < r.length ∧ g.kids = .nil ∧ g.tx = []))
  unfold beginL at HOK2
  generalize fullL r = F at *
  obtain ⟨⟨f1, f2, f3⟩, f4⟩ := F
  simp only at hfl HO HOK2
  have HP := hid hp
  have HM := hid hm
  have HOK := hid hok
  clear h hp hO hok hm
  go_enter Tryz.func98, Tryz.ntmps98
  go_wp2_with fail
  refine HF.out.mono ?_
  rintro e w1 ⟨rfl, hp1, g1⟩
  have P1 := hid ((HP.out.step hp1 g1).grow (gr_alloc (gr_refl _ none) (.cells #[.string ⟨f1.toArray⟩, .string ⟨f2.toArray⟩] 237)))
  have N1 := hid (heap_alloc_new w1 (.cells #[.string ⟨f1.toArray⟩, .string ⟨f2.toArray⟩] 237))
  clear hp1 g1 HF
  unfold str
  cases f3
  · have HN := hid (show O = none from HO.out)
    go_wp2
    ((try simp only [Exit.inBlock, Exit.then]); refine bodyPost_ret (results_tmp2 rfl _ _ _) rfl ?_)
    exact ⟨P1.out.gr, .inl ⟨HN.out, rfl⟩⟩
  have HO2 := hid (show O = match (match attrsA f4 with
    | none => none
    | some (l, emp, r') => (elemL f1 f2 l (upOf S)).map fun f => (f, emp, r', l.length)) with
    | none => none
    | some (g, emp, r', k) => some (if emp then popL g.el r' S (cnt + 1) (fullB full (cnt + 1) (S.length + 1) k) else .inl ⟨r', g :: S, cnt + 1, fullB full (cnt + 1) (S.length + 1) k⟩) from HO.out)
  have HOK3 := hid (fun (g : Fr) (emp : Bool) (r' : Bs) (k : Nat) (h : (match attrsA f4 with
    | none => none
    | some (l, emp, r') => (elemL f1 f2 l (upOf S)).map fun f => (f, emp, r', l.length)) = some (g, emp, r', k)) => HOK2.out g emp r' k h)
  clear HO HOK2
  obtain ⟨w2, hw2⟩ : ∃ w2, w2 = w1.alloc (.cells #[.string ⟨f1.toArray⟩, .string ⟨f2.toArray⟩] 237) := ⟨_, rfl⟩
  have hwm : w2.cell? ⟨0, 0, none⟩ = some (.int .i64 m) := by rw [hw2]; exact P1.out.gr.cell HM.out (by simp)
  rw [← hw2] at P1 N1
  have HA := hid (attrs_x b f4 sv (cnt : Int) full m w2 P1.out.pr hwm hb (by omega))
  have HNM := hid (fun l emp r' (h : attrsA f4 = some (l, emp, r')) => (⟨fun a ha => attrsL_names _ h (fun _ hx => by cases hx) a ha, attrsL_len h, by have := attrsL_cnt _ h; simp only [List.length_nil] at this; omega⟩ : (∀ a ∈ l, a.2.1 ≠ []) ∧ r'.length < f4.length ∧ l.length ≤ f4.length))
  unfold AttrsPost at HA
  generalize attrsA f4 = A at *
  go_wp2_with fail
  rw [← hw2]
  clear hw2
  refine HA.out.mono ?_
  rintro e w3 ⟨g3, h3⟩
  rcases h3 with ⟨ats, emp, r', va, hA, rfl, hp3, hown⟩ | ⟨hA, rfl, r', hp3⟩
  rotate_left
  · have HN := hid (show O = none by rw [HO2.out, hA])
    have P3 := hid (P1.out.step hp3 g3)
    clear hA
    go_wp2
    ((try simp only [Exit.inBlock, Exit.then]); refine bodyPost_ret (results_tmp2 rfl _ _ _) rfl ?_)
    exact ⟨P3.out.gr, .inl ⟨HN.out, rfl⟩⟩
  · have P3 := hid (P1.out.step hp3 g3)
    have N3 : Hid (FuAt w3 w1.heap.size f1 f2) := hid (gr_keep g3 N1.out (blk_ne N1.out P1.out.pr (by decide)))
    have TR3 := hid (trs_of_own hown)
    obtain ⟨hnm, hrl, hal⟩ := HNM.out ats emp r' hA
    obtain ⟨ta, tc, hva, -⟩ := TR3.out
    subst hva
    have HNM2 := hid hnm
    have HO3 := hid (show O = match ((elemL f1 f2 ats (upOf S)).map fun f => (f, emp, r', ats.length)) with
      | none => none
      | some (g, emp, r', k) => some (if emp then popL g.el r' S (cnt + 1) (fullB full (cnt + 1) (S.length + 1) k) else .inl ⟨r', g :: S, cnt + 1, fullB full (cnt + 1) (S.length + 1) k⟩) by rw [HO2.out, hA])
    have HOK4 := hid (fun (g : Fr) (h : elemL f1 f2 ats (upOf S) = some g) => (HOK3.out g emp r' ats.length (by rw [hA]; show Option.map _ _ = _; rw [h]; rfl)).2)
    have hlen : ats.length ≤ 100000 := by omega
    clear hp3 g3 hown hnm hA HNM HA P1 HO2 HOK3 N1
    generalize w1.heap.size = fn at *
    obtain ⟨sa, sc, hsv, -⟩ := row_shape P3.out.row
    simp only at hsv
    subst hsv
    have ga := gr_alloc (gr_refl w3 none) (.cells #[.string ⟨#[120, 109, 108]⟩, .string ⟨#[104, 116, 116, 112, 58, 47, 47, 119, 119, 119, 46, 119, 51, 46, 111, 114, 103, 47, 88, 77, 76, 47, 49, 57, 57, 56, 47, 110, 97, 109, 101, 115, 112, 97, 99, 101]⟩, .pointer none] 245)
    have P4 := hid (P3.out.grow ga)
    have N4 : Hid (FuAt _ fn f1 f2) := hid (gr_keep ga N3.out (by simp))
    have TR4 := hid (TR3.out.grow ga)
    have SP4 := hid (show SpAt (w3.alloc (.cells #[.string ⟨#[120, 109, 108]⟩, .string ⟨#[104, 116, 116, 112, 58, 47, 47, 119, 119, 119, 46, 119, 51, 46, 111, 114, 103, 47, 88, 77, 76, 47, 49, 57, 57, 56, 47, 110, 97, 109, 101, 115, 112, 97, 99, 101]⟩, .pointer none] 245)) (.pointer (some ⟨w3.heap.size, 0, none⟩)) xmlB from ⟨w3.heap.size, _, rfl, heap_alloc_new w3 _, rfl⟩)
    clear ga P3 N3 TR3
    go_upto_region 8 with fail
    generalize w3.alloc (.cells #[.string ⟨#[120, 109, 108]⟩, .string ⟨#[104, 116, 116, 112, 58, 47, 47, 119, 119, 119, 46, 119, 51, 46, 111, 114, 103, 47, 88, 77, 76, 47, 49, 57, 57, 56, 47, 110, 97, 109, 101, 115, 112, 97, 99, 101]⟩, .pointer none] 245) = w4 at *
    generalize w3.heap.size = s4 at *
    have c1 : w4.cell? ⟨b, 1, none⟩ = some (.slice sa S.length sc) := P4.out.pr.cells.2.1
    go_upto_if 31 with fail
    go_cut [7] (fun v7 wx => ∃ uu n, v7 = .pointer uu ∧ SpAt wx (.pointer uu) (upOf S) ∧ wx = w4.drewN n)
    case first =>
      cases S with
      | nil =>
        go_wp2_with fail
        go_meet
        exact ⟨_, 0, rfl, SP4.out, rfl⟩
      | cons f S =>
        obtain ⟨x, l, rfl⟩ : ∃ x l', l = x :: l' := by
          cases l with
          | nil => exact P4.out.frs.elim
          | cons x l => exact ⟨x, l, rfl⟩
        have HT := hid (top_x w0 w4 X b _ x l _ P4.out (by simp only [List.length_cons] at hls ⊢; omega))
        obtain ⟨⟨av5, sp5, hB5, -, hS5⟩, -⟩ := P4.out.frs.1
        obtain ⟨uu, rfl⟩ := hS5.ptr
        have HB5 := hid hB5
        have HS5 := hid hS5
        have hq : 0 < (f :: S).length := by simp
        clear hB5 hS5 SP4
        go_wp2_with fail
        refine HT.out.mono ?_
        rintro e w5 ⟨rfl, n5, rfl⟩
        have c7 : (w4.drewN n5).cell? ⟨x.1, 7, none⟩ = some (.pointer uu) := HB5.out.cells.2.2.2.2.2.2.2
        have hs7 := HS5.out.grow (gr_drewN n5 (gr_refl _ _))
        have HS7 := hid hs7
        clear hs7
        go_wp2_with fail
        go_meet
        exact ⟨uu, n5, rfl, HS7.out, rfl⟩
    case rest =>
      obtain ⟨uu, n5, rfl, hs5, rfl⟩ := hcut
      have P5 := hid (P4.out.grow (gr_drewN n5 (gr_refl _ _)))
      have N5 : Hid (FuAt (w4.drewN n5) fn f1 f2) := hid (gr_keep (gr_drewN n5 (gr_refl _ none)) N4.out (by simp))
      have TR5 := hid (TR4.out.grow (gr_drewN n5 (gr_refl _ _)))
      have SP5 := hid hs5
      clear hs5 P4 N4 TR4 SP4 c1
      generalize w4.drewN n5 = w5 at *
      obtain ⟨n0, n1, -, -⟩ := N5.out.cells
      have HE := hid (element_x f1 f2 ats (upOf S) _ (.pointer uu) w5 TR5.out SP5.out (fun a ha _ => HNM2.out a ha) hlen)
      unfold ElPost at HE
      generalize elemL f1 f2 ats (upOf S) = E at *
      go_wp2_with fail
      refine HE.out.mono ?_
      rintro e w6 ⟨g6, h6⟩
      rcases h6 with ⟨hE, rfl⟩ | ⟨f, fb, av, sp, hE, rfl, hfb, hB6, hS6, hr6, ht6, hk6⟩
      · have HN := hid (show O = none by rw [HO3.out, hE]; rfl)
        have P6 := hid (P5.out.grow g6)
        clear hE
        go_wp2
        ((try simp only [Exit.inBlock, Exit.then]); refine bodyPost_ret (results_tmp2 rfl _ _ _) rfl ?_)
        exact ⟨P6.out.gr, .inl ⟨HN.out, rfl⟩⟩
      · have P6 := hid (P5.out.grow g6)
        have hbs := P6.out.gr.size
        have c1 : w6.cell? ⟨b, 1, none⟩ = some (.slice sa S.length sc) := P6.out.pr.cells.2.1
        have PF := hid (fun (W W8 : World) (sv' : Value) (g0 : w6.grownBy W none) h8 g8 hat => push_fin (W := W) (W8 := W8) (sv' := sv') P5.out g6 hfb hB6 hS6 hr6 ht6 hk6 g0 h8 g8 hat)
        have HO4 := hid (show O = some (if emp then popL f.el r' S (cnt + 1) (fullB full (cnt + 1) (S.length + 1) ats.length) else .inl ⟨r', f :: S, cnt + 1, fullB full (cnt + 1) (S.length + 1) ats.length⟩) by rw [HO3.out, hE]; rfl)
        have hrb := (HOK4.out f hE).1
        clear hE hB6 hS6 hr6 ht6 hk6 hfb HO3 HOK4 HE SP5 n0 n1 N5 TR5
        go_upto_region 13 with fail
        go_wp2_with (at_builtin; refine wpList_append_own_at _ rfl _ _ 112 rfl w0.heap.size 248 i0 (.pointer none) 1 8 Tryz.underlying112 hi hz0 hz1 hz2 rfl (by decide) _ _ _ rfl (P6.out.row.alloc _) ⟨w6.heap.size, 0, none⟩ 1 1 [.pointer (some ⟨fb, 0, none⟩)] rfl rfl ?c1 ?c2 ?c3 ?c4 ?c5 ?_)
        case c1 =>
          intro j u hj
          match j, hj with
          | 0, hj => simp at hj; subst hj; simp [Addr.add]
        case c2 => intro u hu; simp at hu; subst hu; rfl
        case c3 => unfold maxLen; omega
        case c4 => omega
        case c5 => simp; omega
        intro v' w8 hown' hgrow _ hat
        obtain ⟨va8, vc8, rfl, -⟩ := row_shape hown'
        have M8 := hid (PF.out _ w8 _ (gr_alloc (gr_refl _ none) _) hown' hgrow (by rcases hat with h9 | h9; exact .inl h9; exact .inr (by rw [h9]; simp)))
        have g8b := hid (show w8.cell? ⟨b, 1, none⟩ = some (.slice sa S.length sc) ∧ w8.frozen? ⟨b, 1, none⟩ = false from by
          have hpa := P6.out.pr.grow (gr_alloc (gr_refl _ none) (.cells #[.pointer (some ⟨fb, 0, none⟩)] 248))
          have hp8 : PrAt w8 b r' _ (cnt : Int) full := keep_own (P6.out.row.alloc _) hgrow hpa (by decide)
          exact ⟨hp8.cells.2.1, hp8.cells.2.2.2.2.2.1⟩)
        obtain ⟨b1, b2⟩ := g8b.out
        clear hown' hgrow hat PF c1 g8b
        obtain ⟨X9, sv9, l9, hp9⟩ := M8.out.parts
        have c2 := hp9.pr.cells.2.2.1
        have c3 := hp9.pr.cells.2.2.2.1
        have c1 := hp9.pr.cells.2.1
        have q2 := hp9.pr.cells.2.2.2.2.2.2.1
        have q3 := hp9.pr.cells.2.2.2.2.2.2.2
        obtain ⟨sa9, sc9, hsv9, -⟩ := row_shape hp9.row
        simp only [List.length_cons] at hsv9 c2 c3
        rw [hsv9] at c1
        clear hp9 hsv9
        go_upto_region 14 with fail
        generalize w8.setCell ⟨b, 1, none⟩ (.slice va8 (S.length + 1) vc8) = w9 at *
        obtain ⟨FB, hFB⟩ : ∃ FB, FB = fullB full (cnt + 1) (S.length + 1) ats.length := ⟨_, rfl⟩
        have M9 := hid (show MAt w0 ((w9.setCell ⟨b, 2, none⟩ (.int .i64 (((cnt + 1 : Nat) : Int)))).setCell ⟨b, 3, none⟩ (.bool FB)) b ⟨r', f :: S, cnt + 1, FB⟩ from M8.out.setCF (cnt + 1) FB)
        rw [← hFB] at HO4
        have HFB := hid hFB
        have hcc : ((cnt + 1 : Nat) : Int) = (cnt : Int) + 1 := by omega
        rw [hcc] at M9
        have hcb : (cnt : Int) + 1 ≤ 20000 := by omega
        clear hFB hcc M8 b1 b2
        go_upto_region 15 with fail
        go_cut [87] (fun v87 wx => wx = (w9.setCell ⟨b, 2, none⟩ (.int .i64 ((cnt : Int) + 1))).setCell ⟨b, 3, none⟩ (.bool FB))
        case first =>
          clear HO4 M9
          unfold fullB at HFB
          cases full
          · by_cases h1 : (64 : Int) < (cnt : Int) + 1
            · have hv := hid (show FB = true by rw [HFB.out]; simp; omega)
              go_wp2_with fail
              go_meet
              rw [hv.out]
            · by_cases h2 : (8 : Int) < (S.length : Int) + 1
              · have hv := hid (show FB = true by rw [HFB.out]; simp; omega)
                go_wp2_with fail
                go_meet
                rw [hv.out]
              · have hv := hid (show FB = decide (16 < ats.length) by rw [HFB.out, decide_eq_false (by omega), decide_eq_false (by omega)]; rfl)
                by_cases h4 : 16 < ats.length
                · have h3 : (16 : Int) < (ats.length : Int) := by omega
                  have hv2 := hid (show FB = true by rw [hv.out, decide_eq_true h4])
                  go_wp2_with fail
                  go_meet
                  rw [hv2.out]
                · have h3 : ¬ (16 : Int) < (ats.length : Int) := by omega
                  have hv2 := hid (show FB = false by rw [hv.out, decide_eq_false h4])
                  go_wp2_with fail
                  go_meet
                  rw [hv2.out]
          · have hv := hid (show FB = true by rw [HFB.out]; simp)
            go_wp2_with fail
            go_meet
            rw [hv.out]
        case rest =>
          obtain rfl := hcut
          have M10 := hid M9.out
          generalize (w9.setCell ⟨b, 2, none⟩ (.int .i64 ((cnt : Int) + 1))).setCell ⟨b, 3, none⟩ (.bool FB) = w10 at *
          cases emp
          · have HR := hid (show O = some (.inl ⟨r', f :: S, cnt + 1, FB⟩) from HO4.out)
            go_wp2
            ((try simp only [Exit.inBlock, Exit.then]); refine bodyPost_ret (results_tmp2 rfl _ _ _) rfl ?_)
            exact ⟨(show OutP w0 b (.inl _) (.pointer none) _ from ⟨rfl, M10.out⟩).gr, .inr ⟨_, _, HR.out, rfl, rfl, M10.out⟩⟩
          · have HR := hid (show O = some (popL f.el r' S (cnt + 1) FB) from HO4.out)
            have HPO := hid (pop_x w0 w10 b r' f S (cnt + 1) FB M10.out (by omega) (fun g hg => by have := sumK_mem hg; omega))
            clear M10 M9 HO4
            go_wp2_with fail
            refine HPO.out.mono ?_
            rintro e w11 ⟨v, rfl, hout⟩
            have HOUT := hid hout
            clear hout
            go_wp2
            ((try simp only [Exit.inBlock, Exit.then]); refine bodyPost_ret (results_tmp2 rfl _ _ _) rfl ?_)
            exact ⟨HOUT.out.gr, .inr ⟨_, v, HR.out, rfl, HOUT.out⟩⟩
end Go.Proofs.YtmofnoconhgjmaaGreatDoor
