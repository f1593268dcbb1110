/- Texts of one proof, put together: Xmt, Xmu, Xmv, Xnv. -/
import Derived.Test.YtmofnoconhgjmaaGreatDoorXms
import Derived.Deep.DeepCutAuto
/- The parser's content. -/
namespace Go.Proofs.YtmofnoconhgjmaaGreatDoor
open Go.RowKit
set_option linter.unusedVariables false
set_option linter.unusedSimpArgs false

theorem app_str (a b : Bs) : (ByteArray.mk a.toArray) ++ (ByteArray.mk b.toArray) = ⟨(a ++ b).toArray⟩ := by
  simp [ByteArray.ext_iff]
theorem MP.txt {w0 w : World} {X : Nat → Prop} {b : Nat} {sv : Value} {x : Nat × Value} {l : List (Nat × Value)} {r : Bs} {f : Fr} {S : List Fr} {cnt : Nat} {full : Bool} (h : MP w0 w X b sv (x :: l) ⟨r, f :: S, cnt, full⟩) (t : Bs) :
    MP w0 (w.setCell ⟨x.1, 5, none⟩ (.string ⟨(f.tx ++ t).toArray⟩)) X b sv (x :: l) ⟨r, f.txt t :: S, cnt, full⟩ := by
  obtain ⟨⟨⟨av, sp, hB, hA, hS⟩, hO, hX1, hX2, hlo⟩, hne, hrest⟩ := h.frs
  have g := gr_set (o := 5) (v := .string ⟨(f.tx ++ t).toArray⟩) (gr_refl w (some x.1))
  have kx : ∀ k, k < w.heap.size → ¬ X k → (w.setCell ⟨x.1, 5, none⟩ (.string ⟨(f.tx ++ t).toArray⟩)).heap[k]? = w.heap[k]? := fun k h1 h2 => g.block k h1 (fun e => h2 (by cases e; exact hX1))
  have hm := h.frs.mem
  refine ⟨gr_p h.gr hlo g, h.lo, gr_keep g h.pr (blk_ne h.pr hB (by decide)), row_ty h.row g hB (by decide), ⟨⟨⟨av, sp, heap_set (o := 5) (v := str (f.tx ++ t)) hB, hA.same kx, hS.kept g hB (by decide)⟩, hO.same kx (fun k e => ?_), hX1, hX2, hlo⟩, hne, ?_⟩, h.inB, h.inS, h.old⟩
  · obtain ⟨c2, e2⟩ := (hm x List.mem_cons_self).2.2.2 k e
    exact g.block k (lt_of_block e2) (blk_ne e2 hB (by decide))
  · refine hrest.same kx (fun u l' hs => hs.kept g hB (by decide)) (fun y hy => ?_)
    obtain ⟨-, -, ⟨c5, e5⟩, hm5⟩ := hm y (List.mem_cons_of_mem _ hy)
    refine ⟨g.block _ (lt_of_block e5) (fun e => (hne y hy).1 (by simpa using e)), fun k e => ?_⟩
    obtain ⟨c6, e6⟩ := hm5 k e
    exact g.block k (lt_of_block e6) (blk_ne e6 hB (by decide))
theorem MP.cell5 {w0 w : World} {X : Nat → Prop} {b : Nat} {sv : Value} {x : Nat × Value} {l : List (Nat × Value)} {r : Bs} {f : Fr} {S : List Fr} {cnt : Nat} {full : Bool} (h : MP w0 w X b sv (x :: l) ⟨r, f :: S, cnt, full⟩) :
    w.cell? ⟨x.1, 5, none⟩ = some (.string ⟨f.tx.toArray⟩) ∧ w.frozen? ⟨x.1, 5, none⟩ = false := by
  obtain ⟨⟨⟨av, sp, hB, -, -⟩, -⟩, -⟩ := h.frs
  exact ⟨hB.cells.2.2.2.2.2.1, hB.free 5⟩
set_option maxRecDepth 20000 in
set_option maxHeartbeats 8000000 in
theorem content_x (w0 w : World) (b : Nat) (r : Bs) (f : Fr) (S : List Fr) (cnt : Nat) (full : Bool) (m : Int) (h : MAt w0 w b ⟨r, f :: S, cnt, full⟩) (hm : w0.cell? ⟨0, 0, none⟩ = some (.int .i64 m)) (hok : Ma.ok 20000 ⟨r, f :: S, cnt, full⟩) :
    Calls Tryz.prog 99 #[.pointer (some ⟨b, 0, none⟩)] w (StPost w0 b (stepL r f S cnt full)) := by
  obtain ⟨X, sv, l, hp⟩ := h.parts
  obtain ⟨x, l, rfl⟩ : ∃ x l', l = x :: l' := by
    cases l with
    | nil => exact hp.frs.elim
    | cons x l => exact ⟨x, l, rfl⟩
  have hlr := hok.1
  have hls := hok.2.1
  have hlt := hok.2.2 f List.mem_cons_self
  simp only [sumK, List.length_cons] at hlr hls hlt
  have hm0 : (0 : Nat) < w0.heap.size := lt_of_cell hm
  have hb : b ≠ 0 := by have := hp.lo; omega
  obtain ⟨O, hO⟩ : ∃ O, O = stepL r f S cnt full := ⟨_, rfl⟩
  rw [← hO]
  unfold stepL at hO
  have HO := hid hO
  have HP := hid hp
  have HM := hid hm
  have HOK := hid hok
  have HT1 := hid (take_x b r noteO sv (cnt : Int) full w hp.pr)
  clear h hp hO hm hok
  obtain ⟨p1, hp1⟩ : ∃ p1, Lib.hasPrefix r noteO = p1 := ⟨_, rfl⟩
  have HN1 := hid (fun (hp : p1 = false) => show Lib.trimPrefix r noteO = r by unfold Lib.trimPrefix; rw [hp1, hp]; rfl)
  have hl1 := trim_len r noteO
  rw [hp1] at HT1 HO
  clear hp1
  go_enter Tryz.func99, Tryz.ntmps99
  go_wp2_with fail
  refine HT1.out.mono ?_
  rintro e w1 ⟨rfl, hp1, g1⟩
  have P1 := hid (HP.out.step hp1 g1)
  clear hp1 g1 HT1 HP
  cases p1
  rotate_left
  · -- a comment
    generalize Lib.trimPrefix r noteO = r1 at *
    have HU := hid (until_x b r1 noteC sv (cnt : Int) full m w1 P1.out.pr (P1.out.gr.cell HM.out (by simp)) (by omega))
    have hcl := cut_len r1 noteC
    generalize Lib.cut r1 noteC = C at *
    obtain ⟨k1, k2, k3⟩ := C
    go_wp2_with fail
    refine HU.out.mono ?_
    rintro e w2 ⟨rfl, hp2, g2⟩
    have P2 := hid (P1.out.step hp2 g2)
    clear hp2 g2 HU
    cases k3
    · have HN := hid (show O = none from HO.out)
      go_wp2
      ((try simp only [Exit.inBlock, Exit.then]); refine bodyPost_ret (results_tmp2 rfl _ _ _) rfl ?_)
      exact ⟨P2.out.gr, .inl ⟨HN.out, rfl⟩⟩
    · have HN := hid (show O = some (.inl ⟨k2, f :: S, cnt, full⟩) from HO.out)
      go_wp2
      ((try simp only [Exit.inBlock, Exit.then]); refine bodyPost_ret (results_tmp2 rfl _ _ _) rfl ?_)
      exact ⟨P2.out.gr, .inr ⟨_, _, HN.out, rfl, rfl, P2.out.mat⟩⟩
  rw [HN1.out rfl] at P1 hl1
  clear HN1
  have HO2 := hid (show O = (if Lib.hasPrefix r cdO then (if (Lib.cut (Lib.trimPrefix r cdO) cdC).2.2 then some (.inl ⟨(Lib.cut (Lib.trimPrefix r cdO) cdC).2.1, f.txt (Lib.cut (Lib.trimPrefix r cdO) cdC).1 :: S, cnt, full⟩) else none)
    else if Lib.hasPrefix r [60, 47] then (endL f (Lib.trimPrefix r [60, 47])).map fun r' => popL f.el r' S cnt full
    else if Lib.hasPrefix r [60] then stepBegin f.bs (Lib.trimPrefix r [60]) (f :: S) cnt full
    else if Lib.index r [60] < 0 then none
    else (unescA (r.take (Lib.index r [60]).toNat)).map fun t => .inl ⟨r.drop (Lib.index r [60]).toNat, f.txt t :: S, cnt, full⟩) from HO.out)
  clear HO
  have HT1 := hid (take_x b r cdO sv (cnt : Int) full w1 P1.out.pr)
  obtain ⟨p1, hp1⟩ : ∃ p1, Lib.hasPrefix r cdO = p1 := ⟨_, rfl⟩
  have HN1 := hid (fun (hp : p1 = false) => show Lib.trimPrefix r cdO = r by unfold Lib.trimPrefix; rw [hp1, hp]; rfl)
  have hl1 := trim_len r cdO
  rw [hp1] at HT1 HO2
  clear hp1
  go_wp2_with fail
  refine HT1.out.mono ?_
  rintro e w2 ⟨rfl, hp2, g2⟩
  have P2 := hid (P1.out.step hp2 g2)
  clear hp2 g2 HT1 P1
  cases p1
  rotate_left
  · -- text as it stands
    generalize Lib.trimPrefix r cdO = r1 at *
    have HU := hid (until_x b r1 cdC sv (cnt : Int) full m w2 P2.out.pr (P2.out.gr.cell HM.out (by simp)) (by omega))
    have hcl := cut_len r1 cdC
    have hc1 : (Lib.cut r1 cdC).1.length ≤ r1.length := by
      unfold Lib.cut; split
      · simp only [List.length_take]; omega
      · simp
    generalize Lib.cut r1 cdC = C at *
    obtain ⟨k1, k2, k3⟩ := C
    simp only at hc1
    go_wp2_with fail
    refine HU.out.mono ?_
    rintro e w3 ⟨rfl, hp3, g3⟩
    have P3 := hid (P2.out.step hp3 g3)
    clear hp3 g3 HU P2
    have HTP := hid (top_x w0 w3 X b _ x l _ P3.out (by simp only [List.length_cons]; omega))
    unfold str
    go_wp2_with fail
    refine HTP.out.mono ?_
    rintro e w4 ⟨rfl, n4, rfl⟩
    have P4 := hid (P3.out.grow (gr_drewN n4 (gr_refl _ _)))
    clear P3 HTP
    generalize w3.drewN n4 = w4 at *
    obtain ⟨c5, f5⟩ := P4.out.cell5
    have P5 := hid (P4.out.txt k1)
    have hq9 : ¬ 9223372036854775807 < f.tx.length + k1.length := by omega
    have HX := hid (app_str f.tx k1)
    cases k3
    · have HN := hid (show O = none from HO2.out)
      go_wp2
      ((try simp only [Exit.inBlock, Exit.then]); refine bodyPost_ret (results_tmp2 rfl _ _ _) rfl ?_)
      rw [HX.out]
      exact ⟨P5.out.gr, .inl ⟨HN.out, rfl⟩⟩
    · have HN := hid (show O = some (.inl ⟨k2, f.txt k1 :: S, cnt, full⟩) from HO2.out)
      go_wp2
      ((try simp only [Exit.inBlock, Exit.then]); refine bodyPost_ret (results_tmp2 rfl _ _ _) rfl ?_)
      rw [HX.out]
      exact ⟨P5.out.gr, .inr ⟨_, _, HN.out, rfl, rfl, P5.out.mat⟩⟩
  rw [HN1.out rfl] at P2 hl1
  clear HN1
  have HO3 := hid (show O = (if Lib.hasPrefix r [60, 47] then (endL f (Lib.trimPrefix r [60, 47])).map fun r' => popL f.el r' S cnt full
    else if Lib.hasPrefix r [60] then stepBegin f.bs (Lib.trimPrefix r [60]) (f :: S) cnt full
    else if Lib.index r [60] < 0 then none
    else (unescA (r.take (Lib.index r [60]).toNat)).map fun t => .inl ⟨r.drop (Lib.index r [60]).toNat, f.txt t :: S, cnt, full⟩) from HO2.out)
  clear HO2
  have HT1 := hid (take_x b r [60, 47] sv (cnt : Int) full w2 P2.out.pr)
  obtain ⟨p1, hp1⟩ : ∃ p1, Lib.hasPrefix r [60, 47] = p1 := ⟨_, rfl⟩
  have HN1 := hid (fun (hp : p1 = false) => show Lib.trimPrefix r [60, 47] = r by unfold Lib.trimPrefix; rw [hp1, hp]; rfl)
  have hl1 := trim_len r [60, 47]
  rw [hp1] at HT1 HO3
  clear hp1
  go_wp2_with fail
  refine HT1.out.mono ?_
  rintro e w3 ⟨rfl, hp3, g3⟩
  have P3 := hid (P2.out.step hp3 g3)
  clear hp3 g3 HT1 P2
  cases p1
  rotate_left
  · -- an end
    generalize Lib.trimPrefix r [60, 47] = r1 at *
    have HE := hid (end_x w0 w3 b r1 f S cnt full m P3.out.mat HM.out (HOK.out.rest (by omega)))
    have HN := hid (show O = (endL f r1).map fun r' => popL f.el r' S cnt full from HO3.out)
    rw [← HN.out] at HE
    clear HN HO3
    go_wp2_with fail
    refine HE.out.mono ?_
    rintro e w4 ⟨g4, ⟨hO, rfl⟩ | ⟨y, v, hO, rfl, hout⟩⟩
    · have HN := hid hO
      clear hO
      go_wp2
      ((try simp only [Exit.inBlock, Exit.then]); refine bodyPost_ret (results_tmp2 rfl _ _ _) rfl ?_)
      exact ⟨g4, .inl ⟨HN.out, rfl⟩⟩
    · have HN := hid hO
      have HOUT := hid hout
      clear hO hout
      go_wp2
      ((try simp only [Exit.inBlock, Exit.then]); refine bodyPost_ret (results_tmp2 rfl _ _ _) rfl ?_)
      exact ⟨g4, .inr ⟨_, v, HN.out, rfl, HOUT.out⟩⟩
  rw [HN1.out rfl] at P3 hl1
  clear HN1
  have HO4 := hid (show O = (if Lib.hasPrefix r [60] then stepBegin f.bs (Lib.trimPrefix r [60]) (f :: S) cnt full
    else if Lib.index r [60] < 0 then none
    else (unescA (r.take (Lib.index r [60]).toNat)).map fun t => .inl ⟨r.drop (Lib.index r [60]).toNat, f.txt t :: S, cnt, full⟩) from HO3.out)
  clear HO3
  have HT1 := hid (take_x b r [60] sv (cnt : Int) full w3 P3.out.pr)
  obtain ⟨p1, hp1⟩ : ∃ p1, Lib.hasPrefix r [60] = p1 := ⟨_, rfl⟩
  have HN1 := hid (fun (hp : p1 = false) => show Lib.trimPrefix r [60] = r by unfold Lib.trimPrefix; rw [hp1, hp]; rfl)
  have hl1 := trim_len r [60]
  rw [hp1] at HT1 HO4
  clear hp1
  go_wp2_with fail
  refine HT1.out.mono ?_
  rintro e w4 ⟨rfl, hp4, g4⟩
  have P4 := hid (P3.out.step hp4 g4)
  clear hp4 g4 HT1 P3
  cases p1
  rotate_left
  · -- a beginning
    generalize Lib.trimPrefix r [60] = r1 at *
    have HE := hid (begin_x w0 w4 b r1 (f :: S) cnt full m P4.out.mat HM.out (HOK.out.rest (by omega)))
    have HN := hid (show O = stepBegin (upOf (f :: S)) r1 (f :: S) cnt full from HO4.out)
    rw [← HN.out] at HE
    clear HN HO4
    go_wp2_with fail
    refine HE.out.mono ?_
    rintro e w5 ⟨g5, ⟨hO, rfl⟩ | ⟨y, v, hO, rfl, hout⟩⟩
    · have HN := hid hO
      clear hO
      go_wp2
      ((try simp only [Exit.inBlock, Exit.then]); refine bodyPost_ret (results_tmp2 rfl _ _ _) rfl ?_)
      exact ⟨g5, .inl ⟨HN.out, rfl⟩⟩
    · have HN := hid hO
      have HOUT := hid hout
      clear hO hout
      go_wp2
      ((try simp only [Exit.inBlock, Exit.then]); refine bodyPost_ret (results_tmp2 rfl _ _ _) rfl ?_)
      exact ⟨g5, .inr ⟨_, v, HN.out, rfl, HOUT.out⟩⟩
  rw [HN1.out rfl] at P4 hl1
  clear HN1
  have HO5 := hid (show O = (if Lib.index r [60] < 0 then none
    else (unescA (r.take (Lib.index r [60]).toNat)).map fun t => .inl ⟨r.drop (Lib.index r [60]).toNat, f.txt t :: S, cnt, full⟩) from HO4.out)
  clear HO4
  have HIB := hid (Tryz.strings_IndexByte ⟨r.toArray⟩ 60 w4)
  rw [show (ByteArray.mk r.toArray).data.toList = r from rfl, show (60 : Int).toNat.toUInt8 = 60 from rfl, idxb] at HIB
  have hix := index_le [60] r
  generalize Lib.index r [60] = ix at *
  obtain ⟨c0, -⟩ := P4.out.pr.cells
  go_wp2_with fail
  refine HIB.out.mono ?_
  rintro e w5 ⟨rfl, rfl⟩
  by_cases h0 : ix < 0
  · have HN := hid (show O = none by rw [HO5.out, if_pos h0])
    go_wp2
    ((try simp only [Exit.inBlock, Exit.then]); refine bodyPost_ret (results_tmp2 rfl _ _ _) rfl ?_)
    exact ⟨P4.out.gr, .inl ⟨HN.out, rfl⟩⟩
  · have HN := hid (show O = (unescA (r.take ix.toNat)).map fun t => .inl ⟨r.drop ix.toNat, f.txt t :: S, cnt, full⟩ by rw [HO5.out, if_neg h0])
    obtain ⟨k, rfl⟩ : ∃ k : Nat, ix = k := ⟨ix.toNat, by omega⟩
    have hk := hix.2 (by omega)
    simp only [List.length_cons, List.length_nil] at hk
    have hk1 : (k : Int) ≤ (r.length : Int) := by omega
    rw [show ((k : Nat) : Int).toNat = k by omega] at HN
    have HUN := hid (unescape_x (r.take k) m w5 (P4.out.gr.cell HM.out (by simp)) (by rw [List.length_take]; omega))
    have hul := fun t h => unescA_len4 (s := r.take k) (t := t) h
    have HUL := hid hul
    clear hul hix HO5 h0
    unfold EntPost at HUN
    generalize unescA (r.take k) = U at *
    go_wp2_with fail
    rw [ext_take]
    refine HUN.out.mono ?_
    rintro e w6 ⟨rfl, g6⟩
    have P6 := hid (P4.out.grow g6)
    clear g6 P4 HUN c0
    obtain ⟨c0, -, -, -, f0, -⟩ := P6.out.pr.cells
    have P7 := hid (P6.out.step (P6.out.pr.rest (r.drop k)) (gr_set (gr_refl _ _)))
    have HTP := hid (top_x w0 _ X b _ x l _ P7.out (by simp only [List.length_cons]; omega))
    have hxd : (ByteArray.mk r.toArray).extract k r.length = ⟨(r.drop k).toArray⟩ := ext_drop r k
    have HXD := hid hxd
    clear hxd
    unfold str
    cases U with
    | none =>
      have HNN := hid (show O = none from HN.out)
      simp only [Option.getD_none, Option.isSome_none]
      go_wp2_with fail
      rw [HXD.out]
      refine HTP.out.mono ?_
      rintro e w8 ⟨rfl, n8, rfl⟩
      have P8 := hid (P7.out.grow (gr_drewN n8 (gr_refl _ _)))
      clear P7 HTP P6
      obtain ⟨c5, f5⟩ := P8.out.cell5
      have P9 := hid (P8.out.txt [])
      have hq9 : ¬ 9223372036854775807 < f.tx.length + 0 := by omega
      have hq8 : ¬ 9223372036854775807 < f.tx.length := by omega
      rw [List.append_nil] at P9
      generalize (w6.setCell ⟨b, 0, none⟩ (.string ⟨(r.drop k).toArray⟩)).drewN n8 = w8 at *
      go_wp2
      ((try simp only [Exit.inBlock, Exit.then]); refine bodyPost_ret (results_tmp2 rfl _ _ _) rfl ?_)
      have hx0 : (ByteArray.mk f.tx.toArray) ++ (ByteArray.mk #[]) = ⟨f.tx.toArray⟩ := by simp [ByteArray.ext_iff]
      rw [hx0]
      exact ⟨P9.out.gr, .inl ⟨HNN.out, rfl⟩⟩
    | some t =>
      have HNN := hid (show O = some (.inl ⟨r.drop k, f.txt t :: S, cnt, full⟩) from HN.out)
      have htl := HUL.out t rfl
      rw [List.length_take] at htl
      simp only [Option.getD_some, Option.isSome_some]
      go_wp2_with fail
      rw [HXD.out]
      refine HTP.out.mono ?_
      rintro e w8 ⟨rfl, n8, rfl⟩
      have P8 := hid (P7.out.grow (gr_drewN n8 (gr_refl _ _)))
      clear P7 HTP P6
      obtain ⟨c5, f5⟩ := P8.out.cell5
      have P9 := hid (P8.out.txt t)
      have hq9 : ¬ 9223372036854775807 < f.tx.length + t.length := by omega
      have HX := hid (app_str f.tx t)
      generalize (w6.setCell ⟨b, 0, none⟩ (.string ⟨(r.drop k).toArray⟩)).drewN n8 = w8 at *
      go_wp2
      ((try simp only [Exit.inBlock, Exit.then]); refine bodyPost_ret (results_tmp2 rfl _ _ _) rfl ?_)
      rw [HX.out]
      exact ⟨P9.out.gr, .inr ⟨_, _, HNN.out, rfl, rfl, P9.out.mat⟩⟩
end Go.Proofs.YtmofnoconhgjmaaGreatDoor
/- The parser's document. -/
namespace Go.Proofs.YtmofnoconhgjmaaGreatDoor
open Go.RowKit
set_option linter.unusedVariables false
set_option linter.unusedSimpArgs false

theorem RootAt.step {w0 w w' : World} {b fb : Nat} {e : El} {rest : Bs} {sv : Value} {cnt : Int} {full : Bool} (h : RootAt w0 w b fb e) (hp : PrAt w b rest sv cnt full) (g : w.grownBy w' (some b)) : RootAt w0 w' b fb e := by
  obtain ⟨p, n, av, kv, sp, h1, h2, h3, h4⟩ := h
  have kx : ∀ k, k < w.heap.size → ¬ (k = b ∨ k < w0.heap.size) → w'.heap[k]? = w.heap[k]? := fun k hk hne => g.block k hk (fun e => hne (.inl (by simpa using e)))
  exact ⟨p, n, av, kv, sp, gr_keep g h1 (blk_ne h1 hp (by decide)), h2.same kx, h3.same kx, h4⟩
theorem RootAt.grow {w0 w w' : World} {b fb : Nat} {e : El} (h : RootAt w0 w b fb e) (g : w.grownBy w' none) : RootAt w0 w' b fb e := by
  obtain ⟨p, n, av, kv, sp, h1, h2, h3, h4⟩ := h
  have kx : ∀ k, k < w.heap.size → ¬ (k = b ∨ k < w0.heap.size) → w'.heap[k]? = w.heap[k]? := fun k hk _ => g.block k hk (by simp)
  exact ⟨p, n, av, kv, sp, gr_keep g h1 (by simp), h2.same kx, h3.same kx, h4⟩
/-- What document leaves. -/
def DocPost (w0 : World) (b : Nat) (o : Option (El × Bool)) (e : Ending) (w' : World) : Prop :=
  w0.grownBy w' none ∧ ((o = none ∧ e = .returned (.tuple #[.pointer none, .bool false])) ∨ ∃ el full fb, o = some (el, full) ∧ e = .returned (.tuple #[.pointer (some ⟨fb, 2, none⟩), .bool true]) ∧ RootAt w0 w' b fb el ∧ w'.cell? ⟨b, 3, none⟩ = some (.bool full))
/-- The loop's relation. -/
def DocR (w0 : World) (b : Nat) (R : Option Res) (v6 v7 : Value) (wr : World) : Prop :=
  w0.grownBy wr none ∧ ((R = none ∧ v6 = .pointer none ∧ v7 = .bool false) ∨ (∃ m, v6 = .pointer none ∧ v7 = .bool true ∧ MAt w0 wr b m ∧ m.st ≠ [] ∧ Ma.ok 20000 m ∧ runL (m.r.length + 1) m = R) ∨
    (∃ y fb sv, R = some y ∧ v6 = .pointer (some ⟨fb, 2, none⟩) ∧ v7 = .bool true ∧ PrAt wr b y.2.1 sv (y.2.2.1 : Int) y.2.2.2 ∧ RootAt w0 wr b fb y.1 ∧ y.2.1.length ≤ 20000))
def docMu (v6 v7 : Value) (wr : World) (b : Nat) : Nat := match v6, v7 with
  | .pointer none, .bool true => prJ wr b + 1
  | _, _ => 0
def HeadC (w0 : World) (b : Nat) (r : Bs) (wx : World) : Prop := ∃ r1, docHead r = some r1 ∧ MAt w0 wx b ⟨r1, [], 0, false⟩ ∧ r1.length ≤ r.length
theorem miscA_len {r t : Bs} (h : miscA r = some t) : t.length ≤ r.length := by
  unfold miscA at h
  have : ∀ n r, miscL n r = some t → t.length ≤ r.length := by
    intro n
    induction n with
    | zero => intro r h; cases h
    | succ n ih =>
      intro r h
      unfold miscL at h
      have h1 := trimS_len r
      have h2 := trim_len (Lib.trimLeftS r blkL) noteO
      have h3 := cut_len (Lib.trimPrefix (Lib.trimLeftS r blkL) noteO) noteC
      split at h
      · split at h
        · have := ih _ h; omega
        · cases h
      · cases h; exact h1
  exact this _ r h
set_option maxRecDepth 20000 in
set_option maxHeartbeats 8000000 in
theorem document_x (w0 w : World) (b : Nat) (r : Bs) (m : Int) (h : MAt w0 w b ⟨r, [], 0, false⟩) (hm : w0.cell? ⟨0, 0, none⟩ = some (.int .i64 m)) (hr : r.length ≤ 20000) :
    Calls Tryz.prog 53 #[.pointer (some ⟨b, 0, none⟩)] w (DocPost w0 b (docL r)) := by
  obtain ⟨X, sv, l, hp⟩ := h.parts
  have hm0 : (0 : Nat) < w0.heap.size := lt_of_cell hm
  have hb : b ≠ 0 := by have := hp.lo; omega
  obtain ⟨O, hO⟩ : ∃ O, O = docL r := ⟨_, rfl⟩
  rw [← hO]
  unfold docL docBeg at hO
  have HO := hid hO
  have HP := hid hp
  have HM := hid hm
  have hdh : docHead r = if Lib.hasPrefix r decO then (if (Lib.cut (Lib.trimPrefix r decO) decC).2.2 then some (Lib.cut (Lib.trimPrefix r decO) decC).2.1 else none) else some r := rfl
  have HT1 := hid (take_x b r decO sv ((0 : Nat) : Int) false w hp.pr)
  have hl1 := trim_len r decO
  have HDN := hid (fun (h : docHead r = none) => show O = none by rw [hO, h]; rfl)
  obtain ⟨p1, hp1⟩ : ∃ p1, Lib.hasPrefix r decO = p1 := ⟨_, rfl⟩
  have HN1 := hid (fun (hp : p1 = false) => show Lib.trimPrefix r decO = r by unfold Lib.trimPrefix; rw [hp1, hp]; rfl)
  rw [hp1] at HT1 hdh
  have HDH := hid hdh
  clear h hp hO hm hp1 hdh
  go_enter Tryz.func53, Tryz.ntmps53
  go_wp2_with fail
  refine HT1.out.mono ?_
  rintro e w1 ⟨rfl, hp1, g1⟩
  have P1 := hid (HP.out.step hp1 g1)
  clear hp1 g1 HT1 HP
  go_upto_if 9 with fail
  go_cut [4, 5] (fun v4 v5 wx => HeadC w0 b r wx)
  case first =>
    cases p1
    · rw [HN1.out rfl] at P1
      have hh := hid (show docHead r = some r from HDH.out)
      go_wp2_with fail
      go_meet
      exact ⟨r, hh.out, P1.out.mat, Nat.le_refl _⟩
    · have HU := hid (until_x b (Lib.trimPrefix r decO) decC sv ((0 : Nat) : Int) false m w1 P1.out.pr (P1.out.gr.cell HM.out (by simp)) (by omega))
      have hcl := cut_len (Lib.trimPrefix r decO) decC
      have HDH2 := hid (show docHead r = (if (Lib.cut (Lib.trimPrefix r decO) decC).2.2 then some (Lib.cut (Lib.trimPrefix r decO) decC).2.1 else none) from HDH.out)
      generalize Lib.trimPrefix r decO = r1 at *
      generalize Lib.cut r1 decC = C at *
      obtain ⟨k1, k2, k3⟩ := C
      simp only at hcl
      go_wp2_with fail
      refine HU.out.mono ?_
      rintro e w2 ⟨rfl, hp2, g2⟩
      have P2 := hid (P1.out.step hp2 g2)
      clear hp2 g2 HU
      cases k3
      · have HN := hid (HDN.out HDH2.out)
        go_wp2
        ((try simp only [Exit.inBlock, Exit.then]); refine bodyPost_ret (results_tmp2 rfl _ _ _) rfl ?_)
        exact ⟨P2.out.gr, .inl ⟨HN.out, rfl⟩⟩
      · have hh := hid (show docHead r = some k2 from HDH2.out)
        go_wp2_with fail
        go_meet
        exact ⟨k2, hh.out, P2.out.mat, by omega⟩
  case rest =>
    obtain ⟨r1, hh, hmat, hl2⟩ := hcut
    have HO2 := hid (show O = ((((some r1).bind miscA).bind fun r' => if Lib.hasPrefix r' [60] then some (Lib.trimPrefix r' [60]) else none).bind (rootL xmlB)).bind fun x => if miscA x.2.1 = some [] then some (x.1, x.2.2.2) else none by rw [HO.out, hh])
    obtain ⟨X2, sv2, l2, hp2⟩ := hmat.parts
    have P2 := hid hp2
    have HMI := hid (misc_x b r1 sv2 ((0 : Nat) : Int) false m wc hp2.pr (hp2.gr.cell HM.out (by simp)) hb (by omega))
    clear hh hmat hp2 HO HDH HDN HN1 P1 hl1
    go_wp2_with fail
    refine HMI.out.mono ?_
    rintro e w3 ⟨g3, ⟨t, ht, rfl, hp3⟩ | ⟨ht, rfl, r', hp3⟩⟩
    rotate_left
    · have HN := hid (show O = none by rw [HO2.out, Option.bind_some, ht]; rfl)
      have P3 := hid (P2.out.step hp3 g3)
      clear ht hp3 g3
      go_wp2
      ((try simp only [Exit.inBlock, Exit.then]); refine bodyPost_ret (results_tmp2 rfl _ _ _) rfl ?_)
      exact ⟨P3.out.gr, .inl ⟨HN.out, rfl⟩⟩
    · have htl := miscA_len ht
      have HO3 := hid (show O = ((if Lib.hasPrefix t [60] then some (Lib.trimPrefix t [60]) else none).bind (rootL xmlB)).bind fun x => if miscA x.2.1 = some [] then some (x.1, x.2.2.2) else none by rw [HO2.out, Option.bind_some, ht]; rfl)
      have P3 := hid (P2.out.step hp3 g3)
      clear ht hp3 g3 HMI HO2 P2
      have HT2 := hid (take_x b t [60] sv2 ((0 : Nat) : Int) false w3 P3.out.pr)
      have hl3 := trim_len t [60]
      generalize Lib.hasPrefix t [60] = p2 at *
      generalize Lib.trimPrefix t [60] = r4 at *
      go_wp2_with fail
      refine HT2.out.mono ?_
      rintro e w4 ⟨rfl, hp4, g4⟩
      have P4 := hid (P3.out.step hp4 g4)
      clear hp4 g4 HT2 P3
      cases p2
      · have HN := hid (show O = none from HO3.out)
        go_wp2
        ((try simp only [Exit.inBlock, Exit.then]); refine bodyPost_ret (results_tmp2 rfl _ _ _) rfl ?_)
        exact ⟨P4.out.gr, .inl ⟨HN.out, rfl⟩⟩
      · have hok4 : Ma.ok 20000 ⟨r4, [], 0, false⟩ := ⟨by simp only; omega, by simp [sumK], fun f hf => by cases hf⟩
        have HBG := hid (begin_x w0 w4 b r4 [] 0 false m P4.out.mat HM.out hok4)
        have HSO := hid (fun m' h => stepBegin_ok (up := xmlB) (m := m') hok4 h)
        have HSL := hid (fun x h => stepBegin_len (up := xmlB) (r := r4) (S := []) (cnt := 0) (full := false) (x := x) h)
        obtain ⟨R, hR⟩ : ∃ R, R = rootL xmlB r4 := ⟨_, rfl⟩
        have HR := hid (show R = match stepBegin xmlB r4 [] 0 false with
          | none => none
          | some (.inr x) => some x
          | some (.inl m) => runL (m.r.length + 1) m from hR)
        have HO4 := hid (show O = R.bind fun x => if miscA x.2.1 = some [] then some (x.1, x.2.2.2) else none by rw [HO3.out, hR]; rfl)
        have HB2 : Hid (Calls Tryz.prog 98 #[.pointer (some ⟨b, 0, none⟩)] w4 (StPost w0 b (stepBegin xmlB r4 [] 0 false))) := HBG
        clear hR HO3 HBG hok4
        generalize stepBegin xmlB r4 [] 0 false = SB at *
        go_wp2_with fail
        refine HB2.out.mono ?_
        rintro e w5 ⟨g5, h5⟩
        have HD : Hid (∃ v6 v7, e = .returned (.tuple #[v6, v7]) ∧ DocR w0 b R v6 v7 w5) := by
          rcases h5 with ⟨hS, rfl⟩ | ⟨x, v, hS, rfl, hout⟩
          · exact hid ⟨_, _, rfl, g5, .inl ⟨by rw [HR.out, hS], rfl, rfl⟩⟩
          · cases x with
            | inl m' =>
              obtain ⟨rfl, hmat⟩ := hout
              exact hid ⟨_, _, rfl, g5, .inr (.inl ⟨m', rfl, rfl, hmat, (HSL.out _ hS).2, HSO.out m' hS, by rw [HR.out, hS]⟩)⟩
            | inr y =>
              obtain ⟨fb, sv5, rfl, -, -, hpr, hroot⟩ := hout
              have := HSL.out _ hS
              exact hid ⟨_, _, rfl, g5, .inr (.inr ⟨y, fb, sv5, by rw [HR.out, hS], rfl, rfl, hpr, hroot, by have : y.2.1.length < r4.length := this; omega⟩)⟩
        clear h5 g5 HR HSO HSL HB2
        obtain ⟨v6, v7, rfl, hD⟩ := HD.out
        have HD2 := hid hD
        clear HD hD
        go_wp2_with fail
        go_loopw [6, 7] (fun v6 v7 wr => DocR w0 b R v6 v7 wr) (fun v6 v7 wr => docMu v6 v7 wr b)
        case atStart => exact HD2.out
        case round =>
          obtain ⟨gw, hrel⟩ := hrel
          have GW := hid gw
          clear gw HD2
          rcases hrel with ⟨hRn, rfl, rfl⟩ | ⟨m', rfl, rfl, hmat, hne, hok, hrun⟩ | ⟨y, fb, sv5, hRy, rfl, rfl, hpr, hroot, hyl⟩
          · have HN := hid (show O = none by rw [HO4.out, hRn]; rfl)
            clear hRn HO4
            go_wp2
            ((try simp only [Exit.inBlock, Exit.then]); refine bodyPost_ret (results_tmp2 rfl _ _ _) rfl ?_)
            exact ⟨GW.out, .inl ⟨HN.out, rfl⟩⟩
          · obtain ⟨r5, S5, cnt5, full5⟩ := m'
            cases S5 with
            | nil => exact absurd rfl hne
            | cons f5 S5 =>
              have HC := hid (content_x w0 wr b r5 f5 S5 cnt5 full5 m hmat HM.out hok)
              have HSO := hid (fun m' h => stepL_ok (m := m') hok h)
              have HSL := hid (fun x h => stepL_len (r := r5) (f := f5) (S := S5) (cnt := cnt5) (full := full5) (x := x) h)
              have hr5 := hok.1
              simp only at hr5
              obtain ⟨X5, sv5, l5, hp5⟩ := hmat.parts
              have HPJ := hid (prJ_of hp5.pr)
              simp only at hrun
              rw [runL_step] at hrun
              have HRUN := hid hrun
              clear hrun hmat hok hne hp5
              generalize stepL r5 f5 S5 cnt5 full5 = SL at *
              go_wp2_with fail
              refine HC.out.mono ?_
              rintro e w6 ⟨g6, h6⟩
              have HD : Hid (∃ v6 v7, e = .returned (.tuple #[v6, v7]) ∧ DocR w0 b R v6 v7 w6 ∧ docMu v6 v7 w6 b < docMu (.pointer none) (.bool true) wr b) := by
                have hmu : docMu (.pointer none) (.bool true) wr b = r5.length + 1 := by
                  show prJ wr b + 1 = _; rw [HPJ.out]
                rw [hmu]
                rcases h6 with ⟨hS, rfl⟩ | ⟨x, v, hS, rfl, hout⟩
                · exact hid ⟨_, _, rfl, ⟨g6, .inl ⟨by rw [← HRUN.out, hS]; rfl, rfl, rfl⟩⟩, Nat.succ_pos _⟩
                · cases x with
                  | inl m6 =>
                    obtain ⟨rfl, hmat⟩ := hout
                    obtain ⟨X6, sv6, l6, hp6⟩ := hmat.parts
                    have hl6 := (HSL.out _ hS)
                    refine hid ⟨_, _, rfl, ⟨g6, .inr (.inl ⟨m6, rfl, rfl, hmat, hl6.2, HSO.out m6 hS, by rw [← HRUN.out, hS]; rfl⟩)⟩, ?_⟩
                    show prJ w6 b + 1 < _
                    rw [prJ_of hp6.pr]
                    have := hl6.1
                    omega
                  | inr y =>
                    obtain ⟨fb, sv6, rfl, -, -, hpr, hroot⟩ := hout
                    have : y.2.1.length < r5.length := HSL.out _ hS
                    exact hid ⟨_, _, rfl, ⟨g6, .inr (.inr ⟨y, fb, sv6, by rw [← HRUN.out, hS]; rfl, rfl, rfl, hpr, hroot, by omega⟩)⟩, Nat.succ_pos _⟩
              clear h6 g6 HRUN HSO HSL HC HPJ
              obtain ⟨v6, v7, rfl, hD, hmu⟩ := HD.out
              have HD3 := hid hD
              have HMU := hid hmu
              clear HD hD hmu
              go_wp2
              go_roundw
              case rel => exact HD3.out
              case measure => exact HMU.out
          · obtain ⟨el, ry, cy, fy⟩ := y
            simp only at hpr hroot hyl
            have HO5 := hid (show O = if miscA ry = some [] then some (el, fy) else none by rw [HO4.out, hRy]; rfl)
            have HMI := hid (misc_x b ry sv5 (cy : Int) fy m wr hpr (GW.out.cell HM.out (by simp)) hb (by omega))
            have HPR := hid hpr
            have HROOT := hid hroot
            have hlo := P4.out.lo
            clear hpr hroot hRy HO4
            go_wp2_with fail
            refine HMI.out.mono ?_
            rintro e w6 ⟨g6, ⟨t6, ht, rfl, hp6⟩ | ⟨ht, rfl, r', hp6⟩⟩
            rotate_left
            · have HN := hid (show O = none by rw [HO5.out, ht]; simp)
              have G6 := hid (gr_new GW.out g6 hlo)
              clear ht hp6 g6
              go_wp2
              ((try simp only [Exit.inBlock, Exit.then]); refine bodyPost_ret (results_tmp2 rfl _ _ _) rfl ?_)
              exact ⟨G6.out, .inl ⟨HN.out, rfl⟩⟩
            · have G6 := hid (gr_new GW.out g6 hlo)
              have R6 := hid (HROOT.out.step HPR.out g6)
              have HP6 := hid hp6
              obtain ⟨c0, -, -, c3, -⟩ := hp6.cells
              by_cases h0 : t6 = []
              · have HN := hid (show O = some (el, fy) by rw [HO5.out, ht, h0]; simp)
                have q0 : t6.isEmpty = true := by rw [h0]; rfl
                have q1 : (!t6.isEmpty) = false := by rw [h0]; rfl
                clear ht g6 hp6 h0 HMI HPR HROOT
                go_wp2
                ((try simp only [Exit.inBlock, Exit.then]); refine bodyPost_ret (results_tmp2 rfl _ _ _) rfl ?_)
                exact ⟨G6.out, .inr ⟨el, fy, fb, HN.out, rfl, R6.out, HP6.out.cells.2.2.2.1⟩⟩
              · have HN := hid (show O = none by rw [HO5.out, ht]; simp [h0])
                have q0 : t6.isEmpty = false := by
                  cases t6 with
                  | nil => exact absurd rfl h0
                  | cons _ _ => rfl
                have q1 : (!t6.isEmpty) = true := by rw [q0]; rfl
                clear ht g6 hp6 h0 HMI HPR HROOT
                go_wp2
                ((try simp only [Exit.inBlock, Exit.then]); refine bodyPost_ret (results_tmp2 rfl _ _ _) rfl ?_)
                exact ⟨G6.out, .inl ⟨HN.out, rfl⟩⟩
end Go.Proofs.YtmofnoconhgjmaaGreatDoor
/- xml.Parse. -/
namespace Go.Proofs.YtmofnoconhgjmaaGreatDoor
open Go.RowKit
set_option linter.unusedVariables false
set_option linter.unusedSimpArgs false

/-- An element as a value. -/
def elV (e : El) (av kv : Value) : Value := .agg #[str e.s, str e.n, av, str e.tx, kv]
def ElAt (w : World) (X : Nat → Prop) (v : Value) (e : El) : Prop := ∃ av kv, v = elV e av kv ∧ AtsAt w X av e.ats ∧ KidV w X kv e.kids
def ParsePost (w : World) (x : El × Nat) (e : Ending) (w' : World) : Prop := w.grownBy w' none ∧ ∃ v, e = .returned (.tuple #[v, .int .i64 (x.2 : Int)]) ∧ ElAt w' (fun _ => False) v x.1
theorem zero_at (w : World) (X : Nat → Prop) : ElAt w X (.agg #[.string ⟨#[]⟩, .string ⟨#[]⟩, .slice none 0 0, .string ⟨#[]⟩, .slice none 0 0]) El.zero :=
  ⟨_, _, rfl, ⟨none, 0, rfl, fun i hi => by simp [El.zero] at hi⟩, ⟨none, 0, rfl, fun hl => by simp [El.zero, Fo.len] at hl⟩⟩
def finL (l : Bs) : Option (El × Bool) → El × Nat
  | none => (El.zero, 11)
  | some (e, full) => if !plainB l then (El.zero, 11) else if full then (El.zero, 20) else (e, 0)
theorem parseL_fin {l : Bs} (h : ¬ 8192 < l.length) : parseL l = finL l (docL l) := by
  unfold parseL
  rw [if_neg h]
  cases docL l with
  | none => rfl
  | some x => rfl
theorem mat_new (w : World) (l : Bs) : MAt w (w.alloc (.cells #[.string ⟨l.toArray⟩, .slice none 0 0, .int .i64 0, .bool false] 114)) w.heap.size ⟨l, [], 0, false⟩ :=
  ⟨fun k => k = w.heap.size ∨ k < w.heap.size, .slice none 0 0, [], gr_alloc (gr_refl _ _) _, Nat.le_refl _, heap_alloc_new w _, ⟨rfl, .inl ⟨rfl, rfl⟩⟩, trivial, .inl rfl, (fun k e => by cases e), fun k h => .inr h⟩
set_option maxRecDepth 20000 in
set_option maxHeartbeats 8000000 in
theorem parse_x (w : World) (vb : Value) (l : Bs) (m : Int) (hb : Bytes w vb l) (hm : w.cell? ⟨0, 0, none⟩ = some (.int .i64 m)) (hl : l.length ≤ 20000) :
    Calls Tryz.prog 15 #[vb] w (ParsePost w (parseL l)) := by
  have HB := hid hb
  obtain ⟨a, c, rfl, hc1, hc2, -⟩ := hb
  have HM := hid hm
  obtain ⟨R, hR⟩ : ∃ R, R = parseL l := ⟨_, rfl⟩
  rw [← hR]
  have G1 := hid (gr_alloc (gr_refl w none) (.cells #[.string ⟨#[]⟩, .string ⟨#[]⟩, .slice none 0 0, .string ⟨#[]⟩, .slice none 0 0] 25))
  have N1 := hid (heap_alloc_new w (.cells #[.string ⟨#[]⟩, .string ⟨#[]⟩, .slice none 0 0, .string ⟨#[]⟩, .slice none 0 0] 25))
  by_cases h8 : 8192 < l.length
  · have h8' : (8192 : Int) < (l.length : Int) := by omega
    have HV := hid (show R = (El.zero, 14) by rw [hR]; unfold parseL; rw [if_pos h8])
    clear hR hm
    go_enter Tryz.func15, Tryz.ntmps15
    go_wp2
    refine bodyPost_ret (v := .tuple #[.agg #[.string ⟨#[]⟩, .string ⟨#[]⟩, .slice none 0 0, .string ⟨#[]⟩, .slice none 0 0], .int .i64 14]) (by simp [results, Tryz.results15, go_sem]) rfl ?_
    rw [HV.out]
    exact ⟨by (repeat (first | exact gr_refl _ _ | assumption | refine gr_drew ?_ | refine gr_drewN _ ?_ | refine gr_alloc ?_ _ | refine gr_set ?_ | refine gr_set_new ?_ (by first | omega | (simp; omega)))), _, rfl, zero_at _ _⟩
  · have h8' : ¬ (8192 : Int) < (l.length : Int) := by omega
    have HV := hid (show R = finL l (docL l) by rw [hR, parseL_fin h8])
    clear hR hm
    obtain ⟨w1, hw1⟩ : ∃ w1, w1 = w.alloc (.cells #[.string ⟨#[]⟩, .string ⟨#[]⟩, .slice none 0 0, .string ⟨#[]⟩, .slice none 0 0] 25) := ⟨_, rfl⟩
    have hsz : w.heap.size + 1 = w1.heap.size := by rw [hw1]; simp
    rw [← hw1] at G1 N1
    have HD := hid (document_x w1 _ w1.heap.size l m (mat_new w1 l) (G1.out.cell HM.out (by simp)) hl)
    have HW1 := hid hw1
    have HSZ := hid hsz
    clear hw1 hsz
    go_enter Tryz.func15, Tryz.ntmps15
    go_wp2_with (refine wpl_b2s rfl 30 9 5 _ rfl Tryz.underlying30 Tryz.underlying5 Tryz.underlying9 _ l rfl (HB.out.grown (by rw [← HW1.out]; exact G1.out)) ?_; unfold str)
    rw [HSZ.out, ← HW1.out]
    clear HW1
    refine HD.out.mono ?_
    rintro e w2 ⟨g2, h2⟩
    have G2 := hid (gr_trans G1.out g2)
    have N2 := hid (gr_keep g2 N1.out (by simp))
    have k0 : w2.cell? ⟨w.heap.size, 0, none⟩ = some (.string ⟨#[]⟩) := cell_of_block N2.out 0
    have k1 : w2.cell? ⟨w.heap.size, 1, none⟩ = some (.string ⟨#[]⟩) := cell_of_block N2.out 1
    have k2 : w2.cell? ⟨w.heap.size, 2, none⟩ = some (.slice none 0 0) := cell_of_block N2.out 2
    have k3 : w2.cell? ⟨w.heap.size, 3, none⟩ = some (.string ⟨#[]⟩) := cell_of_block N2.out 3
    have k4 : w2.cell? ⟨w.heap.size, 4, none⟩ = some (.slice none 0 0) := cell_of_block N2.out 4
    have z0 := free_of_block N2.out 0
    have z1 := free_of_block N2.out 1
    have z2 := free_of_block N2.out 2
    have z3 := free_of_block N2.out 3
    have z4 := free_of_block N2.out 4
    generalize docL l = D at *
    rcases h2 with ⟨hD, rfl⟩ | ⟨el, full, fb, hD, rfl, hroot, hfull⟩
    · have HN := hid (show R = (El.zero, 11) by rw [HV.out, hD]; rfl)
      clear hD
      go_wp2
      refine bodyPost_ret (v := .tuple #[.agg #[.string ⟨#[]⟩, .string ⟨#[]⟩, .slice none 0 0, .string ⟨#[]⟩, .slice none 0 0], .int .i64 11]) (by simp [results, Tryz.results15, go_sem, k0, k1, k2, k3, k4]) rfl ?_
      rw [HN.out]
      exact ⟨gr_set_new (gr_set_new (gr_set_new (gr_set_new (gr_set_new G2.out (Nat.le_refl _)) (Nat.le_refl _)) (Nat.le_refl _)) (Nat.le_refl _)) (Nat.le_refl _), _, rfl, zero_at _ _⟩
    · have HV2 := hid (show R = if !plainB l then (El.zero, 11) else if full then (El.zero, 20) else (el, 0) by rw [HV.out, hD]; rfl)
      clear hD HV
      have hpl := hid (fun W => xplain_any ⟨l.toArray⟩ W (by rw [Lib.size_eq]; simp; omega))
      rw [show (ByteArray.mk l.toArray).data.toList = l from rfl] at hpl
      go_wp2_with fail
      rw [run_b2s Tryz.underlying30 Tryz.underlying5 Tryz.underlying9 (HB.out.grown G2.out)]
      unfold str
      go_simp
      go_wp2_with fail
      refine (hpl.out w2).mono ?_
      rintro e w3 ⟨rfl, g3⟩
      have G3 := hid (gr_trans G2.out g3)
      have N3 := hid (gr_keep g3 N2.out (by simp))
      have R3 := hid (hroot.grow g3)
      have c3 := g3.cell hfull (by simp)
      clear k0 k1 k2 k3 k4 z0 z1 z2 z3 z4 g3 hroot hfull N2 hpl
      have k0 : w3.cell? ⟨w.heap.size, 0, none⟩ = some (.string ⟨#[]⟩) := cell_of_block N3.out 0
      have k1 : w3.cell? ⟨w.heap.size, 1, none⟩ = some (.string ⟨#[]⟩) := cell_of_block N3.out 1
      have k2 : w3.cell? ⟨w.heap.size, 2, none⟩ = some (.slice none 0 0) := cell_of_block N3.out 2
      have k3 : w3.cell? ⟨w.heap.size, 3, none⟩ = some (.string ⟨#[]⟩) := cell_of_block N3.out 3
      have k4 : w3.cell? ⟨w.heap.size, 4, none⟩ = some (.slice none 0 0) := cell_of_block N3.out 4
      have z0 := free_of_block N3.out 0
      have z1 := free_of_block N3.out 1
      have z2 := free_of_block N3.out 2
      have z3 := free_of_block N3.out 3
      have z4 := free_of_block N3.out 4
      generalize plainB l = pb at *
      cases pb
      · have HN := hid (show R = (El.zero, 11) by rw [HV2.out]; rfl)
        go_wp2
        refine bodyPost_ret (v := .tuple #[.agg #[.string ⟨#[]⟩, .string ⟨#[]⟩, .slice none 0 0, .string ⟨#[]⟩, .slice none 0 0], .int .i64 11]) (by simp [results, Tryz.results15, go_sem, k0, k1, k2, k3, k4]) rfl ?_
        rw [HN.out]
        exact ⟨gr_set_new (gr_set_new (gr_set_new (gr_set_new (gr_set_new G3.out (Nat.le_refl _)) (Nat.le_refl _)) (Nat.le_refl _)) (Nat.le_refl _)) (Nat.le_refl _), _, rfl, zero_at _ _⟩
      · cases full
        rotate_left
        · have HN := hid (show R = (El.zero, 20) by rw [HV2.out]; rfl)
          go_wp2
          refine bodyPost_ret (v := .tuple #[.agg #[.string ⟨#[]⟩, .string ⟨#[]⟩, .slice none 0 0, .string ⟨#[]⟩, .slice none 0 0], .int .i64 20]) (by simp [results, Tryz.results15, go_sem, k0, k1, k2, k3, k4]) rfl ?_
          rw [HN.out]
          exact ⟨gr_set_new (gr_set_new (gr_set_new (gr_set_new (gr_set_new G3.out (Nat.le_refl _)) (Nat.le_refl _)) (Nat.le_refl _)) (Nat.le_refl _)) (Nat.le_refl _), _, rfl, zero_at _ _⟩
        · have HN := hid (show R = (el, 0) by rw [HV2.out]; rfl)
          obtain ⟨p, n, av, kv, sp, hB, hA, hK, hfb⟩ := R3.out
          obtain ⟨-, -, s2, s3, s4, s5, s6, -⟩ := hB.cells
          have hX : ∀ k, k < w3.heap.size → ¬ (k = w1.heap.size ∨ k < w1.heap.size) → (((((w3.setCell ⟨w.heap.size, 0, none⟩ (.string ⟨el.s.toArray⟩)).setCell ⟨w.heap.size, 1, none⟩ (.string ⟨el.n.toArray⟩)).setCell ⟨w.heap.size, 2, none⟩ av).setCell ⟨w.heap.size, 3, none⟩ (.string ⟨el.tx.toArray⟩)).setCell ⟨w.heap.size, 4, none⟩ kv).heap[k]? = w3.heap[k]? := fun k h1 h2 =>
            (gr_set (gr_set (gr_set (gr_set (gr_set (gr_refl w3 (some w.heap.size)))))) : w3.grownBy (((((w3.setCell ⟨w.heap.size, 0, none⟩ (.string ⟨el.s.toArray⟩)).setCell ⟨w.heap.size, 1, none⟩ (.string ⟨el.n.toArray⟩)).setCell ⟨w.heap.size, 2, none⟩ av).setCell ⟨w.heap.size, 3, none⟩ (.string ⟨el.tx.toArray⟩)).setCell ⟨w.heap.size, 4, none⟩ kv) (some w.heap.size)).block k h1 (fun e => by
              have e' : k = w.heap.size := by simpa using e
              have := HSZ.out
              exact h2 (.inr (by omega)))
          have HA := hid ((hA.same hX).less (X' := fun _ => False) (fun _ _ h => h.elim))
          have HK := hid ((hK.same hX).less (X' := fun _ => False) (fun _ _ h => h.elim))
          obtain ⟨aa, ac, hav, -⟩ := hA
          obtain ⟨ka, kc, hkv, -⟩ := hK
          subst hav hkv
          clear hX hB
          go_wp2
          refine bodyPost_ret (v := .tuple #[.agg #[.string ⟨el.s.toArray⟩, .string ⟨el.n.toArray⟩, .slice aa el.ats.length ac, .string ⟨el.tx.toArray⟩, .slice ka el.kids.len kc], .int .i64 0]) (by simp [results, Tryz.results15, go_sem, k0, k1, k2, k3, k4]) rfl ?_
          rw [HN.out]
          exact ⟨gr_set_new (gr_set_new (gr_set_new (gr_set_new (gr_set_new G3.out (Nat.le_refl _)) (Nat.le_refl _)) (Nat.le_refl _)) (Nat.le_refl _)) (Nat.le_refl _), _, rfl, _, _, rfl, HA.out, HK.out⟩
end Go.Proofs.YtmofnoconhgjmaaGreatDoor
/- xml.Parse: its tree lies in memory that is new. -/
namespace Go.Proofs.YtmofnoconhgjmaaGreatDoor
open Go.RowKit
set_option linter.unusedVariables false
set_option linter.unusedSimpArgs false

def ParseQ (w : World) (x : El × Nat) (e : Ending) (w' : World) : Prop := w.grownBy w' none ∧ ∃ v, e = .returned (.tuple #[v, .int .i64 (x.2 : Int)]) ∧ ElAt w' (fun k => k < w.heap.size) v x.1
set_option maxRecDepth 20000 in
set_option maxHeartbeats 8000000 in
theorem parse_q (w : World) (vb : Value) (l : Bs) (m : Int) (hb : Bytes w vb l) (hm : w.cell? ⟨0, 0, none⟩ = some (.int .i64 m)) (hl : l.length ≤ 20000) :
    Calls Tryz.prog 15 #[vb] w (ParseQ w (parseL l)) := by
  have HB := hid hb
  obtain ⟨a, c, rfl, hc1, hc2, -⟩ := hb
  have HM := hid hm
  obtain ⟨R, hR⟩ : ∃ R, R = parseL l := ⟨_, rfl⟩
  rw [← hR]
  have G1 := hid (gr_alloc (gr_refl w none) (.cells #[.string ⟨#[]⟩, .string ⟨#[]⟩, .slice none 0 0, .string ⟨#[]⟩, .slice none 0 0] 25))
  have N1 := hid (heap_alloc_new w (.cells #[.string ⟨#[]⟩, .string ⟨#[]⟩, .slice none 0 0, .string ⟨#[]⟩, .slice none 0 0] 25))
  by_cases h8 : 8192 < l.length
  · have h8' : (8192 : Int) < (l.length : Int) := by omega
    have HV := hid (show R = (El.zero, 14) by rw [hR]; unfold parseL; rw [if_pos h8])
    clear hR hm
    go_enter Tryz.func15, Tryz.ntmps15
    go_wp2
    refine bodyPost_ret (v := .tuple #[.agg #[.string ⟨#[]⟩, .string ⟨#[]⟩, .slice none 0 0, .string ⟨#[]⟩, .slice none 0 0], .int .i64 14]) (by simp [results, Tryz.results15, go_sem]) rfl ?_
    rw [HV.out]
    exact ⟨by (repeat (first | exact gr_refl _ _ | assumption | refine gr_drew ?_ | refine gr_drewN _ ?_ | refine gr_alloc ?_ _ | refine gr_set ?_ | refine gr_set_new ?_ (by first | omega | (simp; omega)))), _, rfl, zero_at _ _⟩
  · have h8' : ¬ (8192 : Int) < (l.length : Int) := by omega
    have HV := hid (show R = finL l (docL l) by rw [hR, parseL_fin h8])
    clear hR hm
    obtain ⟨w1, hw1⟩ : ∃ w1, w1 = w.alloc (.cells #[.string ⟨#[]⟩, .string ⟨#[]⟩, .slice none 0 0, .string ⟨#[]⟩, .slice none 0 0] 25) := ⟨_, rfl⟩
    have hsz : w.heap.size + 1 = w1.heap.size := by rw [hw1]; simp
    rw [← hw1] at G1 N1
    have HD := hid (document_x w1 _ w1.heap.size l m (mat_new w1 l) (G1.out.cell HM.out (by simp)) hl)
    have HW1 := hid hw1
    have HSZ := hid hsz
    clear hw1 hsz
    go_enter Tryz.func15, Tryz.ntmps15
    go_wp2_with (refine wpl_b2s rfl 30 9 5 _ rfl Tryz.underlying30 Tryz.underlying5 Tryz.underlying9 _ l rfl (HB.out.grown (by rw [← HW1.out]; exact G1.out)) ?_; unfold str)
    rw [HSZ.out, ← HW1.out]
    clear HW1
    refine HD.out.mono ?_
    rintro e w2 ⟨g2, h2⟩
    have G2 := hid (gr_trans G1.out g2)
    have N2 := hid (gr_keep g2 N1.out (by simp))
    have k0 : w2.cell? ⟨w.heap.size, 0, none⟩ = some (.string ⟨#[]⟩) := cell_of_block N2.out 0
    have k1 : w2.cell? ⟨w.heap.size, 1, none⟩ = some (.string ⟨#[]⟩) := cell_of_block N2.out 1
    have k2 : w2.cell? ⟨w.heap.size, 2, none⟩ = some (.slice none 0 0) := cell_of_block N2.out 2
    have k3 : w2.cell? ⟨w.heap.size, 3, none⟩ = some (.string ⟨#[]⟩) := cell_of_block N2.out 3
    have k4 : w2.cell? ⟨w.heap.size, 4, none⟩ = some (.slice none 0 0) := cell_of_block N2.out 4
    have z0 := free_of_block N2.out 0
    have z1 := free_of_block N2.out 1
    have z2 := free_of_block N2.out 2
    have z3 := free_of_block N2.out 3
    have z4 := free_of_block N2.out 4
    generalize docL l = D at *
    rcases h2 with ⟨hD, rfl⟩ | ⟨el, full, fb, hD, rfl, hroot, hfull⟩
    · have HN := hid (show R = (El.zero, 11) by rw [HV.out, hD]; rfl)
      clear hD
      go_wp2
      refine bodyPost_ret (v := .tuple #[.agg #[.string ⟨#[]⟩, .string ⟨#[]⟩, .slice none 0 0, .string ⟨#[]⟩, .slice none 0 0], .int .i64 11]) (by simp [results, Tryz.results15, go_sem, k0, k1, k2, k3, k4]) rfl ?_
      rw [HN.out]
      exact ⟨gr_set_new (gr_set_new (gr_set_new (gr_set_new (gr_set_new G2.out (Nat.le_refl _)) (Nat.le_refl _)) (Nat.le_refl _)) (Nat.le_refl _)) (Nat.le_refl _), _, rfl, zero_at _ _⟩
    · have HV2 := hid (show R = if !plainB l then (El.zero, 11) else if full then (El.zero, 20) else (el, 0) by rw [HV.out, hD]; rfl)
      clear hD HV
      have hpl := hid (fun W => xplain_any ⟨l.toArray⟩ W (by rw [Lib.size_eq]; simp; omega))
      rw [show (ByteArray.mk l.toArray).data.toList = l from rfl] at hpl
      go_wp2_with fail
      rw [run_b2s Tryz.underlying30 Tryz.underlying5 Tryz.underlying9 (HB.out.grown G2.out)]
      unfold str
      go_simp
      go_wp2_with fail
      refine (hpl.out w2).mono ?_
      rintro e w3 ⟨rfl, g3⟩
      have G3 := hid (gr_trans G2.out g3)
      have N3 := hid (gr_keep g3 N2.out (by simp))
      have R3 := hid (hroot.grow g3)
      have c3 := g3.cell hfull (by simp)
      clear k0 k1 k2 k3 k4 z0 z1 z2 z3 z4 g3 hroot hfull N2 hpl
      have k0 : w3.cell? ⟨w.heap.size, 0, none⟩ = some (.string ⟨#[]⟩) := cell_of_block N3.out 0
      have k1 : w3.cell? ⟨w.heap.size, 1, none⟩ = some (.string ⟨#[]⟩) := cell_of_block N3.out 1
      have k2 : w3.cell? ⟨w.heap.size, 2, none⟩ = some (.slice none 0 0) := cell_of_block N3.out 2
      have k3 : w3.cell? ⟨w.heap.size, 3, none⟩ = some (.string ⟨#[]⟩) := cell_of_block N3.out 3
      have k4 : w3.cell? ⟨w.heap.size, 4, none⟩ = some (.slice none 0 0) := cell_of_block N3.out 4
      have z0 := free_of_block N3.out 0
      have z1 := free_of_block N3.out 1
      have z2 := free_of_block N3.out 2
      have z3 := free_of_block N3.out 3
      have z4 := free_of_block N3.out 4
      generalize plainB l = pb at *
      cases pb
      · have HN := hid (show R = (El.zero, 11) by rw [HV2.out]; rfl)
        go_wp2
        refine bodyPost_ret (v := .tuple #[.agg #[.string ⟨#[]⟩, .string ⟨#[]⟩, .slice none 0 0, .string ⟨#[]⟩, .slice none 0 0], .int .i64 11]) (by simp [results, Tryz.results15, go_sem, k0, k1, k2, k3, k4]) rfl ?_
        rw [HN.out]
        exact ⟨gr_set_new (gr_set_new (gr_set_new (gr_set_new (gr_set_new G3.out (Nat.le_refl _)) (Nat.le_refl _)) (Nat.le_refl _)) (Nat.le_refl _)) (Nat.le_refl _), _, rfl, zero_at _ _⟩
      · cases full
        rotate_left
        · have HN := hid (show R = (El.zero, 20) by rw [HV2.out]; rfl)
          go_wp2
          refine bodyPost_ret (v := .tuple #[.agg #[.string ⟨#[]⟩, .string ⟨#[]⟩, .slice none 0 0, .string ⟨#[]⟩, .slice none 0 0], .int .i64 20]) (by simp [results, Tryz.results15, go_sem, k0, k1, k2, k3, k4]) rfl ?_
          rw [HN.out]
          exact ⟨gr_set_new (gr_set_new (gr_set_new (gr_set_new (gr_set_new G3.out (Nat.le_refl _)) (Nat.le_refl _)) (Nat.le_refl _)) (Nat.le_refl _)) (Nat.le_refl _), _, rfl, zero_at _ _⟩
        · have HN := hid (show R = (el, 0) by rw [HV2.out]; rfl)
          obtain ⟨p, n, av, kv, sp, hB, hA, hK, hfb⟩ := R3.out
          obtain ⟨-, -, s2, s3, s4, s5, s6, -⟩ := hB.cells
          have hX : ∀ k, k < w3.heap.size → ¬ (k = w1.heap.size ∨ k < w1.heap.size) → (((((w3.setCell ⟨w.heap.size, 0, none⟩ (.string ⟨el.s.toArray⟩)).setCell ⟨w.heap.size, 1, none⟩ (.string ⟨el.n.toArray⟩)).setCell ⟨w.heap.size, 2, none⟩ av).setCell ⟨w.heap.size, 3, none⟩ (.string ⟨el.tx.toArray⟩)).setCell ⟨w.heap.size, 4, none⟩ kv).heap[k]? = w3.heap[k]? := fun k h1 h2 =>
            (gr_set (gr_set (gr_set (gr_set (gr_set (gr_refl w3 (some w.heap.size)))))) : w3.grownBy (((((w3.setCell ⟨w.heap.size, 0, none⟩ (.string ⟨el.s.toArray⟩)).setCell ⟨w.heap.size, 1, none⟩ (.string ⟨el.n.toArray⟩)).setCell ⟨w.heap.size, 2, none⟩ av).setCell ⟨w.heap.size, 3, none⟩ (.string ⟨el.tx.toArray⟩)).setCell ⟨w.heap.size, 4, none⟩ kv) (some w.heap.size)).block k h1 (fun e => by
              have e' : k = w.heap.size := by simpa using e
              have := HSZ.out
              exact h2 (.inr (by omega)))
          have HA := hid ((hA.same hX).less (X' := fun k => k < w.heap.size) (fun k _ h => .inr (by have := HSZ.out; omega)))
          have HK := hid ((hK.same hX).less (X' := fun k => k < w.heap.size) (fun k _ h => .inr (by have := HSZ.out; omega)))
          obtain ⟨aa, ac, hav, -⟩ := hA
          obtain ⟨ka, kc, hkv, -⟩ := hK
          subst hav hkv
          clear hX hB
          go_wp2
          refine bodyPost_ret (v := .tuple #[.agg #[.string ⟨el.s.toArray⟩, .string ⟨el.n.toArray⟩, .slice aa el.ats.length ac, .string ⟨el.tx.toArray⟩, .slice ka el.kids.len kc], .int .i64 0]) (by simp [results, Tryz.results15, go_sem, k0, k1, k2, k3, k4]) rfl ?_
          rw [HN.out]
          exact ⟨gr_set_new (gr_set_new (gr_set_new (gr_set_new (gr_set_new G3.out (Nat.le_refl _)) (Nat.le_refl _)) (Nat.le_refl _)) (Nat.le_refl _)) (Nat.le_refl _), _, rfl, _, _, rfl, HA.out, HK.out⟩
end Go.Proofs.YtmofnoconhgjmaaGreatDoor
