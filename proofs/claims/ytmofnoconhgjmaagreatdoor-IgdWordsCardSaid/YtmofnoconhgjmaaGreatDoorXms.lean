/- The parser's end. -/
import Derived.Test.YtmofnoconhgjmaaGreatDoorMQ
import Derived.Deep.QuietTactic
import Derived.BigQuiet
namespace Go.Proofs.YtmofnoconhgjmaaGreatDoor
open Go.RowKit
set_option linter.unusedVariables false
set_option linter.unusedSimpArgs false

/-- What the test at an element's end tells. -/
def EndC (w0 : World) (b : Nat) (o : Option Bs) (f : Fr) (S : List Fr) (cnt : Nat) (full : Bool) (v : Value) (wx : World) : Prop :=
  w0.grownBy wx none ∧ ((v = .bool true ∧ o = none) ∨ ∃ r', v = .bool false ∧ o = some r' ∧ MAt w0 wx b ⟨r', f :: S, cnt, full⟩)
set_option maxRecDepth 20000 in
set_option maxHeartbeats 8000000 in
theorem end_x (w0 w : World) (b : Nat) (r : Bs) (f : Fr) (S : List Fr) (cnt : Nat) (full : Bool) (m : Int) (h : MAt w0 w b ⟨r, f :: S, cnt, full⟩) (hm : w0.cell? ⟨0, 0, none⟩ = some (.int .i64 m)) (hok : Ma.ok 20000 ⟨r, f :: S, cnt, full⟩) :
    Calls Tryz.prog 162 #[.pointer (some ⟨b, 0, none⟩)] w (StPost w0 b ((endL f r).map fun r' => popL f.el r' S cnt full)) := by
  obtain ⟨X, sv, l, hp⟩ := h.parts
  obtain ⟨x, l, rfl⟩ : ∃ x l', l = x :: l' := by
    cases l with
    | nil => exact hp.frs.elim
    | cons x l => exact ⟨x, l, rfl⟩
  have hlr := hok.1
  have hls := hok.2.1
  simp only [sumK, List.length_cons] at hlr hls
  have hfl := fullL_len r
  have HF := hid (full_x b r sv (cnt : Int) full w hp.pr (by omega))
  have HO := hid (show endL f r = if (fullL r).1.2.2 && decide ((fullL r).1.1 = f.p) && decide ((fullL r).1.2.1 = f.n) && Lib.hasPrefix (Lib.trimLeftS (fullL r).2 blkL) [62] then some (Lib.trimPrefix (Lib.trimLeftS (fullL r).2 blkL) [62]) else none from rfl)
  generalize endL f r = O at *
  generalize fullL r = F at *
  obtain ⟨⟨f1, f2, f3⟩, f4⟩ := F
  simp only at hfl HO
  have HP := hid hp
  have HOK := hid hok
  clear h hp hok hm
  go_enter Tryz.func162, Tryz.ntmps162
  go_wp2_with fail
  refine HF.out.mono ?_
  rintro e w1 ⟨rfl, hp1, g1⟩
  have P1 := hid ((HP.out.step hp1 g1).grow (gr_alloc (gr_refl _ none) (.cells #[.string ⟨f1.toArray⟩, .string ⟨f2.toArray⟩] 237)))
  have N1 := hid (heap_alloc_new w1 (.cells #[.string ⟨f1.toArray⟩, .string ⟨f2.toArray⟩] 237))
  clear hp1 g1 HF
  unfold str
  obtain ⟨w2, hw2⟩ : ∃ w2, w2 = w1.alloc (.cells #[.string ⟨f1.toArray⟩, .string ⟨f2.toArray⟩] 237) := ⟨_, rfl⟩
  rw [← hw2] at P1 N1
  have HB := hid (blank_x b f4 sv (cnt : Int) full w2 P1.out.pr (by omega))
  have hrl := trimS_len f4
  generalize Lib.trimLeftS f4 blkL = r2 at *
  go_wp2_with fail
  rw [← hw2]
  clear hw2
  refine HB.out.mono ?_
  rintro e w3 ⟨rfl, hp3, g3⟩
  have P3 := hid (P1.out.step hp3 g3)
  have N3 : Hid (FuAt w3 w1.heap.size f1 f2) := hid (gr_keep g3 N1.out (blk_ne N1.out P1.out.pr (by decide)))
  clear hp3 g3 P1 N1 HB
  generalize w1.heap.size = fn at *
  obtain ⟨n0, n1, -, -⟩ := N3.out.cells
  obtain ⟨⟨av5, sp5, hB5, -, -⟩, -⟩ := P3.out.frs.1
  obtain ⟨b0, b1, -⟩ := hB5.cells
  have HT := hid (fun W (g : w3.grownBy W none) => top_x w0 W X b _ x l _ (P3.out.grow g) (by simp only [List.length_cons]; omega))
  have HK := hid (fun W (g : w3.grownBy W none) => take_x b r2 [62] sv (cnt : Int) full W (P3.out.pr.grow g))
  have HR := hid (fun (o : Bool) (r' : Bs) => show Lib.trimPrefix r2 [62] = r2 ∨ True from .inr trivial)
  have c1 := hid (fun W r' (g : w3.grownBy W (some b)) (hp : PrAt W b r' sv (cnt : Int) full) => (P3.out.step hp g).mat)
  have HTQ := hid (fun (k : Nat) (g : w3.grownBy (w3.drewN k) none) => Calls.quiet_of (top_x w0 (w3.drewN k) X b _ x l _ (P3.out.grow g) (by simp only [List.length_cons]; omega)))
  clear hB5 HR
  go_upto_region 3 with fail
  go_cut [28] (fun v28 wx => EndC w0 b O f S cnt full v28 wx)
  case first =>
    cases f3
    · have HN := hid (show O = none from HO.out)
      clear HO
      go_quiet (fail)
      go_wp2_with fail
      go_meet
      exact ⟨gr_trans P3.out.gr (by (repeat (first | exact gr_refl _ _ | assumption | refine gr_drew ?_ | refine gr_drewN _ ?_ | refine gr_alloc ?_ _ | refine gr_set ?_ | refine gr_set_new ?_ (by first | omega | (simp; omega))))), .inl ⟨rfl, HN.out⟩⟩
    · by_cases hp1 : f1 = f.p
      · by_cases hp2 : f2 = f.n
        · have q1 : (f1 == f.p) = true := by rw [beq_dec, decide_eq_true hp1]
          have q2 : (f2 == f.n) = true := by rw [beq_dec, decide_eq_true hp2]
          have HO2 := hid (show O = if Lib.hasPrefix r2 [62] then some (Lib.trimPrefix r2 [62]) else none by rw [HO.out, decide_eq_true hp1, decide_eq_true hp2]; simp)
          clear hp1 hp2 HO
          obtain ⟨p2, hp2⟩ : ∃ p2, p2 = Lib.hasPrefix r2 [62] := ⟨_, rfl⟩
          rw [← hp2] at HK HO2
          have HP2 := hid hp2
          clear hp2
          cases p2
          · have HN := hid (show O = none from HO2.out)
            go_region_with (first | (go_at_call 159; refine (HT.out _ (by (repeat (first | exact gr_refl _ _ | assumption | refine gr_drew ?_ | refine gr_drewN _ ?_ | refine gr_alloc ?_ _ | refine gr_set ?_ | refine gr_set_new ?_ (by first | omega | (simp; omega)))))).mono ?_; rintro e w' ⟨rfl, n, rfl⟩) | (go_at_call 95; refine (HK.out _ (by (repeat (first | exact gr_refl _ _ | assumption | refine gr_drew ?_ | refine gr_drewN _ ?_ | refine gr_alloc ?_ _ | refine gr_set ?_ | refine gr_set_new ?_ (by first | omega | (simp; omega)))))).mono ?_; rintro e w' ⟨rfl, hpw, gw⟩))
            all_goals
              go_wp2_with fail
              go_meet
              have G := gr_new (gr_trans P3.out.gr (by (repeat (first | exact gr_refl _ _ | assumption | refine gr_drew ?_ | refine gr_drewN _ ?_ | refine gr_alloc ?_ _ | refine gr_set ?_ | refine gr_set_new ?_ (by first | omega | (simp; omega)))))) gw P3.out.lo
              exact ⟨by (repeat (first | exact gr_refl _ _ | assumption | refine gr_drew ?_ | refine gr_drewN _ ?_ | refine gr_alloc ?_ _ | refine gr_set ?_ | refine gr_set_new ?_ (by first | omega | (simp; omega)))), .inl ⟨rfl, HN.out⟩⟩
          · have HN := hid (show O = some (Lib.trimPrefix r2 [62]) from HO2.out)
            go_region_with (first | (go_at_call 159; refine (HT.out _ (by (repeat (first | exact gr_refl _ _ | assumption | refine gr_drew ?_ | refine gr_drewN _ ?_ | refine gr_alloc ?_ _ | refine gr_set ?_ | refine gr_set_new ?_ (by first | omega | (simp; omega)))))).mono ?_; rintro e w' ⟨rfl, n, rfl⟩) | (go_at_call 95; refine (HK.out _ (by (repeat (first | exact gr_refl _ _ | assumption | refine gr_drew ?_ | refine gr_drewN _ ?_ | refine gr_alloc ?_ _ | refine gr_set ?_ | refine gr_set_new ?_ (by first | omega | (simp; omega)))))).mono ?_; rintro e w' ⟨rfl, hpw, gw⟩))
            all_goals
              go_wp2_with fail
              go_meet
              have M := (P3.out.grow (by (repeat (first | exact gr_refl _ _ | assumption | refine gr_drew ?_ | refine gr_drewN _ ?_ | refine gr_alloc ?_ _ | refine gr_set ?_ | refine gr_set_new ?_ (by first | omega | (simp; omega)))))).step hpw gw
              exact ⟨(M.grow (by (repeat (first | exact gr_refl _ _ | assumption | refine gr_drew ?_ | refine gr_drewN _ ?_ | refine gr_alloc ?_ _ | refine gr_set ?_ | refine gr_set_new ?_ (by first | omega | (simp; omega)))))).gr, .inr ⟨_, rfl, HN.out, (M.grow (by (repeat (first | exact gr_refl _ _ | assumption | refine gr_drew ?_ | refine gr_drewN _ ?_ | refine gr_alloc ?_ _ | refine gr_set ?_ | refine gr_set_new ?_ (by first | omega | (simp; omega)))))).mat⟩⟩
        · have q2 : (f2 == f.n) = false := by rw [beq_dec, decide_eq_false hp2]
          have q1 : (f1 == f.p) = true := by rw [beq_dec, decide_eq_true hp1]
          have HN := hid (show O = none by rw [HO.out, decide_eq_false hp2]; simp)
          clear hp1 hp2 HO
          go_quiet ((go_at_call 159; exact HTQ.out _ (by (repeat (first | exact gr_refl _ _ | assumption | refine gr_drew ?_ | refine gr_drewN _ ?_ | refine gr_alloc ?_ _ | refine gr_set ?_ | refine gr_set_new ?_ (by first | omega | (simp; omega)))))))
          go_wp2_with fail
          go_meet
          exact ⟨gr_trans P3.out.gr (by (repeat (first | exact gr_refl _ _ | assumption | refine gr_drew ?_ | refine gr_drewN _ ?_ | refine gr_alloc ?_ _ | refine gr_set ?_ | refine gr_set_new ?_ (by first | omega | (simp; omega))))), .inl ⟨rfl, HN.out⟩⟩
      · have q1 : (f1 == f.p) = false := by rw [beq_dec, decide_eq_false hp1]
        have HN := hid (show O = none by rw [HO.out, decide_eq_false hp1]; simp)
        clear hp1 HO
        go_quiet ((go_at_call 159; exact HTQ.out _ (by (repeat (first | exact gr_refl _ _ | assumption | refine gr_drew ?_ | refine gr_drewN _ ?_ | refine gr_alloc ?_ _ | refine gr_set ?_ | refine gr_set_new ?_ (by first | omega | (simp; omega)))))))
        go_wp2_with fail
        go_meet
        exact ⟨gr_trans P3.out.gr (by (repeat (first | exact gr_refl _ _ | assumption | refine gr_drew ?_ | refine gr_drewN _ ?_ | refine gr_alloc ?_ _ | refine gr_set ?_ | refine gr_set_new ?_ (by first | omega | (simp; omega))))), .inl ⟨rfl, HN.out⟩⟩
  case rest =>
    obtain ⟨G4, h4⟩ := hcut
    rcases h4 with ⟨rfl, hO⟩ | ⟨r', rfl, hO, hmat⟩
    · have HN := hid (show (O.map fun r' => popL f.el r' S cnt full) = none by rw [hO]; rfl)
      clear hO
      go_wp2
      ((try simp only [Exit.inBlock, Exit.then]); refine bodyPost_ret (results_tmp2 rfl _ _ _) rfl ?_)
      exact ⟨G4, .inl ⟨HN.out, rfl⟩⟩
    · have HN := hid (show (O.map fun r' => popL f.el r' S cnt full) = some (popL f.el r' S cnt full) by rw [hO]; rfl)
      have HPO := hid (pop_x w0 wc b r' f S cnt full hmat (by omega) (fun g hg => by have := sumK_mem hg; omega))
      clear hO hmat
      go_wp2_with fail
      refine HPO.out.mono ?_
      rintro e w11 ⟨v, rfl, hout⟩
      have HOUT := hid hout
      clear hout
      go_wp2
      ((try simp only [Exit.inBlock, Exit.then]); refine bodyPost_ret (results_tmp2 rfl _ _ _) rfl ?_)
      exact ⟨HOUT.out.gr, .inr ⟨_, v, HN.out, rfl, HOUT.out⟩⟩
end Go.Proofs.YtmofnoconhgjmaaGreatDoor
