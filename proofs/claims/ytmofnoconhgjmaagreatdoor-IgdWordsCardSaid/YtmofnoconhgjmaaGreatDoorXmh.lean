/- The parser's attrs. -/
import Derived.Test.YtmofnoconhgjmaaGreatDoorXmg
import Derived.Test.YtmofnoconhgjmaaGreatDoorMD
namespace Go.Proofs.YtmofnoconhgjmaaGreatDoor
open Go.RowKit
set_option linter.unusedVariables false
set_option linter.unusedSimpArgs false

/-- The cells of a row of attributes. -/
def tri (l : List At) : List Value := l.flatMap fun a => [str a.1, str a.2.1, str a.2.2]
theorem tri_len (l : List At) : (tri l).length = l.length * 3 := by
  induction l with
  | nil => rfl
  | cons a l ih => unfold tri at ih ⊢; rw [List.flatMap_cons, List.length_append, ih, List.length_cons]; simp only [List.length_cons, List.length_nil]; omega
theorem tri_snoc (l : List At) (a : At) : tri (l ++ [a]) = tri l ++ [str a.1, str a.2.1, str a.2.2] := by
  unfold tri; rw [List.flatMap_append]; rfl
def at0 : At := ([], [], [])
theorem tri_get (l : List At) : ∀ (i : Nat), i < l.length → (tri l)[i * 3]? = some (str (l.getD i at0).1) ∧ (tri l)[i * 3 + 1]? = some (str (l.getD i at0).2.1) ∧ (tri l)[i * 3 + 2]? = some (str (l.getD i at0).2.2) := by
  induction l with
  | nil => intro i hi; simp at hi
  | cons a l ih =>
    intro i hi
    cases i with
    | zero => exact ⟨rfl, rfl, rfl⟩
    | succ i =>
      have := ih i (by simpa using hi)
      rw [show (i + 1) * 3 = i * 3 + 3 by omega, show i * 3 + 3 + 1 = i * 3 + 1 + 3 by omega, show i * 3 + 3 + 2 = i * 3 + 2 + 3 by omega]
      exact this
/-- Three strings in memory. -/
structure TriAt (w : World) (b o : Nat) (a : At) : Prop where
  c0 : w.cell? ⟨b, o, none⟩ = some (.string ⟨a.1.toArray⟩)
  c1 : w.cell? ⟨b, o + 1, none⟩ = some (.string ⟨a.2.1.toArray⟩)
  c2 : w.cell? ⟨b, o + 2, none⟩ = some (.string ⟨a.2.2.toArray⟩)
theorem own_tri {w : World} {base : Nat} {e : TypeId} {v : Value} {n : Nat} {l : List At} (h : w.ownsRow base e 3 v n (tri l)) (hp : 0 < n) :
    ∃ g cap, v = .slice (some ⟨g, 0, none⟩) n cap ∧ base ≤ g ∧ g < w.heap.size ∧ n ≤ cap ∧ n = l.length ∧ ∀ i, i < n → TriAt w g (i * 3) (l.getD i at0) := by
  have hl := h.1
  rw [tri_len] at hl
  rcases h.2 with ⟨rfl, h0⟩ | ⟨g, cap, cur, rfl, hg, hh, hc, hm, hs, ht⟩
  · omega
  · refine ⟨g, cap, rfl, hg, lt_of_block hh, hc, by omega, fun i hi => ?_⟩
    obtain ⟨e0, e1, e2⟩ := tri_get l i (by omega)
    have cl : ∀ k u, k < n * 3 → (tri l)[k]? = some u → w.cell? ⟨g, k, none⟩ = some u := fun k u hk hu => by
      rw [← ht, List.getElem?_take, if_pos hk] at hu
      simpa [World.cell?, hh] using hu
    exact ⟨cl _ _ (by omega) e0, cl _ _ (by omega) e1, cl _ _ (by omega) e2⟩
abbrev xat : TypeId := 302
def AttrsPost (w : World) (b : Nat) (o : Option (List At × Bool × Bs)) (sv : Value) (cnt : Int) (full : Bool) (e : Ending) (w' : World) : Prop :=
  w.grownBy w' (some b) ∧ ((∃ l emp r' v, o = some (l, emp, r') ∧ e = .returned (.tuple #[v, .bool emp, .bool true]) ∧ PrAt w' b r' sv cnt full ∧ w'.ownsRow w.heap.size xat 3 v l.length (tri l)) ∨
    (o = none ∧ e = .returned (.tuple #[.slice none 0 0, .bool false, .bool false]) ∧ ∃ r', PrAt w' b r' sv cnt full))
/-- The loop's relation. -/
def AtR (w : World) (b : Nat) (R : Option (List At × Bool × Bs)) (sv : Value) (cnt : Int) (full : Bool) (v2 : Value) (wr : World) (r : Bs) : Prop :=
  ∃ n acc, PrAt wr b r sv cnt full ∧ w.grownBy wr (some b) ∧ wr.ownsRow w.heap.size xat 3 v2 acc.length (tri acc) ∧ Hid (attrsL n r acc = R) ∧ r.length < n ∧ acc.length + r.length ≤ 100000
theorem PrAt.lt {w : World} {b : Nat} {rest : Bs} {sv : Value} {cnt : Int} {full : Bool} (h : PrAt w b rest sv cnt full) : b < w.heap.size := lt_of_block h
theorem row_pr {w w' : World} {base size n b : Nat} {e : TypeId} {v : Value} {xs : List Value} {rest : Bs} {sv : Value} {cnt : Int} {full : Bool} (h : w.ownsRow base e size v n xs) (g : w.grownBy w' (some b)) (hp : PrAt w b rest sv cnt full) (hT : e ≠ 114) : w'.ownsRow base e size v n xs := row_ty h g hp hT
/-- The state while an attribute is read: its block A holds x, y, z. -/
structure AS (w w' : World) (b : Nat) (r : Bs) (sv : Value) (cnt : Int) (full : Bool) (v2 : Value) (acc : List At) (A : Nat) (x y z : Bs) : Prop where
  pr : PrAt w' b r sv cnt full
  gr : w.grownBy w' (some b)
  own : w'.ownsRow w.heap.size xat 3 v2 acc.length (tri acc)
  at' : w'.heap[A]? = some (.cells #[str x, str y, str z] xat (0, 0))
  lo : w.heap.size ≤ A
  ne : v2.ownBlock ≠ some A
theorem AS.step {w w' w'' : World} {b : Nat} {r r' : Bs} {sv : Value} {cnt : Int} {full : Bool} {v2 : Value} {acc : List At} {A : Nat} {x y z : Bs} (h : AS w w' b r sv cnt full v2 acc A x y z) (hp : PrAt w'' b r' sv cnt full) (g : w'.grownBy w'' (some b)) : AS w w'' b r' sv cnt full v2 acc A x y z :=
  ⟨hp, gr_trans h.gr g, row_pr h.own g h.pr (by decide), gr_keep g h.at' (blk_ne h.at' h.pr (by decide)), h.lo, h.ne⟩
theorem AS.grow {w w' w'' : World} {b : Nat} {r : Bs} {sv : Value} {cnt : Int} {full : Bool} {v2 : Value} {acc : List At} {A : Nat} {x y z : Bs} (h : AS w w' b r sv cnt full v2 acc A x y z) (g : w'.grownBy w'' none) : AS w w'' b r sv cnt full v2 acc A x y z :=
  ⟨h.pr.grow g, gr_trans h.gr (gr_none g), row_none h.own g, gr_keep g h.at' (by simp), h.lo, h.ne⟩
theorem AS.set {w w' : World} {b : Nat} {r : Bs} {sv : Value} {cnt : Int} {full : Bool} {v2 : Value} {acc : List At} {A : Nat} {x y z : Bs} (h : AS w w' b r sv cnt full v2 acc A x y z) (o : Nat) (u : Value) (x' y' z' : Bs) (hc : #[str x, str y, str z].setIfInBounds o u = #[str x', str y', str z']) : AS w (w'.setCell ⟨A, o, none⟩ u) b r sv cnt full v2 acc A x' y' z' := by
  have hne : b ≠ A := fun e => blk_ne h.at' h.pr (by decide) (by rw [e])
  refine ⟨h.pr.other hne, gr_set_new h.gr h.lo, ?_, by rw [← hc]; exact heap_set h.at', h.lo, h.ne⟩
  refine h.own.kept (gr_set (gr_refl w' (some A))) ?_
  rcases hv : v2.ownBlock with _ | g
  · exact .inl (by
      rcases h.own.2 with ⟨rfl, _⟩ | ⟨g', cap, cur, rfl, _⟩
      · rfl
      · cases hv)
  · exact .inr (fun e => h.ne (by rw [hv, e]))
theorem AS.cells {w w' : World} {b : Nat} {r : Bs} {sv : Value} {cnt : Int} {full : Bool} {v2 : Value} {acc : List At} {A : Nat} {x y z : Bs} (h : AS w w' b r sv cnt full v2 acc A x y z) : w'.cell? ⟨A, 0, none⟩ = some (.string ⟨x.toArray⟩) ∧ w'.cell? ⟨A, 1, none⟩ = some (.string ⟨y.toArray⟩) ∧ w'.cell? ⟨A, 2, none⟩ = some (.string ⟨z.toArray⟩) ∧ w'.frozen? ⟨A, 0, none⟩ = false ∧ w'.frozen? ⟨A, 1, none⟩ = false ∧ w'.frozen? ⟨A, 2, none⟩ = false :=
  ⟨cell_of_block h.at' 0, cell_of_block h.at' 1, cell_of_block h.at' 2, free_of_block h.at' 0, free_of_block h.at' 1, free_of_block h.at' 2⟩
theorem infoAt : (Tryz.prog.info? xat).map (fun i => (i.zero, i.size, i.bytes)) = some (some (.agg #[.string ⟨#[]⟩, .string ⟨#[]⟩, .string ⟨#[]⟩]), 3, 48) := by kernel_rfl
set_option maxRecDepth 20000 in
set_option maxHeartbeats 8000000 in
theorem attrs_x (b : Nat) (rest : Bs) (sv : Value) (cnt : Int) (full : Bool) (m : Int) (w : World) (h : PrAt w b rest sv cnt full) (hm : w.cell? ⟨0, 0, none⟩ = some (.int .i64 m)) (hb : b ≠ 0) (hs : rest.length ≤ 100000) :
    Calls Tryz.prog 158 #[.pointer (some ⟨b, 0, none⟩)] w (AttrsPost w b (attrsA rest) sv cnt full) := by
  obtain ⟨i0, hi, hz0, hz1, hz2⟩ := info_parts infoAt
  obtain ⟨R, hR⟩ : ∃ R, attrsA rest = R := ⟨_, rfl⟩
  rw [hR]
  have H := hid h
  have HR := hid hR
  have HM := hid hm
  have hbw := h.lt
  clear h hR hm
  go_enter Tryz.func158, Tryz.ntmps158
  go_wp2_with fail
  go_loopw [2] (fun v2 wr => ∃ r, AtR w b R sv cnt full v2 wr r) (fun _ wr => prJ wr b)
  case atStart => exact ⟨rest, rest.length + 1, [], H.out, gr_refl _ _, ⟨rfl, .inl ⟨rfl, rfl⟩⟩, HR.out, by omega, by simpa using hs⟩
  case round =>
    obtain ⟨r, n, acc, hp, gw, hown, hun, hn, hlen⟩ := hrel
    have HPJ := hid (prJ_of hp)
    obtain ⟨n, rfl⟩ : ∃ k, n = k + 1 := ⟨n - 1, by omega⟩
    have hun' := hun.out
    unfold attrsL at hun'
    have HB := hid (blank_x b r sv cnt full wr hp (by omega))
    have hrl := trimS_len r
    generalize Lib.trimLeftS r blkL = r1 at *
    have HUN := hid hun'
    have HOWN := hid hown
    have HP := hid hp
    have GW := hid gw
    clear hun hun' hown hp gw
    go_wp2_with fail
    refine HB.out.mono ?_
    rintro e w1 ⟨rfl, hp1, g1⟩
    have G1 := hid (gr_trans GW.out g1)
    have O1 := hid (row_pr HOWN.out g1 HP.out (by decide))
    have HP1 := hid hp1
    clear hp1 g1
    have HT := hid (take_x b r1 [47, 62] sv cnt full w1 HP1.out)
    go_wp2_with fail
    refine HT.out.mono ?_
    rintro e w2 ⟨rfl, hp2, g2⟩
    have G2 := hid (gr_trans G1.out g2)
    have O2 := hid (row_pr O1.out g2 HP1.out (by decide))
    have HP2 := hid hp2
    clear hp2 g2
    obtain ⟨p1, hp1⟩ : ∃ p1, Lib.hasPrefix r1 [47, 62] = p1 := ⟨_, rfl⟩
    have HN1 := hid (fun (hp : p1 = false) => show Lib.trimPrefix r1 [47, 62] = r1 by unfold Lib.trimPrefix; rw [hp1, hp]; rfl)
    rw [hp1] at HUN ⊢
    clear hp1
    cases p1
    rotate_left
    · have HV := hid (show R = some (acc, true, Lib.trimPrefix r1 [47, 62]) from HUN.out.symm)
      go_wp2
      go_ret3
      exact ⟨G2.out, .inl ⟨_, _, _, _, HV.out, rfl, HP2.out, O2.out⟩⟩
    · rw [HN1.out rfl] at HP2
      clear HN1
      have HT2 := hid (take_x b r1 [62] sv cnt full w2 HP2.out)
      go_wp2_with fail
      refine HT2.out.mono ?_
      rintro e w3 ⟨rfl, hp3, g3⟩
      have G3 := hid (gr_trans G2.out g3)
      have O3 := hid (row_pr O2.out g3 HP2.out (by decide))
      have HP3 := hid hp3
      clear hp3 g3
      obtain ⟨p1, hp1⟩ : ∃ p1, Lib.hasPrefix r1 [62] = p1 := ⟨_, rfl⟩
      have HN1 := hid (fun (hp : p1 = false) => show Lib.trimPrefix r1 [62] = r1 by unfold Lib.trimPrefix; rw [hp1, hp]; rfl)
      rw [hp1] at HUN ⊢
      clear hp1
      cases p1
      rotate_left
      · have HV := hid (show R = some (acc, false, Lib.trimPrefix r1 [62]) from HUN.out.symm)
        go_wp2
        go_ret3
        exact ⟨G3.out, .inl ⟨_, _, _, _, HV.out, rfl, HP3.out, O3.out⟩⟩
      · rw [HN1.out rfl] at HP3
        clear HN1
        have HUN2 := hid (show (if r1.length < r.length then (match oneL r1 with | none => none | some (a, r') => if acc.any (sameF a) then none else attrsL n r' (acc ++ [a])) else none) = R from HUN.out)
        clear HUN HT HT2 HB O1 O2 G1 G2 HP1 HP2 HOWN HP GW
        by_cases hgap : r1.length < r.length
        · have hgap' : decide (r1.length < r.length) = true := decide_eq_true hgap
          have HUN3 := hid (show (match oneL r1 with | none => none | some (a, r') => if acc.any (sameF a) then none else attrsL n r' (acc ++ [a])) = R by rw [← HUN2.out, if_pos hgap])
          clear HUN2
          rw [hgap']
          have HONE := hid (show oneL r1 = if (fullL r1).1.2.2 && Lib.hasPrefix (Lib.trimLeftS (fullL r1).2 blkL) [61] then
            (valueL (Lib.trimLeftS (Lib.trimPrefix (Lib.trimLeftS (fullL r1).2 blkL) [61]) blkL)).map fun x => (((fullL r1).1.1, (fullL r1).1.2.1, x.1), x.2) else none from rfl)
          have HNO := hid (fun (e : oneL r1 = none) => show R = none by rw [← HUN3.out, e])
          have HYES := hid (fun a r' (e : oneL r1 = some (a, r')) => show (if acc.any (sameF a) then none else attrsL n r' (acc ++ [a])) = R by rw [← HUN3.out, e])
          have hfl := fullL_len r1
          have S4 := hid (show AS w (w3.alloc (.cells #[.string ⟨#[]⟩, .string ⟨#[]⟩, .string ⟨#[]⟩] xat)) b r1 sv cnt full u2 acc w3.heap.size [] [] [] from
            ⟨HP3.out.grow (gr_alloc (gr_refl _ _) _), gr_alloc G3.out _, O3.out.alloc _, heap_alloc_new w3 _, G3.out.size, fun e => by have := (O3.out.lt _ e).2; omega⟩)
          clear HUN3 HP3 G3 O3
          go_wp2_with fail
          generalize w3.heap.size = A at *
          have HF := hid (full_x b r1 sv cnt full _ S4.out.pr (by omega))
          generalize oneL r1 = O1 at *
          generalize fullL r1 = F at *
          obtain ⟨⟨f1, f2, f3⟩, f4⟩ := F
          simp only at hfl
          refine HF.out.mono ?_
          rintro e w5 ⟨rfl, hp5, g5⟩
          have S5 := hid (S4.out.step hp5 g5)
          have S6 := hid ((S5.out.set 0 (.string ⟨f1.toArray⟩) f1 [] [] rfl).set 1 (.string ⟨f2.toArray⟩) f1 f2 [] rfl)
          clear S4 HF hp5 g5
          obtain ⟨c0, c1, c2, q0, q1, q2⟩ := S5.out.cells
          unfold str
          cases f3
          · have HV := hid (HNO.out HONE.out)
            go_wp2
            go_ret3
            exact ⟨S6.out.gr, .inr ⟨HV.out, rfl, _, S6.out.pr⟩⟩
          · have HONE2 := hid (show O1 = if Lib.hasPrefix (Lib.trimLeftS f4 blkL) [61] then
              (valueL (Lib.trimLeftS (Lib.trimPrefix (Lib.trimLeftS f4 blkL) [61]) blkL)).map fun x => ((f1, f2, x.1), x.2) else none from HONE.out)
            clear HONE
            have hl2 := trimS_len f4
            have HB2 := hid (blank_x b f4 sv cnt full _ S6.out.pr (by omega))
            generalize Lib.trimLeftS f4 blkL = r2 at *
            go_wp2_with fail
            refine HB2.out.mono ?_
            rintro e w7 ⟨rfl, hp7, g7⟩
            have S7 := hid (S6.out.step hp7 g7)
            clear S5 S6 HB2 hp7 g7 c0 c1 c2 q0 q1 q2
            have HT3 := hid (take_x b r2 [61] sv cnt full _ S7.out.pr)
            have hl3 := trim_len r2 [61]
            generalize Lib.hasPrefix r2 [61] = p2 at *
            generalize Lib.trimPrefix r2 [61] = r3 at *
            go_wp2_with fail
            refine HT3.out.mono ?_
            rintro e w8 ⟨rfl, hp8, g8⟩
            have S8 := hid (S7.out.step hp8 g8)
            clear S7 HT3 hp8 g8
            cases p2
            · have HV := hid (HNO.out HONE2.out)
              go_wp2
              go_ret3
              exact ⟨S8.out.gr, .inr ⟨HV.out, rfl, _, S8.out.pr⟩⟩
            · have HONE3 := hid (show O1 = (valueL (Lib.trimLeftS r3 blkL)).map fun x => ((f1, f2, x.1), x.2) from HONE2.out)
              clear HONE2
              have hl4 := trimS_len r3
              have HB4 := hid (blank_x b r3 sv cnt full _ S8.out.pr (by omega))
              generalize Lib.trimLeftS r3 blkL = r4 at *
              go_wp2_with fail
              refine HB4.out.mono ?_
              rintro e w9 ⟨rfl, hp9, g9⟩
              have S9 := hid (S8.out.step hp9 g9)
              clear S8 HB4 hp9 g9
              have HVA := hid (value_x b r4 sv cnt full m w9 S9.out.pr (cell0 S9.out.gr hb HM.out) hb (by omega))
              have hvl := fun v r' h => valueL_len (r := r4) (v := v) (r' := r') h
              have HVL := hid hvl
              clear hvl
              generalize valueL r4 = V at *
              go_wp2_with fail
              refine HVA.out.mono ?_
              rintro e w10 ⟨g10, h10⟩
              rcases h10 with ⟨v, r', hV, rfl, hp10⟩ | ⟨hV, rfl, r', hp10⟩
              rotate_left
              · have HV := hid (HNO.out (by rw [HONE3.out, hV]; rfl))
                have S10 := hid (S9.out.step hp10 g10)
                have S11 := hid (S10.out.set 2 (.string ⟨#[]⟩) f1 f2 [] rfl)
                clear S9 hp10 g10 hV
                obtain ⟨c0, c1, c2, q0, q1, q2⟩ := S10.out.cells
                unfold str
                go_wp2
                go_ret3
                exact ⟨S11.out.gr, .inr ⟨HV.out, rfl, _, S11.out.pr⟩⟩
              · have HY := hid (HYES.out (f1, f2, v) r' (by rw [HONE3.out, hV]; rfl))
                have hvl := HVL.out v r' hV
                have S10 := hid (S9.out.step hp10 g10)
                have S11 := hid (S10.out.set 2 (.string ⟨v.toArray⟩) f1 f2 v rfl)
                clear S9 hp10 g10 hV HNO HYES HONE3 HVL HVA
                obtain ⟨c0, c1, c2, q0, q1, q2⟩ := S10.out.cells
                obtain ⟨va, vc, hsv, hvc⟩ := row_shape S11.out.own
                subst hsv
                unfold str
                go_wp2_with fail
                have hal : acc.length ≤ 100000 := by omega
                clear c0 c1 c2 q0 q1 q2 S10
                generalize w10.setCell _ _ = w11 at *
                go_loopw [2, 47] (fun v2 v47 wx => ∃ j : Nat, v2 = .slice va acc.length vc ∧ v47 = .int .i64 (j : Int) ∧ j ≤ acc.length ∧ AS w wx b r' sv cnt full (.slice va acc.length vc) acc A f1 f2 v ∧ Hid ((acc.take j).any (sameF (f1, f2, v)) = false)) (fun _ v47 _ => acc.length - (intOf v47).toNat)
                case atStart => exact ⟨0, rfl, rfl, Nat.zero_le _, S11.out, rfl⟩
                case round =>
                  obtain ⟨j, rfl, rfl, hj, hS, hany⟩ := hrel
                  have S12 := hid hS
                  clear hS S11
                  by_cases hlt : j < acc.length
                  · obtain ⟨g, cap, hg, hg1, hg2, hg3, -, hcell⟩ := own_tri S12.out.own (by omega)
                    simp only [Value.slice.injEq] at hg
                    obtain ⟨rfl, -, rfl⟩ := hg
                    have hT := hcell j hlt
                    have hstep := hid (show (acc.take (j + 1)).any (sameF (f1, f2, v)) = ((acc.take j).any (sameF (f1, f2, v)) || sameF (f1, f2, v) (acc.getD j at0)) by
                      rw [List.take_succ_eq_append_getElem hlt, List.any_append, List.getD_eq_getElem?_getD, List.getElem?_eq_getElem hlt]; simp)
                    have hyes := hid (fun (h : sameF (f1, f2, v) (acc.getD j at0) = true) => show R = none by
                      rw [← HY.out, if_pos (List.any_eq_true.2 ⟨acc[j], List.getElem_mem _, by rw [List.getD_eq_getElem?_getD, List.getElem?_eq_getElem hlt] at h; exact h⟩)])
                    generalize acc.getD j at0 = t at *
                    obtain ⟨t1, t2, t3⟩ := t
                    have e0 := hT.c0
                    have e1 := hT.c1
                    have e2 := hT.c2
                    simp only at e0 e1 e2
                    obtain ⟨c0, c1, c2, q0, q1, q2⟩ := S12.out.cells
                    have S13 := hid (S12.out.grow (gr_alloc (gr_refl _ _) (.cells #[.string ⟨t1.toArray⟩, .string ⟨t2.toArray⟩, .string ⟨t3.toArray⟩] 302)))
                    obtain ⟨d0, d1, d2, -⟩ := S13.out.cells
                    clear hT hcell
                    have HNX := hid (fun (h : ¬ (f1 = t1 ∧ f2 = t2)) => show (acc.take (j + 1)).any (sameF (f1, f2, v)) = false by
                      rw [hstep.out, hany.out, Bool.false_or]
                      unfold sameF
                      by_cases h1 : t1 = f1
                      · rw [decide_eq_false (show ¬ t2 = f2 from fun e => h ⟨h1.symm, e.symm⟩), Bool.and_false]
                      · rw [decide_eq_false h1]; rfl)
                    have HYX := hid (fun (h : f1 = t1 ∧ f2 = t2) => hyes.out (by unfold sameF; rw [decide_eq_true h.1.symm, decide_eq_true h.2.symm]; rfl))
                    clear hstep hyes
                    by_cases h1 : f1 = t1
                    · have hb1 : (f1 == t1) = true := by rw [beq_dec, decide_eq_true h1]
                      by_cases h2 : f2 = t2
                      · have hb2 : (f2 == t2) = true := by rw [beq_dec, decide_eq_true h2]
                        have HV := hid (HYX.out ⟨h1, h2⟩)
                        clear h1 h2
                        go_wp2_with fail
                        go_ret3
                        exact ⟨S13.out.gr, .inr ⟨HV.out, rfl, _, S13.out.pr⟩⟩
                      · have hb2 : (f2 == t2) = false := by rw [beq_dec, decide_eq_false h2]
                        have hX := HNX.out (fun h => h2 h.2)
                        clear h1 h2
                        go_wp2_with fail
                        go_roundw
                        case rel => exact ⟨j + 1, rfl, by go_num, by omega, S13.out, hX⟩
                        case measure => simp [intOf]; omega
                    · have hb1 : (f1 == t1) = false := by rw [beq_dec, decide_eq_false h1]
                      have hX := HNX.out (fun h => h1 h.1)
                      clear h1
                      go_wp2_with fail
                      go_roundw
                      case rel => exact ⟨j + 1, rfl, by go_num, by omega, S13.out, hX⟩
                      case measure => simp [intOf]; omega
                  · obtain rfl : j = acc.length := by omega
                    have HY2 := hid (show attrsL n r' (acc ++ [(f1, f2, v)]) = R by
                      have := hany.out
                      rw [List.take_length] at this
                      rw [← HY.out, this]; rfl)
                    obtain ⟨c0, c1, c2, q0, q1, q2⟩ := S12.out.cells
                    clear hany HY hlt hj
                    have hbs := S12.out.gr.size
                    go_wp2_with (at_builtin; refine wpList_append_own _ rfl _ _ 240 rfl w.heap.size 302 i0 _ 3 48 Tryz.underlying240 hi hz0 hz1 hz2 rfl (by decide) _ _ _ rfl (S12.out.own.alloc _) ⟨wr.heap.size, 0, none⟩ 1 1 [.string ⟨f1.toArray⟩, .string ⟨f2.toArray⟩, .string ⟨v.toArray⟩] rfl rfl ?c1 ?c2 ?c3 ?c4 ?c5 ?_)
                    case c1 =>
                      intro j u hj
                      match j, hj with
                      | 0, hj => simp at hj; subst hj; simp [Addr.add]
                      | 1, hj => simp at hj; subst hj; simp [Addr.add]
                      | 2, hj => simp at hj; subst hj; simp [Addr.add]
                    case c2 => intro u hu; simp at hu; rcases hu with rfl | rfl | rfl <;> rfl
                    case c3 => unfold maxLen; omega
                    case c4 => omega
                    case c5 => simp; omega
                    · intro v' w13 hown' hgrow _
                      have S14 := hid (S12.out.grow (gr_alloc (gr_refl _ _) (.cells #[.string ⟨f1.toArray⟩, .string ⟨f2.toArray⟩, .string ⟨v.toArray⟩] 302)))
                      have HP14 := hid (show PrAt w13 b r' sv cnt full from keep_own S14.out.own hgrow S14.out.pr (by decide))
                      have G14 := hid (gr_own S14.out.gr S14.out.own (Nat.le_refl _) hgrow)
                      have HP0 := hid (prJ_of HP14.out)
                      clear hgrow c0 c1 c2 q0 q1 q2
                      go_wp2
                      go_roundw
                      case rel => exact ⟨r', n, acc ++ [(f1, f2, v)], HP14.out, G14.out, by rw [List.length_append, tri_snoc]; exact hown', HY2.out, by omega, by rw [List.length_append]; simp only [List.length_cons, List.length_nil]; omega⟩
                      case measure => rw [HP0.out, HPJ.out]; omega
        · have hgap' : decide (r1.length < r.length) = false := decide_eq_false hgap
          have HV := hid (show R = none by rw [← HUN2.out, if_neg hgap])
          rw [hgap']
          go_wp2
          go_ret3
          exact ⟨G3.out, .inr ⟨HV.out, rfl, _, HP3.out⟩⟩
end Go.Proofs.YtmofnoconhgjmaaGreatDoor
