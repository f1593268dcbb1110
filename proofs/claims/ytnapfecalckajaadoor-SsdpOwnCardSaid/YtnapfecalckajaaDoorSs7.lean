/- hearthref23.one, .place, .Names. -/
import Derived.Test.YtnapfecalckajaaDoorSs4
import Derived.Test.YtnapfecalckajaaDoorSs6
namespace Go.Proofs.YtnapfecalckajaaDoor
open Go.RowKit

/-- Fields as they are read: a slice, empty or not. -/
def FsW (w : World) (v : Value) (fs : List (List UInt8 × List UInt8)) : Prop := ∃ a c, v = .slice a fs.length c ∧ PairsAt w a fs.length (fsN fs) (fsV fs)
theorem FsW.grow {w w' : World} {v : Value} {fs : List (List UInt8 × List UInt8)} (h : FsW w v fs) (g : w.grownBy w' none) : FsW w' v fs := by
  obtain ⟨a, c, rfl, h⟩ := h
  exact ⟨a, c, rfl, h.grown g⟩
theorem fsw_of_row {w : World} {base : Nat} {v : Value} {fs : List (List UInt8 × List UInt8)} (h : w.ownsRow base 60 2 v fs.length (flatF fs)) : FsW w v fs := by
  by_cases hz : fs = []
  · subst hz
    obtain ⟨a, c, rfl, -⟩ := row_shape h
    exact ⟨a, c, rfl, .inl rfl⟩
  · have hf := fs_of_row h (fun e => absurd e hz)
    obtain ⟨a, c, rfl⟩ := hf.shape
    exact ⟨a, c, rfl, hf.pairs⟩
theorem rget_sat (w : World) (v : Value) (fs : List (List UInt8 × List UInt8)) (name : List UInt8) (h : FsW w v fs) (hl : fs.length ≤ 100000) :
    Calls Tryd.prog 41 #[v, .string ⟨name.toArray⟩] w fun e w' => ∃ v', e = .returned v' ∧ SAt w' v' (getL fs name) ∧ w.grownBy w' none := by
  obtain ⟨a, c, rfl, hp⟩ := h
  refine (rget_any w a fs.length c (fsN fs) (fsV fs) ⟨name.toArray⟩ hp hl).mono ?_
  rintro e w' ⟨v', rfl, hown, g⟩
  have hg := getN_list name fs fs.length (Nat.le_refl _)
  rw [List.take_length] at hg
  have hlen : (getN (fsN fs) (fsV fs) ⟨name.toArray⟩ fs.length).length = (getL fs name).length := by have := congrArg List.length hg; simpa using this
  rw [hg, hlen] at hown
  exact ⟨v', rfl, sat_of_own hown, g⟩
set_option maxHeartbeats 1000000 in
theorem rone_any (w : World) (v : Value) (fs : List (List UInt8 × List UInt8)) (name : List UInt8) (h : FsW w v fs) (hl : fs.length ≤ 100000) :
    Calls Tryd.prog 23 #[v, .string ⟨name.toArray⟩] w fun e w' => e = .returned (.tuple #[str (oneL fs name).1, .bool (oneL fs name).2]) ∧ w.grownBy w' none := by
  obtain ⟨a, c, rfl, -⟩ := id h
  have HG := hid (rget_sat w _ fs name h (by omega))
  clear h
  obtain ⟨xs, hxs⟩ : ∃ xs, getL fs name = xs := ⟨_, rfl⟩
  have HX := hid hxs
  clear hxs
  go_enter Tryd.func23, Tryd.ntmps23
  go_wp2_with fail
  refine HG.out.mono ?_
  rw [HX.out]
  rintro e w2 ⟨v', rfl, ⟨a', cap, rfl, h1, h2⟩, g⟩
  have G := hid g
  clear g HG
  match xs, HX, h1, h2 with
  | [], HX, _, _ =>
    have HO := hid (show oneL fs name = ([], false) by unfold oneL; rw [HX.out])
    clear HX
    go_wp2
    go_ret2
    exact ⟨by rw [HO.out]; rfl, G.out⟩
  | [x], HX, _, h2 =>
    have HO := hid (show oneL fs name = (x, true) by unfold oneL; rw [HX.out])
    obtain ⟨g0, rfl, hc⟩ := h2 0 x rfl
    unfold str at hc
    clear h2 HX
    go_wp2
    go_ret2
    exact ⟨by rw [HO.out]; rfl, G.out⟩
  | x :: y :: r, HX, _, _ =>
    have HO := hid (show oneL fs name = ([], false) by unfold oneL; rw [HX.out])
    have hne : (((x :: y :: r).length : Int) != 1) = true := by rw [bne_iff_ne]; simp only [List.length_cons]; omega
    obtain ⟨n, hn⟩ : ∃ n, n = (x :: y :: r).length := ⟨_, rfl⟩
    rw [← hn] at hne ⊢
    clear hn HX
    go_wp2
    go_ret2
    exact ⟨by rw [HO.out]; rfl, G.out⟩
set_option maxRecDepth 20000 in
set_option maxHeartbeats 1000000 in
theorem rplace_any (cs : Array Value) (lan : Nat) (u : List UInt8) (w : World) (hc : CfOk cs lan u) :
    Calls Tryd.prog 25 #[.agg cs] w fun e w' => e = .returned (str (placeL lan ++ [13, 10])) ∧ w.grownBy w' none := by
  have h18 := hc.c18
  have hl := hc.hl
  clear hc
  go_enter Tryd.func25, Tryd.ntmps25
  go_wp2_with fail
  have g1 := World.grownBy_alloc w (.cells cs 28) none
  refine (rtext_in lan hl _).mono ?_
  rintro e w2 ⟨rfl, g2⟩
  have G2 := hid (gr_trans g1 g2)
  clear g1 g2 h18
  have htl : (textL lan).length ≤ 15 := join4_len _ (beL_len 4 lan)
  have HP := hid (show placeL lan ++ [13, 10] = locT ++ textL lan ++ (descT ++ [13, 10]) by unfold placeL; simp)
  unfold str
  generalize textL lan = x at HP htl ⊢
  go_wp2_with fail
  go_ret
  refine ⟨ret_str ?_, G2.out⟩
  rw [HP.out, ← ba_app2, ← ba_app2]; rfl
def RNamesPost (w : World) (u : List UInt8) (e : Ending) (w' : World) : Prop :=
  ∃ ga vb, e = .returned (.tuple #[.slice (some ⟨ga, 0, none⟩) 6 6, vb]) ∧ w'.heap[ga]? = some (.cells ((nmL u).map str).toArray 9 (0, 0)) ∧ w'.ownsRow w.heap.size 9 1 vb 6 (((nmL u).map (unL u)).map str) ∧ w.grownBy w' none ∧ w.heap.size ≤ ga
theorem nm_own (u : List UInt8) : ∀ (k : Nat) (x : List UInt8), (nmL u)[k]? = some x → (k = 1 → x = ownU u) ∧ (k ≠ 1 → x ≠ ownU u) := by
  intro k x hx
  unfold nmL at hx
  match k, hx with
  | 0, hx => obtain rfl : rootT = x := by simpa using hx
             exact ⟨fun h => by omega, fun _ => by simp [rootT, ownU, uuT]⟩
  | 1, hx => obtain rfl : ownU u = x := by simpa using hx
             exact ⟨fun _ => rfl, fun h => absurd rfl h⟩
  | 2, hx => obtain rfl : dev1T = x := by simpa using hx
             exact ⟨fun h => by omega, fun _ => by simp [dev1T, ownU, uuT]⟩
  | 3, hx => obtain rfl : dev2T = x := by simpa using hx
             exact ⟨fun h => by omega, fun _ => by simp [dev2T, ownU, uuT]⟩
  | 4, hx => obtain rfl : ser1T = x := by simpa using hx
             exact ⟨fun h => by omega, fun _ => by simp [ser1T, ownU, uuT]⟩
  | 5, hx => obtain rfl : ser2T = x := by simpa using hx
             exact ⟨fun h => by omega, fun _ => by simp [ser2T, ownU, uuT]⟩
  | k + 6, hx => simp at hx
theorem row_le {w : World} {b b' size n : Nat} {e : TypeId} {v : Value} {xs : List Value} (h : w.ownsRow b' e size v n xs) (hb : b ≤ b') : w.ownsRow b e size v n xs := by
  refine ⟨h.1, ?_⟩
  rcases h.2 with h | ⟨g, cap, cur, e, hg, r⟩
  · exact .inl h
  · exact .inr ⟨g, cap, cur, e, Nat.le_trans hb hg, r⟩
def RnI (w : World) (N : List (List UInt8)) (un : List UInt8 → List UInt8) (ga : Nat) (v8 v9 : Value) (wr : World) : Prop :=
  ∃ k : Nat, k ≤ 6 ∧ v9 = .int .i64 (k : Int) ∧ wr.ownsRow (ga + 1) 9 1 v8 k (((N.take k).map un).map str) ∧ wr.heap[ga]? = some (.cells (N.map str).toArray 9 (0, 0)) ∧ w.grownBy wr none
set_option maxRecDepth 20000 in
set_option maxHeartbeats 4000000 in
theorem rnames_any (cs : Array Value) (lan : Nat) (u : List UInt8) (w : World) (hc : CfOk cs lan u) (hu : u.length ≤ 300) :
    Calls Tryd.prog 11 #[.agg cs] w (RNamesPost w u) := by
  have h27 := hc.c27
  unfold str at h27
  clear hc
  obtain ⟨i0, hi, hz0, hz1, hz2⟩ := info_parts infoStr
  go_enter Tryd.func11, Tryd.ntmps11
  go_wp2_with fail
  rw [show ((⟨#[117, 117, 105, 100, 58]⟩ : ByteArray) ++ ⟨u.toArray⟩) = ⟨(ownU u).toArray⟩ from ba_app2 uuT u, show ((⟨#[117, 114, 110, 58, 115, 99, 104, 101, 109, 97, 115, 45, 117, 112, 110, 112, 45, 111, 114, 103, 58, 100, 101, 118, 105, 99, 101, 58, 73, 110, 116, 101, 114, 110, 101, 116, 71, 97, 116, 101, 119, 97, 121, 68, 101, 118, 105, 99, 101, 58]⟩ : ByteArray) ++ (⟨#[49]⟩ : ByteArray)) = ⟨dev1T.toArray⟩ from ba_app2 [117, 114, 110, 58, 115, 99, 104, 101, 109, 97, 115, 45, 117, 112, 110, 112, 45, 111, 114, 103, 58, 100, 101, 118, 105, 99, 101, 58, 73, 110, 116, 101, 114, 110, 101, 116, 71, 97, 116, 101, 119, 97, 121, 68, 101, 118, 105, 99, 101, 58] [49], show ((⟨#[117, 114, 110, 58, 115, 99, 104, 101, 109, 97, 115, 45, 117, 112, 110, 112, 45, 111, 114, 103, 58, 100, 101, 118, 105, 99, 101, 58, 73, 110, 116, 101, 114, 110, 101, 116, 71, 97, 116, 101, 119, 97, 121, 68, 101, 118, 105, 99, 101, 58]⟩ : ByteArray) ++ (⟨#[50]⟩ : ByteArray)) = ⟨dev2T.toArray⟩ from ba_app2 [117, 114, 110, 58, 115, 99, 104, 101, 109, 97, 115, 45, 117, 112, 110, 112, 45, 111, 114, 103, 58, 100, 101, 118, 105, 99, 101, 58, 73, 110, 116, 101, 114, 110, 101, 116, 71, 97, 116, 101, 119, 97, 121, 68, 101, 118, 105, 99, 101, 58] [50], show ((⟨#[117, 114, 110, 58, 115, 99, 104, 101, 109, 97, 115, 45, 117, 112, 110, 112, 45, 111, 114, 103, 58, 115, 101, 114, 118, 105, 99, 101, 58, 87, 65, 78, 73, 80, 67, 111, 110, 110, 101, 99, 116, 105, 111, 110, 58]⟩ : ByteArray) ++ (⟨#[49]⟩ : ByteArray)) = ⟨ser1T.toArray⟩ from ba_app2 [117, 114, 110, 58, 115, 99, 104, 101, 109, 97, 115, 45, 117, 112, 110, 112, 45, 111, 114, 103, 58, 115, 101, 114, 118, 105, 99, 101, 58, 87, 65, 78, 73, 80, 67, 111, 110, 110, 101, 99, 116, 105, 111, 110, 58] [49], show ((⟨#[117, 114, 110, 58, 115, 99, 104, 101, 109, 97, 115, 45, 117, 112, 110, 112, 45, 111, 114, 103, 58, 115, 101, 114, 118, 105, 99, 101, 58, 87, 65, 78, 73, 80, 67, 111, 110, 110, 101, 99, 116, 105, 111, 110, 58]⟩ : ByteArray) ++ (⟨#[50]⟩ : ByteArray)) = ⟨ser2T.toArray⟩ from ba_app2 [117, 114, 110, 58, 115, 99, 104, 101, 109, 97, 115, 45, 117, 112, 110, 112, 45, 111, 114, 103, 58, 115, 101, 114, 118, 105, 99, 101, 58, 87, 65, 78, 73, 80, 67, 111, 110, 110, 101, 99, 116, 105, 111, 110, 58] [50]]
  have g1 := World.grownBy_alloc w (.cells cs 28) none
  have s1 : (w.alloc (.cells cs 28)).heap.size = w.heap.size + 1 := World.size_alloc _ _
  obtain ⟨w1, hw1⟩ : ∃ x, w.alloc (.cells cs 28) = x := ⟨_, rfl⟩
  rw [hw1] at g1 s1 ⊢
  have hA : (w1.alloc (.cells #[.string ⟨#[117, 112, 110, 112, 58, 114, 111, 111, 116, 100, 101, 118, 105, 99, 101]⟩, .string ⟨(ownU u).toArray⟩, .string ⟨dev1T.toArray⟩, .string ⟨dev2T.toArray⟩, .string ⟨ser1T.toArray⟩, .string ⟨ser2T.toArray⟩] 9)).heap[w1.heap.size]? = some (.cells ((nmL u).map str).toArray 9 (0, 0)) := heap_alloc_new w1 _
  have g2 := World.grownBy_alloc w1 (.cells #[.string ⟨#[117, 112, 110, 112, 58, 114, 111, 111, 116, 100, 101, 118, 105, 99, 101]⟩, .string ⟨(ownU u).toArray⟩, .string ⟨dev1T.toArray⟩, .string ⟨dev2T.toArray⟩, .string ⟨ser1T.toArray⟩, .string ⟨ser2T.toArray⟩] 9) none
  have s2 := World.size_alloc w1 (.cells #[.string ⟨#[117, 112, 110, 112, 58, 114, 111, 111, 116, 100, 101, 118, 105, 99, 101]⟩, .string ⟨(ownU u).toArray⟩, .string ⟨dev1T.toArray⟩, .string ⟨dev2T.toArray⟩, .string ⟨ser1T.toArray⟩, .string ⟨ser2T.toArray⟩] 9)
  obtain ⟨w2, hw2⟩ : ∃ x, w1.alloc (.cells #[.string ⟨#[117, 112, 110, 112, 58, 114, 111, 111, 116, 100, 101, 118, 105, 99, 101]⟩, .string ⟨(ownU u).toArray⟩, .string ⟨dev1T.toArray⟩, .string ⟨dev2T.toArray⟩, .string ⟨ser1T.toArray⟩, .string ⟨ser2T.toArray⟩] 9) = x := ⟨_, rfl⟩
  rw [hw2] at hA g2 s2 ⊢
  rw [s1] at hA s2
  have hO : (w2.alloc (.cells #[] 9)).ownsRow (w.heap.size + 1 + 1) 9 1 (.slice (some ⟨w.heap.size + 1 + 1, 0, none⟩) 0 0) 0 [] := by
    rw [← s2]
    exact World.ownsRow_made w2 #[] 0 (Nat.le_refl _) (by unfold maxLen; omega) rfl
  have hA3 := gr_keep (World.grownBy_alloc w2 (.cells #[] 9) none) hA (by simp)
  have g3 := gr_alloc (gr_trans g1 g2) (.cells #[] 9)
  obtain ⟨w3, hw3⟩ : ∃ x, w2.alloc (.cells #[] 9) = x := ⟨_, rfl⟩
  rw [hw3] at hO hA3 g3 ⊢
  obtain ⟨ga, hga⟩ : ∃ x, x = w.heap.size + 1 := ⟨_, rfl⟩
  have HO := hid hO
  have HGA := hid (show w.heap.size ≤ ga + 1 by omega)
  have HGA2 := hid (show w.heap.size ≤ ga by omega)
  rw [← hga] at hA3 HO ⊢
  have HA3 := hid hA3
  have HG3 := hid g3
  clear hA hA3 g1 g2 g3 s1 s2 hw1 hw2 hw3 hO hga h27
  have hoL : (ownU u).length ≤ 305 := by unfold ownU; rw [List.length_append]; show 5 + u.length ≤ 305; omega
  have HNL := hid (nmL_len hu)
  have HNO := hid (nm_own u)
  have HL6 := hid (show (nmL u).length = 6 from rfl)
  have HUN := hid (show ∀ x, unL u x = if x = ownU u then ownU u else ownU u ++ [58, 58] ++ x from fun _ => rfl)
  have HPO := hid (fun e w' => (fun h => h : RNamesPost w u e w' → RNamesPost w u e w'))
  obtain ⟨N, hN⟩ : ∃ N, nmL u = N := ⟨_, rfl⟩
  obtain ⟨un, hun⟩ : ∃ un, unL u = un := ⟨_, rfl⟩
  rw [hN] at HA3 HNL HNO HL6
  rw [hun] at HUN
  have HN := hid hN
  have HU := hid hun
  clear hN hun HPO
  generalize ownU u = ow at hoL HUN HNO ⊢
  go_loopw [8, 9] (fun v8 v9 wr => RnI w N un ga v8 v9 wr) (fun _ v9 _ => 6 - (intOf v9).toNat)
  case atStart => exact ⟨0, Nat.zero_le _, rfl, HO.out, HA3.out, HG3.out⟩
  case round =>
    obtain ⟨k, hk, rfl, hown, hAk, gw⟩ := hrel
    have hsz := gw.size
    obtain ⟨oa, oc, rfl, -⟩ := row_shape hown
    by_cases hlt : k < 6
    · obtain ⟨x, hx⟩ : ∃ x, N[k]? = some x := ⟨_, List.getElem?_eq_getElem (by rw [HL6.out]; exact hlt)⟩
      have hcell : wr.cell? ⟨ga, k, none⟩ = some (.string ⟨x.toArray⟩) := (cell_of_block hAk k).trans (by simp [hx]; rfl)
      have hxl : x.length ≤ 305 := HNL.out x (List.mem_of_getElem? hx)
      have HTK := hid (show ((N.take (k + 1)).map un).map str = ((N.take k).map un).map str ++ [str (un x)] by rw [List.take_add_one, hx]; simp)
      have hno := HNO.out k x hx
      have HAk := hid hAk
      have HNQ := hid (fun e => by have := (hown.lt ga e.symm).1; omega : some ga ≠ (Value.slice oa k oc).ownBlock)
      clear hx hAk
      by_cases hk1 : k = 1
      · subst hk1
        have HX := hid (show un x = ow by rw [HUN.out, if_pos (hno.1 rfl)])
        clear hno hcell
        go_wp2_with (at_builtin; refine wpList_append_own _ rfl _ _ 35 rfl (ga + 1) 9 i0 _ 1 16 Tryd.underlying35 hi hz0 hz1 hz2 rfl (by decide) _ _ _ rfl (hown.alloc _) ⟨wr.heap.size, 0, none⟩ 1 1 [.string ⟨ow.toArray⟩] rfl rfl ?c1 ?c2 ?c3 ?c4 ?c5 ?_)
        case c1 =>
          intro j v hj
          match j, hj with
          | 0, hj => simp at hj; subst hj; simp [Addr.add]
        case c2 => intro v hv; simp at hv; subst hv; rfl
        case c3 => unfold maxLen; omega
        case c4 => omega
        case c5 => have := lt_of_block HAk.out; simp; omega
        · intro v' w4 hown' hgrow _
          have hg' := gr_own (gr_alloc gw _) (hown.alloc _) HGA.out hgrow
          have hA4 := gr_keep hgrow (gr_keep (World.grownBy_alloc wr (.cells #[.string ⟨ow.toArray⟩] 9) none) HAk.out (by simp)) HNQ.out
          have HOWN := hid hown'
          clear hgrow hown' hown
          go_wp2
          go_roundw
          case rel => exact ⟨1 + 1, by omega, by go_num, by rw [HTK.out, HX.out]; simpa [str] using HOWN.out, hA4, hg'⟩
          case measure => simp [intOf]; try omega
      · have HX := hid (show str (un x) = .string (((⟨ow.toArray⟩ : ByteArray) ++ (⟨#[58, 58]⟩ : ByteArray)) ++ (⟨x.toArray⟩ : ByteArray)) by
          rw [HUN.out, if_neg (hno.2 hk1)]; unfold str; rw [← ba_app2 (ow ++ [58, 58]) x, ← ba_app2 ow [58, 58]])
        have hk1' : ((k : Int) == 1) = false := by rw [beq_eq_false_iff_ne]; omega
        clear hno hk1
        go_wp2_with (at_builtin; refine wpList_append_own _ rfl _ _ 35 rfl (ga + 1) 9 i0 _ 1 16 Tryd.underlying35 hi hz0 hz1 hz2 rfl (by decide) _ _ _ rfl (hown.alloc _) ⟨wr.heap.size, 0, none⟩ 1 1 [.string (((⟨ow.toArray⟩ : ByteArray) ++ (⟨#[58, 58]⟩ : ByteArray)) ++ (⟨x.toArray⟩ : ByteArray))] rfl rfl ?c1 ?c2 ?c3 ?c4 ?c5 ?_)
        case c1 =>
          intro j v hj
          match j, hj with
          | 0, hj => simp at hj; subst hj; simp [Addr.add]
        case c2 => intro v hv; simp at hv; subst hv; rfl
        case c3 => unfold maxLen; omega
        case c4 => omega
        case c5 => have := lt_of_block HAk.out; simp; omega
        · intro v' w4 hown' hgrow _
          have hg' := gr_own (gr_alloc gw _) (hown.alloc _) HGA.out hgrow
          have hA4 := gr_keep hgrow (gr_keep (World.grownBy_alloc wr (.cells #[.string (((⟨ow.toArray⟩ : ByteArray) ++ (⟨#[58, 58]⟩ : ByteArray)) ++ (⟨x.toArray⟩ : ByteArray))] 9) none) HAk.out (by simp)) HNQ.out
          have HOWN := hid hown'
          clear hgrow hown' hown
          go_wp2
          go_roundw
          case rel => exact ⟨k + 1, by omega, by go_num, by rw [HTK.out, HX.out]; simpa [str] using HOWN.out, hA4, hg'⟩
          case measure => simp [intOf]; try omega
    · obtain rfl : k = 6 := by omega
      have HT6 := hid (show N.take 6 = N from List.take_of_length_le (by rw [HL6.out]; exact Nat.le_refl _))
      rw [HT6.out] at hown
      go_wp2
      go_ret2
      exact ⟨ga, _, rfl, by rw [HN.out]; exact hAk, by rw [HN.out, HU.out]; exact row_le hown HGA.out, gw, HGA2.out⟩
end Go.Proofs.YtnapfecalckajaaDoor
