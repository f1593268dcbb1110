/- hearthref23.Search. -/
import Derived.Test.YtnapfecalckajaaDoorSs8
namespace Go.Proofs.YtnapfecalckajaaDoor
open Go.RowKit

def RSearchPost (w : World) (L : List (List UInt8)) (e : Ending) (w' : World) : Prop :=
  ∃ v, e = .returned v ∧ w'.ownsRow w.heap.size 9 1 v L.length (L.map str) ∧ w.grownBy w' none
theorem own_empty {w : World} {B g0 : Nat} (h : w.heap[g0]? = some (.cells #[] 9 (0, 0))) (hB : B ≤ g0) : w.ownsRow B 9 1 (.slice (some ⟨g0, 0, none⟩) 0 0) 0 [] :=
  ⟨rfl, .inr ⟨g0, 0, #[], rfl, hB, h, Nat.le_refl _, Nat.zero_le _, rfl, rfl⟩⟩
theorem rsearch_no {w w' : World} {lan g0 : Nat} {u : List UInt8} {o : Option (List (List UInt8 × List UInt8))} (h : askL o = none) (hg : w'.heap[g0]? = some (.cells #[] 9 (0, 0))) (hB : w.heap.size ≤ g0) (g : w.grownBy w' none) :
    RSearchPost w (ansS lan u (askL o)) (.returned (.slice (some ⟨g0, 0, none⟩) 0 0)) w' := by
  rw [h]; exact ⟨_, rfl, own_empty hg hB, g⟩
theorem refL_each : ∀ (ps : List (List UInt8)) (n : Nat), (∀ p ∈ ps, p.length ≤ n) → ∀ p ∈ (refL ps).1, p.length ≤ n
  | [], _, _ => by intro p hp; simp [refL] at hp
  | [_], _, _ => by intro p hp; simp [refL] at hp
  | q :: r :: s, n, h => by
    intro p hp
    unfold refL at hp
    split at hp
    · simp only [List.mem_cons, List.not_mem_nil, or_false] at hp; subst hp; simp
    · rcases List.mem_cons.1 hp with rfl | hp
      · exact h _ (by simp)
      · exact refL_each (r :: s) n (fun x hx => h x (by simp [hx])) p hp
theorem refL_len : ∀ ps : List (List UInt8), (refL ps).1.length ≤ ps.length
  | [] => by simp [refL]
  | [_] => by simp [refL]
  | q :: r :: s => by
    unfold refL
    split
    · simp
    · have := refL_len (r :: s)
      simp only [List.length_cons] at this ⊢; omega
/-- The loop over the inner lines: number k + 1. -/
def RfI (w0 : World) (P : List (List UInt8)) (vo vi : Value) (wr : World) : Prop :=
  ∃ (k : Nat) (fs : List (List UInt8 × List UInt8)), vi = .int .i64 ((k + 1 : Nat) : Int) ∧ k ≤ P.length ∧ fieldsL (P.take k) = some fs ∧ wr.ownsRow w0.heap.size 60 2 vo k (flatF fs) ∧ w0.grownBy wr none
/-- The loop over the six names. -/
def RnO (w : World) (lan : Nat) (st : List UInt8) (PR : List (List UInt8 × List UInt8)) (B g0 ga gb bc : Nat) (cs Na Nb : Array Value) (vo vi : Value) (wr : World) : Prop :=
  ∃ k : Nat, k ≤ 6 ∧ vi = .int .i64 (k : Int) ∧ OutR wr B g0 vo ((ansA lan st (PR.take k)).map str) ∧ (ansA lan st (PR.take k) = [] → wr.heap[g0]? = some (.cells #[] 9 (0, 0))) ∧
  wr.heap[ga]? = some (.cells Na 9 (0, 0)) ∧ wr.heap[gb]? = some (.cells Nb 9 (0, 0)) ∧ wr.heap[bc]? = some (.cells cs 28 (0, 0)) ∧ w.grownBy wr none ∧ B ≤ wr.heap.size
theorem gr_old {w a b : World} {row : Option Nat} (hg : w.grownBy a none) (h : a.grownBy b row) (hr : ∀ r, row = some r → w.heap.size ≤ r) : w.grownBy b none := by
  cases row with
  | none => exact gr_trans hg h
  | some r => exact gr_new hg h (hr r rfl)
theorem rnO_next {w w0 w1 : World} {lan B g0 ga gb bc k : Nat} {st A : List UInt8} {PR : List (List UInt8 × List UInt8)} {cs Na Nb : Array Value} {vo v' : Value}
    (hsn : ansA lan st (PR.take (k + 1)) = ansA lan st (PR.take k) ++ [A]) (ho : OutR w1 B g0 v' ((ansA lan st (PR.take k)).map str ++ [str A])) (gg : w0.grownBy w1 vo.ownBlock)
    (ha : w0.heap[ga]? = some (.cells Na 9 (0, 0))) (hak : some ga ≠ vo.ownBlock) (hb : w0.heap[gb]? = some (.cells Nb 9 (0, 0))) (hbk : some gb ≠ vo.ownBlock) (hc : w0.heap[bc]? = some (.cells cs 28 (0, 0))) (hck : some bc ≠ vo.ownBlock)
    (g0' : w.grownBy w0 none) (hr : ∀ r, vo.ownBlock = some r → w.heap.size ≤ r) (hB : B ≤ w0.heap.size) (hk : k < 6) : RnO w lan st PR B g0 ga gb bc cs Na Nb v' (.int .i64 ((k : Int) + 1)) w1 := by
  refine ⟨k + 1, by omega, by go_num, ?_, ?_, gr_keep gg ha hak, gr_keep gg hb hbk, gr_keep gg hc hck, gr_old g0' gg hr, Nat.le_trans hB gg.size⟩
  · rw [hsn, List.map_append]; exact ho
  · rw [hsn]; intro h; simp at h
def Fy1 (A : List UInt8) (w0 : World) (v : Value) (w : World) : Prop := ∃ g, v = .slice (some ⟨g, 0, none⟩) 1 1 ∧ w.heap[g]? = some (.cells #[.string ⟨A.toArray⟩] 9 (0, 0)) ∧ w0.heap.size ≤ g
theorem Fy1.kept {A : List UInt8} {w0 w w' : World} {v : Value} {row : Option Nat} (h : Fy1 A w0 v w) (g : w.grownBy w' row) (hr : ∀ r, row = some r → r < w0.heap.size) : Fy1 A w0 v w' := by
  obtain ⟨g1, rfl, h1, h2⟩ := h
  exact ⟨g1, rfl, gr_keep g h1 (ne_row hr h2), h2⟩
set_option maxRecDepth 100000 in
set_option maxHeartbeats 8000000 in
theorem rsearch_any (cs : Array Value) (lan : Nat) (u : List UInt8) (s : ByteArray) (w : World) (hs : s.size ≤ 3000) (hc : CfOk cs lan u) (hu : u.length ≤ 300) :
    Calls Tryd.prog 9 #[.agg cs, .string s] w (RSearchPost w (ansS lan u (askL (rfF s.data.toList)))) := by
  obtain ⟨t, ht⟩ : ∃ t, s.data.toList = t := ⟨_, rfl⟩
  have hlen : s.size = t.length := by rw [← ht, ← Lib.size_eq]
  have HLI := hid (fun W => rlines_any s W (by omega))
  rw [ht] at HLI ⊢
  have HC := hid hc
  have HLN := hid hlen
  clear ht hc
  go_enter Tryd.func9, Tryd.ntmps9
  go_wp2_with fail
  have hc0 := heap_alloc_new w (.cells cs 28)
  have ho0 := heap_alloc_new (w.alloc (.cells cs 28)) (.cells #[] 9)
  have hc1 := gr_keep (World.grownBy_alloc (w.alloc (.cells cs 28)) (.cells #[] 9) none) hc0 (by simp)
  have g1 : w.grownBy ((w.alloc (.cells cs 28)).alloc (.cells #[] 9)) none := gr_alloc (gr_alloc (gr_refl _ _) _) _
  have s1 : ((w.alloc (.cells cs 28)).alloc (.cells #[] 9)).heap.size = w.heap.size + 2 := by simp only [World.size_alloc]
  simp only [World.size_alloc] at ho0
  clear hc0
  obtain ⟨bc, hbc⟩ : ∃ x, x = w.heap.size := ⟨_, rfl⟩
  obtain ⟨g0, hg0⟩ : ∃ x, x = w.heap.size + 1 := ⟨_, rfl⟩
  rw [← hg0] at ho0 ⊢
  rw [← hbc] at hc1 ⊢
  obtain ⟨w1, hw1⟩ : ∃ x, (w.alloc (.cells cs 28)).alloc (.cells #[] 9) = x := ⟨_, rfl⟩
  rw [hw1] at hc1 ho0 g1 s1 ⊢
  have HG0 := hid (show w.heap.size ≤ g0 by omega)
  have HGB := hid (show g0 < w1.heap.size by omega)
  have HGC := hid (show bc < g0 by omega)
  have HH1 := hid hc1
  have HO1 := hid ho0
  have G1 := hid g1
  clear hc1 ho0 g1 hw1 hbc hg0 s1
  refine (HLI.out w1).mono ?_
  rintro e w2 ⟨lv, rfl, hlv, g2⟩
  have HH2 := hid (gr_keep g2 HH1.out (by simp))
  have HO2 := hid (gr_keep g2 HO1.out (by simp))
  have G2 := hid (gr_trans G1.out g2)
  have HEL := hid (refL_each (lns t) t.length (lns_each t))
  have HCL := hid (Nat.le_trans (refL_len (lns t)) (lns_len t))
  obtain ⟨L, lok, hL⟩ : ∃ a b, refL (lns t) = (a, b) := ⟨_, _, rfl⟩
  rw [hL] at hlv HEL HCL ⊢
  have HL := hid hL
  have HLV := hid hlv
  obtain ⟨la, lc, rfl, hlc⟩ := own_shape hlv
  have hcl : L.length ≤ 3001 := by have := HCL.out; have := HLN.out; dsimp only at *; omega
  have HSZ2 := hid (Nat.lt_of_lt_of_le HGB.out g2.size)
  clear g2 HH1 HO1 G1 hL hlv HLI
  dsimp only
  obtain ⟨n, hn⟩ : ∃ n, n = L.length := ⟨_, rfl⟩
  rw [← hn] at hlc hcl ⊢
  have HN := hid hn
  clear hn
  by_cases hgood : lok = true ∧ s.size ≤ 1024 ∧ 2 ≤ n
  · obtain ⟨rfl, hz, h2⟩ := hgood
    have HF := hid (show rfF t = ofPieces L.dropLast by unfold rfF; rw [HL.out, if_pos ⟨rfl, by rw [← HLN.out]; exact hz, by rw [← HN.out]; exact h2⟩])
    obtain ⟨p0, hp0⟩ : ∃ p, L[0]? = some p := ⟨_, List.getElem?_eq_getElem (by rw [← HN.out]; omega)⟩
    obtain ⟨gl, lc', ela, hbl, hlc', hcells⟩ := own_cell HLV.out (by rw [← HN.out]; omega)
    simp only [Value.slice.injEq] at ela
    obtain ⟨rfl, -, rfl⟩ := ela
    have hcl0 : w2.cell? ⟨gl, 0, none⟩ = some (.string ⟨p0.toArray⟩) := hcells 0 (str p0) (by rw [List.getElem?_map, hp0]; rfl)
    have hp0l : p0.length ≤ 1024 := by have := HEL.out p0 (List.mem_of_getElem? hp0); have := HLN.out; omega
    have HP0 := hid hp0
    have HCE := hid hcells
    have hz' : (s.size : Int) ≤ 1024 := by omega
    have h2' : ¬ (n : Int) < 2 := by omega
    clear hp0 hcells hbl
    go_wp2_with fail
    refine (rstart_any ⟨p0.toArray⟩ w2 (by rw [Lib.size_eq]; simp; omega)).mono ?_
    rintro e w3 ⟨rfl, g3⟩
    rw [show (ByteArray.mk p0.toArray).data.toList = p0 from rfl]
    obtain ⟨m1, t1, mi, ok, hst⟩ : ∃ m1 t1 mi ok, stR p0 = (m1, t1, mi, ok) := ⟨_, _, _, _, rfl⟩
    rw [hst]
    have HST := hid hst
    have HH3 := hid (gr_keep g3 HH2.out (by simp))
    have HO3 := hid (gr_keep g3 HO2.out (by simp))
    have G3 := hid (gr_trans G2.out g3)
    have HCE3 := hid (fun i v h => g3.cell (HCE.out i v h) (by simp) : ∀ i v, (L.map str)[i]? = some v → w3.cell? ⟨gl, i, none⟩ = some v)
    have HSZ3 := hid (Nat.lt_of_lt_of_le HSZ2.out g3.size)
    have HHD := hid (show L.dropLast.headD [] = p0 by
      have h0 := HP0.out
      cases L with
      | nil => simp at h0
      | cons a r =>
        obtain rfl : a = p0 := by simpa using h0
        cases r with
        | nil => have := HN.out; simp at this; omega
        | cons b r => rfl)
    clear hst g3 HH2 HO2 G2 HCE hcl0 hz'
    unfold str
    dsimp only
    by_cases hq : ok = true ∧ m1 = [77, 45, 83, 69, 65, 82, 67, 72] ∧ t1 = [42] ∧ (mi != 1) = false
    · obtain ⟨rfl, rfl, rfl, hmi⟩ := hq
      have hmi1 : mi = 1 := by simpa using hmi
      have HF2 := hid (show rfF t = fieldsL L.dropLast.tail by
        rw [HF.out]; unfold ofPieces
        rw [HHD.out, HST.out, if_pos ⟨rfl, rfl, rfl, hmi1⟩])
      clear hmi1 HF HHD HST HP0
      go_wp2_with fail
      have hml : w3.grownBy (w3.alloc (.cells #[] 60)) none := World.grownBy_alloc w3 _ none
      have hP : ∀ k, k < n - 2 → L.dropLast.tail[k]? = L[k + 1]? := fun k hk => by
        rw [List.getElem?_tail, List.getElem?_dropLast, if_pos (by rw [← HN.out]; omega)]
      have HPK := hid hP
      have HPL := hid (show L.dropLast.tail.length = n - 2 by rw [List.length_tail, List.length_dropLast, ← HN.out]; omega)
      have HPE := hid (fun p hp => HEL.out p (List.dropLast_subset L (List.mem_of_mem_tail hp)) : ∀ p ∈ L.dropLast.tail, p.length ≤ t.length)
      clear hP
      obtain ⟨P, hPd⟩ : ∃ P, L.dropLast.tail = P := ⟨_, rfl⟩
      rw [hPd] at HPK HPL HPE HF2
      clear hPd
      obtain ⟨np, hnp⟩ : ∃ x, x = n - 2 := ⟨_, rfl⟩
      rw [← hnp] at HPK HPL
      have hn2 : n = np + 2 := by omega
      have HNP := hid hn2
      have HSS := hid hz
      obtain ⟨i0, hi, hz0, hz1, hz2⟩ := info_parts infoField
      have hnp3 : np ≤ 3000 := by omega
      have hn2a : n ≤ np + 2 := by omega
      have hn2b : np + 2 ≤ n := by omega
      clear hnp hz h2 h2' hp0l hn2
      go_loopw [12, 13] (fun vo vi wr => RfI w3 P vo vi wr) (fun _ vi _ => n - (intOf vi).toNat)
      case atStart => exact ⟨0, [], rfl, Nat.zero_le _, rfl, World.ownsRow_made w3 #[] 0 (Nat.le_refl _) (by unfold maxLen; omega) rfl, hml⟩
      case round =>
        obtain ⟨k, fs, rfl, hk, hfs, how, gw⟩ := hrel
        rw [HPL.out] at hk
        have HFS := hid hfs
        have hsz := gw.size
        have hni : (n : Int) - 1 = ((np + 1 : Nat) : Int) := by omega
        have hw1 : IntKind.i64.wrap ((n : Int) - 1) = ((np + 1 : Nat) : Int) := by rw [hni]; exact IntWalk.i64_in _ (by omega)
        clear hfs hml
        by_cases hkl : k < np
        · obtain ⟨x, hx⟩ : ∃ x, P[k]? = some x := ⟨_, List.getElem?_eq_getElem (by rw [HPL.out]; exact hkl)⟩
          have hLx : L[k + 1]? = some x := by rw [← HPK.out k hkl]; exact hx
          have hcell : wr.cell? ⟨gl, k + 1, none⟩ = some (.string ⟨x.toArray⟩) := gw.cell (HCE3.out (k + 1) (str x) (by rw [List.getElem?_map, hLx]; rfl)) (by simp)
          have hxl : x.length ≤ 1024 := by have := HPE.out x (List.mem_of_getElem? hx); have := HLN.out; have := HSS.out; omega
          have HX := hid hx
          clear hx hLx hni
          go_wp2_with fail
          refine (rline_any ⟨x.toArray⟩ wr (by rw [Lib.size_eq]; simp; omega)).mono ?_
          rintro e w5 ⟨rfl, g5⟩
          rw [show (ByteArray.mk x.toArray).data.toList = x from rfl]
          have how5 := row_none how g5
          have g05 := gr_trans gw g5
          have hsz5 := g5.size
          have HO5 := hid (gr_keep g05 HO3.out (by simp))
          have G5 := hid (gr_trans G3.out g05)
          clear how gw g5 hcell
          cases hgd : (lnR x).2.2
          · have HNO := hid (show askL (rfF t) = none by
              rw [HF2.out]
              have hb := fieldsL_bad P x (List.mem_of_getElem? HX.out) hgd
              cases hf : fieldsL P with
              | none => rfl
              | some x => rw [hf] at hb; cases hb)
            clear hgd
            unfold str
            generalize (lnR x).1 = fn1
            generalize (lnR x).2.1 = fv1
            have HE := hid (fun (o : Obj) => rsearch_no (lan := lan) (u := u) HNO.out (gr_keep (World.grownBy_alloc w5 o none) HO5.out (by simp)) HG0.out (gr_alloc G5.out o))
            clear g05 how5
            go_wp2_with fail
            go_ret
            exact HE.out _
          · have HFN := hid (show fieldsL (P.take (k + 1)) = some (fs ++ [((lnR x).1, (lnR x).2.1)]) by
              rw [List.take_add_one, HX.out]
              exact fieldsL_snoc _ _ _ HFS.out hgd)
            clear hgd HFS HX
            unfold str
            generalize (lnR x).1 = fn1 at HFN ⊢
            generalize (lnR x).2.1 = fv1 at HFN ⊢
            go_wp2_with (at_builtin; refine wpList_append_own _ rfl _ _ 44 rfl w3.heap.size 60 i0 _ 2 32 Tryd.underlying44 hi hz0 hz1 hz2 rfl (by decide) _ _ _ rfl ((how5.alloc _).alloc _) ⟨w5.heap.size + 1, 0, none⟩ 1 1 [.string ⟨fn1.toArray⟩, .string ⟨fv1.toArray⟩] rfl rfl ?c1 ?c2 ?c3 ?c4 ?c5 ?_)
            case c1 =>
              intro j v hj
              match j, hj with
              | 0, hj => simp at hj; subst hj; simp [Addr.add]
              | 1, hj => simp at hj; subst hj; simp [Addr.add]
            case c2 => intro v hv; simp at hv; rcases hv with rfl | rfl <;> rfl
            case c3 => unfold maxLen; omega
            case c4 => omega
            case c5 => simp; omega
            · intro v' w6 hown' hgrow _
              have hg' := gr_own (gr_alloc (gr_alloc g05 _) _) ((how5.alloc _).alloc _) (Nat.le_refl _) hgrow
              have HOWN := hid hown'
              clear hgrow how5 g05 hown'
              go_wp2
              go_roundw
              case rel => exact ⟨k + 1, _, by go_num, by rw [HPL.out]; omega, HFN.out, by rw [flatF_snoc]; exact HOWN.out, hg'⟩
              case measure => simp [intOf]; omega
        · obtain rfl : k = np := by omega
          have hfs := HFS.out
          rw [List.take_of_length_le (by rw [HPL.out]; exact Nat.le_refl _)] at hfs
          have hlf : fs.length = k := by rw [fieldsL_len _ _ hfs, HPL.out]
          have HFW := hid (fsw_of_row (fs := fs) (by rw [hlf]; exact how))
          have HFL := hid (show fs.length ≤ 100000 by omega)
          have HVL := hid (fieldsL_vlen 3000 _ _ hfs (fun p hp => by have := HPE.out p hp; have := HLN.out; have := HSS.out; omega))
          have HFO := hid (HF2.out.trans hfs)
          have HH4 := hid (gr_keep gw HH3.out (by simp))
          have HO4 := hid (gr_keep gw HO3.out (by simp))
          have G4 := hid (gr_trans G3.out gw)
          have HSZ4 := hid (Nat.lt_of_lt_of_le HSZ3.out gw.size)
          clear hfs hlf how gw HFS HF2 HH3 HO3 G3 HSZ3 hkl hk HPK HPL HPE HCE3
          go_wp2_with fail
          refine (rone_any wr _ fs manT HFW.out HFL.out).mono ?_
          rintro e w5 ⟨rfl, g5⟩
          have HF5 := hid (HFW.out.grow g5)
          have g05 := hid g5
          clear g5
          go_wp2_with fail
          refine (rone_any w5 _ fs stT HF5.out HFL.out).mono ?_
          rintro e w6 ⟨rfl, g6⟩
          have HF6 := hid (HF5.out.grow g6)
          have g06 := hid (gr_trans g05.out g6)
          clear g6 g05 HF5
          go_wp2_with fail
          refine (rone_any w6 _ fs mxT HF6.out HFL.out).mono ?_
          rintro e w7 ⟨rfl, g7⟩
          have g07 := hid (gr_trans g06.out g7)
          clear g7 g06 HF6 HFW HFL
          have HML := hid (one_len (nm := mxT) HVL.out)
          have HSL := hid (one_len (nm := stT) HVL.out)
          obtain ⟨man, manb, hman⟩ : ∃ a b, oneL fs manT = (a, b) := ⟨_, _, rfl⟩
          obtain ⟨st, stb, hst⟩ : ∃ a b, oneL fs stT = (a, b) := ⟨_, _, rfl⟩
          obtain ⟨mx, mxb, hmx⟩ : ∃ a b, oneL fs mxT = (a, b) := ⟨_, _, rfl⟩
          rw [hman, hst, hmx]
          rw [hst] at HSL
          rw [hmx] at HML
          have HMAN := hid hman
          have HST := hid hst
          have HMX := hid hmx
          clear hman hst hmx HVL
          dsimp only at HML HSL ⊢
          unfold str
          go_wp2_with fail
          refine (rnumber_any ⟨mx.toArray⟩ 10 9999999 w7 (by rw [Lib.size_eq]; simp; have := HML.out; omega)).mono ?_
          rintro e w8 ⟨rfl, g8⟩
          have g08 := hid (gr_trans g07.out g8)
          clear g8 g07
          rw [show (ByteArray.mk mx.toArray).data.toList = mx from rfl]
          obtain ⟨nn, nb, hnn⟩ : ∃ a b, numR 10 9999999 mx = (a, b) := ⟨_, _, rfl⟩
          rw [hnn]
          have HNN := hid hnn
          clear hnn
          dsimp only
          have HH8 := hid (gr_keep g08.out HH4.out (by simp))
          have HO8 := hid (gr_keep g08.out HO4.out (by simp))
          have G8 := hid (gr_trans G4.out g08.out)
          have HSZ8 := hid (Nat.lt_of_lt_of_le HSZ4.out g08.out.size)
          clear g08 HH4 HO4 G4 HSZ4 HML
          have HMB := hid (show manb = false → man = [] from fun h => by have := one_false (fs := fs) (n := manT) (by rw [HMAN.out]; exact h); rw [HMAN.out] at this; exact this)
          have HXB := hid (show mxb = false → nb = false from fun h => by
            have := one_false (fs := fs) (n := mxT) (by rw [HMX.out]; exact h)
            rw [HMX.out] at this
            dsimp only at this
            have h2 := HNN.out
            rw [this] at h2
            rw [← num_nil, h2])
          by_cases hyes : manb = true ∧ stb = true ∧ mxb = true ∧ nb = true ∧ man = [34, 115, 115, 100, 112, 58, 100, 105, 115, 99, 111, 118, 101, 114, 34] ∧ (nn == 0) = false
          · obtain ⟨rfl, rfl, rfl, rfl, rfl, hn0⟩ := hyes
            have HA := hid (show askL (rfF t) = some st by
              rw [HFO.out]
              unfold askL
              dsimp only
              rw [HMAN.out, HST.out, HMX.out]
              dsimp only
              rw [HNN.out, if_pos ⟨rfl, rfl, rfl, by simpa using hn0⟩])
            clear HMB HXB HNN HMAN HST HMX HFO
            go_wp2_with (refine wpList_load_row rfl 28 _ rfl bc rfl 28 cs (0, 0) _ HH8.out Tryd.underlying28 rfl (by rw [HC.out.sz]; kernel_rfl) ?_)
            refine (rnames_any cs lan u w8 HC.out hu).mono ?_
            rintro e w9 ⟨ga, vb, rfl, hga, hvb, g9, hga8⟩
            have hvb2 := hvb.2
            obtain ⟨gb, cb, cur, hvbe, hgb, hbh, hbc, hbm, hbs, hbt⟩ : ∃ gb cb cur, vb = .slice (some ⟨gb, 0, none⟩) 6 cb ∧ w8.heap.size ≤ gb ∧ w9.heap[gb]? = some (.cells cur 9 (0, 0)) ∧ 6 ≤ cb ∧ cb ≤ maxLen ∧ cur.size = cb * 1 ∧ cur.toList.take (6 * 1) = ((nmL u).map (unL u)).map str := by
              rcases hvb2 with ⟨_, h⟩ | h
              · omega
              · exact h
            subst hvbe
            have HCUR := hid (fun i v hv => by
              have hi : i < 6 := by have := (List.getElem?_eq_some_iff.1 hv).1; simpa [nmL] using this
              rw [← hbt, List.getElem?_take, if_pos (by omega)] at hv
              simpa using hv : ∀ (i : Nat) (v : Value), (((nmL u).map (unL u)).map str)[i]? = some v → cur[i]? = some v)
            have HH9 := hid (gr_keep g9 HH8.out (by simp))
            have HO9 := hid (gr_keep g9 HO8.out (by simp))
            have G9 := hid (gr_trans G8.out g9)
            have HGA9 := hid hga
            have HGB9 := hid hbh
            have HLA := hid (lt_of_block hga)
            have HLB := hid (lt_of_block hbh)
            have HA0 := hid (show ga ≠ g0 by have := HSZ8.out; omega)
            have HB0 := hid (show gb ≠ g0 by have := HSZ8.out; omega)
            have HC0 := hid (show bc ≠ g0 by have := HGC.out; omega)
            have HCL9 := hid (lt_of_block HH9.out)
            have HPRE := hid (show prsU u = (nmL u).map fun n => (n, unL u n) from rfl)
            have HNL := hid (nmL_len hu)
            have HL6 := hid (show (nmL u).length = 6 from rfl)
            have HUL := hid (fun x (hx : x.length ≤ 305) => (by
              have hoL : (ownU u).length ≤ 305 := by unfold ownU; rw [List.length_append]; show 5 + u.length ≤ 305; omega
              unfold unL; split
              · omega
              · simp only [List.length_append, List.length_cons, List.length_nil]; omega : (unL u x).length ≤ 700))
            clear hga hvb hvb2 g9 hga8 hgb hbh hbc hbm hbs hbt HH8 HO8 G8 HSZ8 hn0 hmi
            obtain ⟨N, hN⟩ : ∃ N, nmL u = N := ⟨_, rfl⟩
            obtain ⟨un, hun⟩ : ∃ un, unL u = un := ⟨_, rfl⟩
            obtain ⟨PR, hPR⟩ : ∃ PR, prsU u = PR := ⟨_, rfl⟩
            rw [hN, hun] at HCUR HPRE
            rw [hN] at HNL HL6 HGA9
            rw [hun] at HUL
            rw [hPR] at HPRE
            have HPU := hid hPR
            clear hN hun hPR
            obtain ⟨B, hB⟩ : ∃ B, B = w9.heap.size := ⟨_, rfl⟩
            rw [← hB] at HLA HLB HCL9
            have HB9 := hid hB
            have HGB9b := hid (lt_of_block HO9.out)
            clear hB
            go_wp2_with fail
            go_loopw [5, 26] (fun vo vi wr => RnO w lan st PR B g0 ga gb bc cs (N.map str).toArray cur vo vi wr) (fun _ vi _ => 6 - (intOf vi).toNat)
            case atStart => exact ⟨0, Nat.zero_le _, rfl, .inl ⟨rfl, rfl⟩, fun _ => HO9.out, HGA9.out, HGB9.out, HH9.out, G9.out, by rw [HB9.out]; exact Nat.le_refl _⟩
            case round =>
              obtain ⟨k, hk, rfl, hou, hz0, hga, hgb, hbc, gw, hBs⟩ := hrel
              by_cases hlt : k < 6
              · obtain ⟨x, hx⟩ : ∃ x, N[k]? = some x := ⟨_, List.getElem?_eq_getElem (by rw [HL6.out]; exact hlt)⟩
                have hcell : wr.cell? ⟨ga, k, none⟩ = some (.string ⟨x.toArray⟩) := (cell_of_block hga k).trans (by simp [hx]; rfl)
                obtain ⟨y, hy⟩ : ∃ y, un x = y := ⟨_, rfl⟩
                have HTK := hid (show PR.take (k + 1) = PR.take k ++ [(x, y)] by rw [HPRE.out, List.take_add_one, List.getElem?_map, hx, ← hy]; rfl)
                have hxl : x.length ≤ 305 := HNL.out x (List.mem_of_getElem? hx)
                have hyl : y.length ≤ 700 := by rw [← hy]; exact HUL.out x hxl
                have HCA := hid (show ((N.map str).toArray : Array Value)[k]? = some (.string ⟨x.toArray⟩) by simp [hx]; rfl)
                have HCB := hid (show cur[k]? = some (.string ⟨y.toArray⟩) from HCUR.out k (str y) (by rw [List.getElem?_map, List.getElem?_map, hx, ← hy]; rfl))
                clear hx hy
                by_cases hsel : st = x ∨ st = [115, 115, 100, 112, 58, 97, 108, 108]
                · have HSN0 := hid (show ansA lan st (PR.take (k + 1)) = ansA lan st (PR.take k) ++ [ansL lan x y] by rw [HTK.out, ansA_yes lan st _ (x, y) (hsel.symm)])
                  have HOU := hid hou
                  have HGA := hid hga
                  have HGBB := hid hgb
                  have HCF := hid hbc
                  have HAK := hid (hou.ne HLA.out HA0.out)
                  have HBK := hid (hou.ne HLB.out HB0.out)
                  have HCK := hid (hou.ne HCL9.out HC0.out)
                  have G0 := hid gw
                  have HRO := hid (hou.old (w0 := w) (by have := HB9.out; have := G9.out.size; omega) HG0.out)
                  have HRL := hid (hou.lt (by have := HGB9b.out; have := HB9.out; omega))
                  have HBS := hid hBs
                  have HLE := hid (show ((ansA lan st (PR.take k)).map str).length ≤ 1000 by rw [List.length_map]; have := ansA_len lan st (PR.take k); rw [List.length_take] at this; omega)
                  have HSZ28 := hid (show (Tryd.prog.info? 28).map (·.size) = some cs.size by rw [HC.out.sz]; kernel_rfl)
                  have HK7 := hid hlt
                  have HK6 := hid (show (k : Int) < 6 by omega)
                  have htl : (textL lan).length ≤ 15 := join4_len _ (beL_len 4 lan)
                  have hpl : (placeL lan).length ≤ 60 := by unfold placeL locT descT; simp only [List.length_append, List.length_cons, List.length_nil]; omega
                  obtain ⟨A3, hA3⟩ : ∃ A, hd1T ++ (placeL lan ++ [13, 10]) = A := ⟨_, rfl⟩
                  obtain ⟨A4, hA4⟩ : ∃ A, A3 ++ hd2T = A := ⟨_, rfl⟩
                  obtain ⟨A5, hA5⟩ : ∃ A, A4 ++ stcT = A := ⟨_, rfl⟩
                  obtain ⟨A10, hA10⟩ : ∃ A, A5 ++ x = A := ⟨_, rfl⟩
                  obtain ⟨A11, hA11⟩ : ∃ A, A10 ++ usnT = A := ⟨_, rfl⟩
                  obtain ⟨A16, hA16⟩ : ∃ A, A11 ++ y = A := ⟨_, rfl⟩
                  obtain ⟨A17, hA17⟩ : ∃ A, A16 ++ crlf4 = A := ⟨_, rfl⟩
                  have HSN := hid (show ansA lan st (PR.take (k + 1)) = ansA lan st (PR.take k) ++ [A17] by rw [HSN0.out, ansL_parts, hA3, hA4, hA5, hA10, hA11, hA16, hA17])
                  have hl3 : A3.length ≤ 200 := by rw [← hA3, List.length_append, List.length_append]; simp only [hd1T, List.length_cons, List.length_nil]; omega
                  have hl4 : A4.length ≤ 300 := by rw [← hA4, List.length_append]; simp only [hd2T, List.length_cons, List.length_nil]; omega
                  have hl5 : A5.length ≤ 310 := by rw [← hA5, List.length_append]; simp only [stcT, List.length_cons, List.length_nil]; omega
                  have hl10 : A10.length ≤ 615 := by rw [← hA10, List.length_append]; omega
                  have hl11 : A11.length ≤ 630 := by rw [← hA11, List.length_append]; simp only [usnT, List.length_cons, List.length_nil]; omega
                  have hl16 : A16.length ≤ 1330 := by rw [← hA16, List.length_append]; omega
                  have HE3 := hid (show ((⟨#[72, 84, 84, 80, 47, 49, 46, 49, 32, 50, 48, 48, 32, 79, 75, 13, 10, 67, 65, 67, 72, 69, 45, 67, 79, 78, 84, 82, 79, 76, 58, 32, 109, 97, 120, 45, 97, 103, 101, 61, 49, 56, 48, 48, 13, 10, 69, 88, 84, 58, 13, 10]⟩ : ByteArray) ++ (⟨(placeL lan ++ [13, 10]).toArray⟩ : ByteArray)) = ⟨A3.toArray⟩ by rw [← hA3, ← ba_app2]; rfl)
                  have HE4 := hid (show ((⟨A3.toArray⟩ : ByteArray) ++ (⟨#[83, 69, 82, 86, 69, 82, 58, 32, 104, 101, 97, 114, 116, 104, 47, 49, 32, 85, 80, 110, 80, 47, 49, 46, 49, 32, 104, 101, 97, 114, 116, 104, 47, 49, 13, 10]⟩ : ByteArray)) = ⟨A4.toArray⟩ by rw [← hA4, ← ba_app2]; rfl)
                  have HE5 := hid (show ((⟨A4.toArray⟩ : ByteArray) ++ (⟨#[83, 84, 58, 32]⟩ : ByteArray)) = ⟨A5.toArray⟩ by rw [← hA5, ← ba_app2]; rfl)
                  have HE10 := hid (show ((⟨A5.toArray⟩ : ByteArray) ++ (⟨x.toArray⟩ : ByteArray)) = ⟨A10.toArray⟩ by rw [← hA10, ← ba_app2])
                  have HE11 := hid (show ((⟨A10.toArray⟩ : ByteArray) ++ (⟨#[13, 10, 85, 83, 78, 58, 32]⟩ : ByteArray)) = ⟨A11.toArray⟩ by rw [← hA11, ← ba_app2]; rfl)
                  have HE16 := hid (show ((⟨A11.toArray⟩ : ByteArray) ++ (⟨y.toArray⟩ : ByteArray)) = ⟨A16.toArray⟩ by rw [← hA16, ← ba_app2])
                  have HE17 := hid (show ((⟨A16.toArray⟩ : ByteArray) ++ (⟨#[13, 10, 13, 10]⟩ : ByteArray)) = ⟨A17.toArray⟩ by rw [← hA17, ← ba_app2]; rfl)
                  have HX3 := hid (show ¬ 9223372036854775807 < 52 + ((placeL lan).length + 2) by omega)
                  have HX4 := hid (show ¬ 9223372036854775807 < A3.length + 36 by omega)
                  have HX5 := hid (show ¬ 9223372036854775807 < A4.length + 4 by omega)
                  have HX10 := hid (show ¬ 9223372036854775807 < A5.length + x.length by omega)
                  have HX11 := hid (show ¬ 9223372036854775807 < A10.length + 7 by omega)
                  have HX16 := hid (show ¬ 9223372036854775807 < A11.length + y.length by omega)
                  have HX17 := hid (show ¬ 9223372036854775807 < A16.length + 4 by omega)
                  obtain ⟨oa, oc, rfl⟩ := hou.shape
                  obtain ⟨ko, hko⟩ : ∃ ko, ko = ((ansA lan st (PR.take k)).map str).length := ⟨_, rfl⟩
                  rw [← hko] at HOU HAK HBK HCK HRO HRL ⊢
                  obtain ⟨w0, hw0⟩ : ∃ w0, w0 = wr := ⟨_, rfl⟩
                  subst hw0
                  clear hA3 hA4 hA5 hA10 hA11 hA16 hA17 hl3 hl4 hl5 hl10 hl11 hl16 hpl htl hou hga hgb hz0 gw hBs hko HSN0 HTK
                  by_cases h1 : (st == x) = true
                  · clear hsel
                    go_wp2_with fail
                    clear h1 hcell hxl hyl hbc
                    refine wp_region_spec3 20 19 (Value.slice oa ko oc).ownBlock (by kernel_rfl) (by kernel_rfl) (by kernel_rfl) (by kernel_rfl) (by kernel_rfl) (by kernel_rfl) [some 155, some 156, some 157, some 158, some 159, some 160, some 161, some 162, some 163, some 164, some 165, some 166, some 167, some 168, some 169, some 170, some 171, some 172, some 173, some 174] (by kernel_rfl) _ (fun u => (by simp only [fill, List.zipIdx_cons, List.zipIdx_nil, List.foldl_cons, List.foldl_nil, Act.put, List.setIfInBounds_toArray, List.set_cons_zero, List.set_cons_succ, Nat.zero_add, Nat.reduceAdd]; exact rfl)) (by kernel_rfl)
                      (all_succ (all_succ (all_succ (all_succ (all_succ (all_succ (all_succ (all_succ (all_succ (all_succ (all_succ (all_succ (all_succ (all_succ (all_succ (all_succ (all_succ (all_succ (all_succ (all_succ (all_zero _) (fun u v => by kernel_rfl)) (fun u v => by kernel_rfl)) (fun u v => by kernel_rfl)) (fun u v => by kernel_rfl)) (fun u v => by kernel_rfl)) (fun u v => by kernel_rfl)) (fun u v => by kernel_rfl)) (fun u v => by kernel_rfl)) (fun u v => by kernel_rfl)) (fun u v => by kernel_rfl)) (fun u v => by kernel_rfl)) (fun u v => by kernel_rfl)) (fun u v => by kernel_rfl)) (fun u v => by kernel_rfl)) (fun u v => by kernel_rfl)) (fun u v => by kernel_rfl)) (fun u v => by kernel_rfl)) (fun u v => by kernel_rfl)) (fun u v => by kernel_rfl)) (fun u v => by kernel_rfl))
                      (fun ri v w => match ri with | 0 => v = .slice oa ko oc | 1 => v = .agg cs | 2 => v = .string ⟨(placeL lan ++ [13, 10]).toArray⟩ | 3 => v = .string ⟨A3.toArray⟩ | 4 => v = .string ⟨A4.toArray⟩ | 5 => v = .string ⟨A5.toArray⟩ | 6 => v = .slice (some ⟨ga, 0, none⟩) 6 6 | 7 => v = .int .i64 (k : Int) | 8 => v = .pointer (some ⟨ga, k, none⟩) | 9 => v = .string ⟨x.toArray⟩ | 10 => v = .string ⟨A10.toArray⟩ | 11 => v = .string ⟨A11.toArray⟩ | 12 => v = .slice (some ⟨gb, 0, none⟩) 6 cb | 13 => v = .int .i64 (k : Int) | 14 => v = .pointer (some ⟨gb, k, none⟩) | 15 => v = .string ⟨y.toArray⟩ | 16 => v = .string ⟨A16.toArray⟩ | 17 => v = .string ⟨A17.toArray⟩ | 18 => Fy1 A17 w0 v w | 19 => OutR w B g0 v ((ansA lan st (PR.take k)).map str ++ [str A17]) | _ => True)
                      (all_succ (all_succ (all_succ (all_succ (all_succ (all_succ (all_succ (all_succ (all_succ (all_succ (all_succ (all_succ (all_succ (all_succ (all_succ (all_succ (all_succ (all_succ (all_succ (all_succ (all_zero _) ?zm0) ?zm1) ?zm2) ?zm3) ?zm4) ?zm5) ?zm6) ?zm7) ?zm8) ?zm9) ?zm10) ?zm11) ?zm12) ?zm13) ?zm14) ?zm15) ?zm16) ?zm17) ?zm18) ?zm19)
                      [[], [], [1], [2], [3], [4], [], [], [6, 7], [8], [5, 9], [10], [], [], [12, 13], [14], [11, 15], [16], [17], [0, 18]] (by kernel_rfl)
                      ⟨?zo0, ?zo1, ?zo2, ?zo3, ?zo4, ?zo5, ?zo6, ?zo7, ?zo8, ?zo9, ?zo10, ?zo11, ?zo12, ?zo13, ?zo14, ?zo15, ?zo16, ?zo17, ?zo18, ?zo19, trivial⟩ ?zdone
                    case zm0 => intro v w w' h g; first | exact h | exact Fy1.kept h g HRL.out | exact OutR.grow h g
                    case zm1 => intro v w w' h g; first | exact h | exact Fy1.kept h g HRL.out | exact OutR.grow h g
                    case zm2 => intro v w w' h g; first | exact h | exact Fy1.kept h g HRL.out | exact OutR.grow h g
                    case zm3 => intro v w w' h g; first | exact h | exact Fy1.kept h g HRL.out | exact OutR.grow h g
                    case zm4 => intro v w w' h g; first | exact h | exact Fy1.kept h g HRL.out | exact OutR.grow h g
                    case zm5 => intro v w w' h g; first | exact h | exact Fy1.kept h g HRL.out | exact OutR.grow h g
                    case zm6 => intro v w w' h g; first | exact h | exact Fy1.kept h g HRL.out | exact OutR.grow h g
                    case zm7 => intro v w w' h g; first | exact h | exact Fy1.kept h g HRL.out | exact OutR.grow h g
                    case zm8 => intro v w w' h g; first | exact h | exact Fy1.kept h g HRL.out | exact OutR.grow h g
                    case zm9 => intro v w w' h g; first | exact h | exact Fy1.kept h g HRL.out | exact OutR.grow h g
                    case zm10 => intro v w w' h g; first | exact h | exact Fy1.kept h g HRL.out | exact OutR.grow h g
                    case zm11 => intro v w w' h g; first | exact h | exact Fy1.kept h g HRL.out | exact OutR.grow h g
                    case zm12 => intro v w w' h g; first | exact h | exact Fy1.kept h g HRL.out | exact OutR.grow h g
                    case zm13 => intro v w w' h g; first | exact h | exact Fy1.kept h g HRL.out | exact OutR.grow h g
                    case zm14 => intro v w w' h g; first | exact h | exact Fy1.kept h g HRL.out | exact OutR.grow h g
                    case zm15 => intro v w w' h g; first | exact h | exact Fy1.kept h g HRL.out | exact OutR.grow h g
                    case zm16 => intro v w w' h g; first | exact h | exact Fy1.kept h g HRL.out | exact OutR.grow h g
                    case zm17 => intro v w w' h g; first | exact h | exact Fy1.kept h g HRL.out | exact OutR.grow h g
                    case zm18 => intro v w w' h g; first | exact h | exact Fy1.kept h g HRL.out | exact OutR.grow h g
                    case zm19 => intro v w w' h g; first | exact h | exact Fy1.kept h g HRL.out | exact OutR.grow h g
                    case zo0 =>
                      intro u' w g hd K hK
                      replace g : w0.grownBy w ((Value.slice oa ko oc).ownBlock) := g
                      clear hd
                      simp only [Act.put, List.setIfInBounds_toArray, List.set_cons_zero, List.set_cons_succ] at hK
                      go_simp
                      exact hK _ _ rfl (gr_refl _ _)
                    case zo1 =>
                      intro u' w g hd K hK
                      replace g : w0.grownBy w ((Value.slice oa ko oc).ownBlock) := g
                      clear hd
                      simp only [Act.put, List.setIfInBounds_toArray, List.set_cons_zero, List.set_cons_succ] at hK
                      split
                      rotate_left
                      · rename_i hno; exact absurd rfl hno
                      refine wp_load_row 28 (.tmp 2) rfl bc (by rfl) 28 cs (0, 0) _ (gr_keep g HCF.out HCK.out) Tryd.underlying28 rfl HSZ28.out ?_
                      exact hK _ _ rfl (gr_refl _ _)
                    case zo2 =>
                      intro u' w g hd K hK
                      replace g : w0.grownBy w ((Value.slice oa ko oc).ownBlock) := g
                      have h1 : (u' 1) = .agg cs := hd 1 (by simp)
                      clear hd
                      simp only [Act.put, List.setIfInBounds_toArray, List.set_cons_zero, List.set_cons_succ] at hK
                      simp only [h1] at hK ⊢
                      go_simp
                      refine (rplace_any cs lan u w HC.out).mono ?_
                      rintro e w' ⟨rfl, g'⟩
                      exact hK _ w' rfl g'
                    case zo3 =>
                      intro u' w g hd K hK
                      replace g : w0.grownBy w ((Value.slice oa ko oc).ownBlock) := g
                      have h2 : (u' 2) = .string ⟨(placeL lan ++ [13, 10]).toArray⟩ := hd 2 (by simp)
                      clear hd
                      simp only [Act.put, List.setIfInBounds_toArray, List.set_cons_zero, List.set_cons_succ] at hK
                      have hb := HX3.out
                      simp only [h2] at hK ⊢
                      go_simp
                      exact hK _ _ (congrArg Value.string HE3.out) (gr_refl _ _)
                    case zo4 =>
                      intro u' w g hd K hK
                      replace g : w0.grownBy w ((Value.slice oa ko oc).ownBlock) := g
                      have h3 : (u' 3) = .string ⟨A3.toArray⟩ := hd 3 (by simp)
                      clear hd
                      simp only [Act.put, List.setIfInBounds_toArray, List.set_cons_zero, List.set_cons_succ] at hK
                      have hb := HX4.out
                      simp only [h3] at hK ⊢
                      go_simp
                      exact hK _ _ (congrArg Value.string HE4.out) (gr_refl _ _)
                    case zo5 =>
                      intro u' w g hd K hK
                      replace g : w0.grownBy w ((Value.slice oa ko oc).ownBlock) := g
                      have h4 : (u' 4) = .string ⟨A4.toArray⟩ := hd 4 (by simp)
                      clear hd
                      simp only [Act.put, List.setIfInBounds_toArray, List.set_cons_zero, List.set_cons_succ] at hK
                      have hb := HX5.out
                      simp only [h4] at hK ⊢
                      go_simp
                      exact hK _ _ (congrArg Value.string HE5.out) (gr_refl _ _)
                    case zo6 =>
                      intro u' w g hd K hK
                      replace g : w0.grownBy w ((Value.slice oa ko oc).ownBlock) := g
                      clear hd
                      simp only [Act.put, List.setIfInBounds_toArray, List.set_cons_zero, List.set_cons_succ] at hK
                      go_simp
                      exact hK _ _ rfl (gr_refl _ _)
                    case zo7 =>
                      intro u' w g hd K hK
                      replace g : w0.grownBy w ((Value.slice oa ko oc).ownBlock) := g
                      clear hd
                      simp only [Act.put, List.setIfInBounds_toArray, List.set_cons_zero, List.set_cons_succ] at hK
                      go_simp
                      exact hK _ _ rfl (gr_refl _ _)
                    case zo8 =>
                      intro u' w g hd K hK
                      replace g : w0.grownBy w ((Value.slice oa ko oc).ownBlock) := g
                      have h6 : (u' 6) = .slice (some ⟨ga, 0, none⟩) 6 6 := hd 6 (by simp)
                      have h7 : (u' 7) = .int .i64 (k : Int) := hd 7 (by simp)
                      clear hd
                      simp only [Act.put, List.setIfInBounds_toArray, List.set_cons_zero, List.set_cons_succ] at hK
                      have hk6 := HK6.out
                      have hk7 := HK7.out
                      simp only [h6, h7] at hK ⊢
                      go_simp
                      exact hK _ _ rfl (gr_refl _ _)
                    case zo9 =>
                      intro u' w g hd K hK
                      replace g : w0.grownBy w ((Value.slice oa ko oc).ownBlock) := g
                      have h8 : (u' 8) = .pointer (some ⟨ga, k, none⟩) := hd 8 (by simp)
                      clear hd
                      simp only [Act.put, List.setIfInBounds_toArray, List.set_cons_zero, List.set_cons_succ] at hK
                      have c' := (cell_of_block (gr_keep g HGA.out HAK.out) k).trans HCA.out
                      simp only [h8] at hK ⊢
                      go_simp
                      exact hK _ _ rfl (gr_refl _ _)
                    case zo10 =>
                      intro u' w g hd K hK
                      replace g : w0.grownBy w ((Value.slice oa ko oc).ownBlock) := g
                      have h5 : (u' 5) = .string ⟨A5.toArray⟩ := hd 5 (by simp)
                      have h9 : (u' 9) = .string ⟨x.toArray⟩ := hd 9 (by simp)
                      clear hd
                      simp only [Act.put, List.setIfInBounds_toArray, List.set_cons_zero, List.set_cons_succ] at hK
                      have hb := HX10.out
                      simp only [h5, h9] at hK ⊢
                      go_simp
                      exact hK _ _ (congrArg Value.string HE10.out) (gr_refl _ _)
                    case zo11 =>
                      intro u' w g hd K hK
                      replace g : w0.grownBy w ((Value.slice oa ko oc).ownBlock) := g
                      have h10 : (u' 10) = .string ⟨A10.toArray⟩ := hd 10 (by simp)
                      clear hd
                      simp only [Act.put, List.setIfInBounds_toArray, List.set_cons_zero, List.set_cons_succ] at hK
                      have hb := HX11.out
                      simp only [h10] at hK ⊢
                      go_simp
                      exact hK _ _ (congrArg Value.string HE11.out) (gr_refl _ _)
                    case zo12 =>
                      intro u' w g hd K hK
                      replace g : w0.grownBy w ((Value.slice oa ko oc).ownBlock) := g
                      clear hd
                      simp only [Act.put, List.setIfInBounds_toArray, List.set_cons_zero, List.set_cons_succ] at hK
                      go_simp
                      exact hK _ _ rfl (gr_refl _ _)
                    case zo13 =>
                      intro u' w g hd K hK
                      replace g : w0.grownBy w ((Value.slice oa ko oc).ownBlock) := g
                      clear hd
                      simp only [Act.put, List.setIfInBounds_toArray, List.set_cons_zero, List.set_cons_succ] at hK
                      go_simp
                      exact hK _ _ rfl (gr_refl _ _)
                    case zo14 =>
                      intro u' w g hd K hK
                      replace g : w0.grownBy w ((Value.slice oa ko oc).ownBlock) := g
                      have h12 : (u' 12) = .slice (some ⟨gb, 0, none⟩) 6 cb := hd 12 (by simp)
                      have h13 : (u' 13) = .int .i64 (k : Int) := hd 13 (by simp)
                      clear hd
                      simp only [Act.put, List.setIfInBounds_toArray, List.set_cons_zero, List.set_cons_succ] at hK
                      have hk6 := HK6.out
                      have hk7 := HK7.out
                      simp only [h12, h13] at hK ⊢
                      go_simp
                      exact hK _ _ rfl (gr_refl _ _)
                    case zo15 =>
                      intro u' w g hd K hK
                      replace g : w0.grownBy w ((Value.slice oa ko oc).ownBlock) := g
                      have h14 : (u' 14) = .pointer (some ⟨gb, k, none⟩) := hd 14 (by simp)
                      clear hd
                      simp only [Act.put, List.setIfInBounds_toArray, List.set_cons_zero, List.set_cons_succ] at hK
                      have c' := (cell_of_block (gr_keep g HGBB.out HBK.out) k).trans HCB.out
                      simp only [h14] at hK ⊢
                      go_simp
                      exact hK _ _ rfl (gr_refl _ _)
                    case zo16 =>
                      intro u' w g hd K hK
                      replace g : w0.grownBy w ((Value.slice oa ko oc).ownBlock) := g
                      have h11 : (u' 11) = .string ⟨A11.toArray⟩ := hd 11 (by simp)
                      have h15 : (u' 15) = .string ⟨y.toArray⟩ := hd 15 (by simp)
                      clear hd
                      simp only [Act.put, List.setIfInBounds_toArray, List.set_cons_zero, List.set_cons_succ] at hK
                      have hb := HX16.out
                      simp only [h11, h15] at hK ⊢
                      go_simp
                      exact hK _ _ (congrArg Value.string HE16.out) (gr_refl _ _)
                    case zo17 =>
                      intro u' w g hd K hK
                      replace g : w0.grownBy w ((Value.slice oa ko oc).ownBlock) := g
                      have h16 : (u' 16) = .string ⟨A16.toArray⟩ := hd 16 (by simp)
                      clear hd
                      simp only [Act.put, List.setIfInBounds_toArray, List.set_cons_zero, List.set_cons_succ] at hK
                      have hb := HX17.out
                      simp only [h16] at hK ⊢
                      go_simp
                      exact hK _ _ (congrArg Value.string HE17.out) (gr_refl _ _)
                    case zo18 =>
                      intro u' w g hd K hK
                      replace g : w0.grownBy w ((Value.slice oa ko oc).ownBlock) := g
                      have h17 : (u' 17) = .string ⟨A17.toArray⟩ := hd 17 (by simp)
                      clear hd
                      simp only [Act.put, List.setIfInBounds_toArray, List.set_cons_zero, List.set_cons_succ] at hK
                      simp only [h17] at hK ⊢
                      go_simp
                      exact hK _ _ ⟨w.heap.size, rfl, heap_alloc_new w _, g.size⟩ (World.grownBy_alloc w _ none)
                    case zo19 =>
                      intro u' w g hd K hK
                      replace g : w0.grownBy w none := g
                      have h0 : (u' 0) = .slice oa ko oc := hd 0 (by simp)
                      have h18 : Fy1 A17 w0 (u' 18) w := hd 18 (by simp)
                      clear hd
                      simp only [Act.put, List.setIfInBounds_toArray, List.set_cons_zero, List.set_cons_succ] at hK
                      obtain ⟨gg, e18, hgg, hge⟩ := h18
                      simp only [h0, e18] at hK ⊢
                      split
                      rotate_left
                      · rename_i hno; exact absurd rfl hno
                      refine wp_append_out (.tmp 155) (.tmp 173) rfl B g0 (.slice oa ko oc) ((ansA lan st (PR.take k)).map str) (by rfl) (HOU.out.grow g) gg 1 (str A17) (by rfl) ((cell_of_block hgg 0).trans rfl) rfl HLE.out (Nat.le_trans HBS.out g.size) ?_
                      intro v' w' q1 q2
                      exact hK v' w' q1 q2
                    case zdone =>
                      intro u' w hS g
                      have s0 : (u' 0) = .slice oa ko oc := hS 0 (by decide)
                      have s1 : (u' 1) = .agg cs := hS 1 (by decide)
                      have s2 : (u' 2) = .string ⟨(placeL lan ++ [13, 10]).toArray⟩ := hS 2 (by decide)
                      have s3 : (u' 3) = .string ⟨A3.toArray⟩ := hS 3 (by decide)
                      have s4 : (u' 4) = .string ⟨A4.toArray⟩ := hS 4 (by decide)
                      have s5 : (u' 5) = .string ⟨A5.toArray⟩ := hS 5 (by decide)
                      have s6 : (u' 6) = .slice (some ⟨ga, 0, none⟩) 6 6 := hS 6 (by decide)
                      have s7 : (u' 7) = .int .i64 (k : Int) := hS 7 (by decide)
                      have s8 : (u' 8) = .pointer (some ⟨ga, k, none⟩) := hS 8 (by decide)
                      have s9 : (u' 9) = .string ⟨x.toArray⟩ := hS 9 (by decide)
                      have s10 : (u' 10) = .string ⟨A10.toArray⟩ := hS 10 (by decide)
                      have s11 : (u' 11) = .string ⟨A11.toArray⟩ := hS 11 (by decide)
                      have s12 : (u' 12) = .slice (some ⟨gb, 0, none⟩) 6 cb := hS 12 (by decide)
                      have s13 : (u' 13) = .int .i64 (k : Int) := hS 13 (by decide)
                      have s14 : (u' 14) = .pointer (some ⟨gb, k, none⟩) := hS 14 (by decide)
                      have s15 : (u' 15) = .string ⟨y.toArray⟩ := hS 15 (by decide)
                      have s16 : (u' 16) = .string ⟨A16.toArray⟩ := hS 16 (by decide)
                      have s17 : (u' 17) = .string ⟨A17.toArray⟩ := hS 17 (by decide)
                      have s18 : Fy1 A17 w0 (u' 18) w := hS 18 (by decide)
                      have s19 : OutR w B g0 (u' 19) ((ansA lan st (PR.take k)).map str ++ [str A17]) := hS 19 (by decide)
                      clear hS
                      change wpList _ _ _ [_] _ _
                      have gg : w0.grownBy w (Value.slice oa ko oc).ownBlock := g
                      have HGG := hid gg
                      obtain ⟨ya, yc, ey⟩ := s19.shape
                      have HOU4 := hid s19
                      rw [ey] at HOU4 ⊢
                      clear s0 s1 s2 s3 s4 s5 s6 s7 s8 s9 s10 s11 s12 s13 s14 s15 s16 s17 s18 s19 g gg ey
                      generalize u' 0 = y0, u' 1 = y1, u' 2 = y2, u' 3 = y3, u' 4 = y4, u' 5 = y5, u' 6 = y6, u' 7 = y7, u' 8 = y8, u' 9 = y9, u' 10 = y10, u' 11 = y11, u' 12 = y12, u' 13 = y13, u' 14 = y14, u' 15 = y15, u' 16 = y16, u' 17 = y17, u' 18 = y18
                      go_wp2_with fail
                      go_roundw
                      case rel => exact rnO_next HSN.out HOU4.out HGG.out HGA.out HAK.out HGBB.out HBK.out HCF.out HCK.out G0.out HRO.out HBS.out (by have := HK7.out; omega)
                      case measure => simp [intOf]; omega
                  · have h1' : (st == x) = false := by simpa using h1
                    have h2 : (st == [115, 115, 100, 112, 58, 97, 108, 108]) = true := by
                      rcases hsel with h | h
                      · exact absurd (by simpa using h) h1
                      · simpa using h
                    clear hsel h1
                    go_wp2_with fail
                    clear h1' h2 hcell hxl hyl hbc
                    refine wp_region_spec3 20 19 (Value.slice oa ko oc).ownBlock (by kernel_rfl) (by kernel_rfl) (by kernel_rfl) (by kernel_rfl) (by kernel_rfl) (by kernel_rfl) [some 155, some 156, some 157, some 158, some 159, some 160, some 161, some 162, some 163, some 164, some 165, some 166, some 167, some 168, some 169, some 170, some 171, some 172, some 173, some 174] (by kernel_rfl) _ (fun u => (by simp only [fill, List.zipIdx_cons, List.zipIdx_nil, List.foldl_cons, List.foldl_nil, Act.put, List.setIfInBounds_toArray, List.set_cons_zero, List.set_cons_succ, Nat.zero_add, Nat.reduceAdd]; exact rfl)) (by kernel_rfl)
                      (all_succ (all_succ (all_succ (all_succ (all_succ (all_succ (all_succ (all_succ (all_succ (all_succ (all_succ (all_succ (all_succ (all_succ (all_succ (all_succ (all_succ (all_succ (all_succ (all_succ (all_zero _) (fun u v => by kernel_rfl)) (fun u v => by kernel_rfl)) (fun u v => by kernel_rfl)) (fun u v => by kernel_rfl)) (fun u v => by kernel_rfl)) (fun u v => by kernel_rfl)) (fun u v => by kernel_rfl)) (fun u v => by kernel_rfl)) (fun u v => by kernel_rfl)) (fun u v => by kernel_rfl)) (fun u v => by kernel_rfl)) (fun u v => by kernel_rfl)) (fun u v => by kernel_rfl)) (fun u v => by kernel_rfl)) (fun u v => by kernel_rfl)) (fun u v => by kernel_rfl)) (fun u v => by kernel_rfl)) (fun u v => by kernel_rfl)) (fun u v => by kernel_rfl)) (fun u v => by kernel_rfl))
                      (fun ri v w => match ri with | 0 => v = .slice oa ko oc | 1 => v = .agg cs | 2 => v = .string ⟨(placeL lan ++ [13, 10]).toArray⟩ | 3 => v = .string ⟨A3.toArray⟩ | 4 => v = .string ⟨A4.toArray⟩ | 5 => v = .string ⟨A5.toArray⟩ | 6 => v = .slice (some ⟨ga, 0, none⟩) 6 6 | 7 => v = .int .i64 (k : Int) | 8 => v = .pointer (some ⟨ga, k, none⟩) | 9 => v = .string ⟨x.toArray⟩ | 10 => v = .string ⟨A10.toArray⟩ | 11 => v = .string ⟨A11.toArray⟩ | 12 => v = .slice (some ⟨gb, 0, none⟩) 6 cb | 13 => v = .int .i64 (k : Int) | 14 => v = .pointer (some ⟨gb, k, none⟩) | 15 => v = .string ⟨y.toArray⟩ | 16 => v = .string ⟨A16.toArray⟩ | 17 => v = .string ⟨A17.toArray⟩ | 18 => Fy1 A17 w0 v w | 19 => OutR w B g0 v ((ansA lan st (PR.take k)).map str ++ [str A17]) | _ => True)
                      (all_succ (all_succ (all_succ (all_succ (all_succ (all_succ (all_succ (all_succ (all_succ (all_succ (all_succ (all_succ (all_succ (all_succ (all_succ (all_succ (all_succ (all_succ (all_succ (all_succ (all_zero _) ?zm0) ?zm1) ?zm2) ?zm3) ?zm4) ?zm5) ?zm6) ?zm7) ?zm8) ?zm9) ?zm10) ?zm11) ?zm12) ?zm13) ?zm14) ?zm15) ?zm16) ?zm17) ?zm18) ?zm19)
                      [[], [], [1], [2], [3], [4], [], [], [6, 7], [8], [5, 9], [10], [], [], [12, 13], [14], [11, 15], [16], [17], [0, 18]] (by kernel_rfl)
                      ⟨?zo0, ?zo1, ?zo2, ?zo3, ?zo4, ?zo5, ?zo6, ?zo7, ?zo8, ?zo9, ?zo10, ?zo11, ?zo12, ?zo13, ?zo14, ?zo15, ?zo16, ?zo17, ?zo18, ?zo19, trivial⟩ ?zdone
                    case zm0 => intro v w w' h g; first | exact h | exact Fy1.kept h g HRL.out | exact OutR.grow h g
                    case zm1 => intro v w w' h g; first | exact h | exact Fy1.kept h g HRL.out | exact OutR.grow h g
                    case zm2 => intro v w w' h g; first | exact h | exact Fy1.kept h g HRL.out | exact OutR.grow h g
                    case zm3 => intro v w w' h g; first | exact h | exact Fy1.kept h g HRL.out | exact OutR.grow h g
                    case zm4 => intro v w w' h g; first | exact h | exact Fy1.kept h g HRL.out | exact OutR.grow h g
                    case zm5 => intro v w w' h g; first | exact h | exact Fy1.kept h g HRL.out | exact OutR.grow h g
                    case zm6 => intro v w w' h g; first | exact h | exact Fy1.kept h g HRL.out | exact OutR.grow h g
                    case zm7 => intro v w w' h g; first | exact h | exact Fy1.kept h g HRL.out | exact OutR.grow h g
                    case zm8 => intro v w w' h g; first | exact h | exact Fy1.kept h g HRL.out | exact OutR.grow h g
                    case zm9 => intro v w w' h g; first | exact h | exact Fy1.kept h g HRL.out | exact OutR.grow h g
                    case zm10 => intro v w w' h g; first | exact h | exact Fy1.kept h g HRL.out | exact OutR.grow h g
                    case zm11 => intro v w w' h g; first | exact h | exact Fy1.kept h g HRL.out | exact OutR.grow h g
                    case zm12 => intro v w w' h g; first | exact h | exact Fy1.kept h g HRL.out | exact OutR.grow h g
                    case zm13 => intro v w w' h g; first | exact h | exact Fy1.kept h g HRL.out | exact OutR.grow h g
                    case zm14 => intro v w w' h g; first | exact h | exact Fy1.kept h g HRL.out | exact OutR.grow h g
                    case zm15 => intro v w w' h g; first | exact h | exact Fy1.kept h g HRL.out | exact OutR.grow h g
                    case zm16 => intro v w w' h g; first | exact h | exact Fy1.kept h g HRL.out | exact OutR.grow h g
                    case zm17 => intro v w w' h g; first | exact h | exact Fy1.kept h g HRL.out | exact OutR.grow h g
                    case zm18 => intro v w w' h g; first | exact h | exact Fy1.kept h g HRL.out | exact OutR.grow h g
                    case zm19 => intro v w w' h g; first | exact h | exact Fy1.kept h g HRL.out | exact OutR.grow h g
                    case zo0 =>
                      intro u' w g hd K hK
                      replace g : w0.grownBy w ((Value.slice oa ko oc).ownBlock) := g
                      clear hd
                      simp only [Act.put, List.setIfInBounds_toArray, List.set_cons_zero, List.set_cons_succ] at hK
                      go_simp
                      exact hK _ _ rfl (gr_refl _ _)
                    case zo1 =>
                      intro u' w g hd K hK
                      replace g : w0.grownBy w ((Value.slice oa ko oc).ownBlock) := g
                      clear hd
                      simp only [Act.put, List.setIfInBounds_toArray, List.set_cons_zero, List.set_cons_succ] at hK
                      split
                      rotate_left
                      · rename_i hno; exact absurd rfl hno
                      refine wp_load_row 28 (.tmp 2) rfl bc (by rfl) 28 cs (0, 0) _ (gr_keep g HCF.out HCK.out) Tryd.underlying28 rfl HSZ28.out ?_
                      exact hK _ _ rfl (gr_refl _ _)
                    case zo2 =>
                      intro u' w g hd K hK
                      replace g : w0.grownBy w ((Value.slice oa ko oc).ownBlock) := g
                      have h1 : (u' 1) = .agg cs := hd 1 (by simp)
                      clear hd
                      simp only [Act.put, List.setIfInBounds_toArray, List.set_cons_zero, List.set_cons_succ] at hK
                      simp only [h1] at hK ⊢
                      go_simp
                      refine (rplace_any cs lan u w HC.out).mono ?_
                      rintro e w' ⟨rfl, g'⟩
                      exact hK _ w' rfl g'
                    case zo3 =>
                      intro u' w g hd K hK
                      replace g : w0.grownBy w ((Value.slice oa ko oc).ownBlock) := g
                      have h2 : (u' 2) = .string ⟨(placeL lan ++ [13, 10]).toArray⟩ := hd 2 (by simp)
                      clear hd
                      simp only [Act.put, List.setIfInBounds_toArray, List.set_cons_zero, List.set_cons_succ] at hK
                      have hb := HX3.out
                      simp only [h2] at hK ⊢
                      go_simp
                      exact hK _ _ (congrArg Value.string HE3.out) (gr_refl _ _)
                    case zo4 =>
                      intro u' w g hd K hK
                      replace g : w0.grownBy w ((Value.slice oa ko oc).ownBlock) := g
                      have h3 : (u' 3) = .string ⟨A3.toArray⟩ := hd 3 (by simp)
                      clear hd
                      simp only [Act.put, List.setIfInBounds_toArray, List.set_cons_zero, List.set_cons_succ] at hK
                      have hb := HX4.out
                      simp only [h3] at hK ⊢
                      go_simp
                      exact hK _ _ (congrArg Value.string HE4.out) (gr_refl _ _)
                    case zo5 =>
                      intro u' w g hd K hK
                      replace g : w0.grownBy w ((Value.slice oa ko oc).ownBlock) := g
                      have h4 : (u' 4) = .string ⟨A4.toArray⟩ := hd 4 (by simp)
                      clear hd
                      simp only [Act.put, List.setIfInBounds_toArray, List.set_cons_zero, List.set_cons_succ] at hK
                      have hb := HX5.out
                      simp only [h4] at hK ⊢
                      go_simp
                      exact hK _ _ (congrArg Value.string HE5.out) (gr_refl _ _)
                    case zo6 =>
                      intro u' w g hd K hK
                      replace g : w0.grownBy w ((Value.slice oa ko oc).ownBlock) := g
                      clear hd
                      simp only [Act.put, List.setIfInBounds_toArray, List.set_cons_zero, List.set_cons_succ] at hK
                      go_simp
                      exact hK _ _ rfl (gr_refl _ _)
                    case zo7 =>
                      intro u' w g hd K hK
                      replace g : w0.grownBy w ((Value.slice oa ko oc).ownBlock) := g
                      clear hd
                      simp only [Act.put, List.setIfInBounds_toArray, List.set_cons_zero, List.set_cons_succ] at hK
                      go_simp
                      exact hK _ _ rfl (gr_refl _ _)
                    case zo8 =>
                      intro u' w g hd K hK
                      replace g : w0.grownBy w ((Value.slice oa ko oc).ownBlock) := g
                      have h6 : (u' 6) = .slice (some ⟨ga, 0, none⟩) 6 6 := hd 6 (by simp)
                      have h7 : (u' 7) = .int .i64 (k : Int) := hd 7 (by simp)
                      clear hd
                      simp only [Act.put, List.setIfInBounds_toArray, List.set_cons_zero, List.set_cons_succ] at hK
                      have hk6 := HK6.out
                      have hk7 := HK7.out
                      simp only [h6, h7] at hK ⊢
                      go_simp
                      exact hK _ _ rfl (gr_refl _ _)
                    case zo9 =>
                      intro u' w g hd K hK
                      replace g : w0.grownBy w ((Value.slice oa ko oc).ownBlock) := g
                      have h8 : (u' 8) = .pointer (some ⟨ga, k, none⟩) := hd 8 (by simp)
                      clear hd
                      simp only [Act.put, List.setIfInBounds_toArray, List.set_cons_zero, List.set_cons_succ] at hK
                      have c' := (cell_of_block (gr_keep g HGA.out HAK.out) k).trans HCA.out
                      simp only [h8] at hK ⊢
                      go_simp
                      exact hK _ _ rfl (gr_refl _ _)
                    case zo10 =>
                      intro u' w g hd K hK
                      replace g : w0.grownBy w ((Value.slice oa ko oc).ownBlock) := g
                      have h5 : (u' 5) = .string ⟨A5.toArray⟩ := hd 5 (by simp)
                      have h9 : (u' 9) = .string ⟨x.toArray⟩ := hd 9 (by simp)
                      clear hd
                      simp only [Act.put, List.setIfInBounds_toArray, List.set_cons_zero, List.set_cons_succ] at hK
                      have hb := HX10.out
                      simp only [h5, h9] at hK ⊢
                      go_simp
                      exact hK _ _ (congrArg Value.string HE10.out) (gr_refl _ _)
                    case zo11 =>
                      intro u' w g hd K hK
                      replace g : w0.grownBy w ((Value.slice oa ko oc).ownBlock) := g
                      have h10 : (u' 10) = .string ⟨A10.toArray⟩ := hd 10 (by simp)
                      clear hd
                      simp only [Act.put, List.setIfInBounds_toArray, List.set_cons_zero, List.set_cons_succ] at hK
                      have hb := HX11.out
                      simp only [h10] at hK ⊢
                      go_simp
                      exact hK _ _ (congrArg Value.string HE11.out) (gr_refl _ _)
                    case zo12 =>
                      intro u' w g hd K hK
                      replace g : w0.grownBy w ((Value.slice oa ko oc).ownBlock) := g
                      clear hd
                      simp only [Act.put, List.setIfInBounds_toArray, List.set_cons_zero, List.set_cons_succ] at hK
                      go_simp
                      exact hK _ _ rfl (gr_refl _ _)
                    case zo13 =>
                      intro u' w g hd K hK
                      replace g : w0.grownBy w ((Value.slice oa ko oc).ownBlock) := g
                      clear hd
                      simp only [Act.put, List.setIfInBounds_toArray, List.set_cons_zero, List.set_cons_succ] at hK
                      go_simp
                      exact hK _ _ rfl (gr_refl _ _)
                    case zo14 =>
                      intro u' w g hd K hK
                      replace g : w0.grownBy w ((Value.slice oa ko oc).ownBlock) := g
                      have h12 : (u' 12) = .slice (some ⟨gb, 0, none⟩) 6 cb := hd 12 (by simp)
                      have h13 : (u' 13) = .int .i64 (k : Int) := hd 13 (by simp)
                      clear hd
                      simp only [Act.put, List.setIfInBounds_toArray, List.set_cons_zero, List.set_cons_succ] at hK
                      have hk6 := HK6.out
                      have hk7 := HK7.out
                      simp only [h12, h13] at hK ⊢
                      go_simp
                      exact hK _ _ rfl (gr_refl _ _)
                    case zo15 =>
                      intro u' w g hd K hK
                      replace g : w0.grownBy w ((Value.slice oa ko oc).ownBlock) := g
                      have h14 : (u' 14) = .pointer (some ⟨gb, k, none⟩) := hd 14 (by simp)
                      clear hd
                      simp only [Act.put, List.setIfInBounds_toArray, List.set_cons_zero, List.set_cons_succ] at hK
                      have c' := (cell_of_block (gr_keep g HGBB.out HBK.out) k).trans HCB.out
                      simp only [h14] at hK ⊢
                      go_simp
                      exact hK _ _ rfl (gr_refl _ _)
                    case zo16 =>
                      intro u' w g hd K hK
                      replace g : w0.grownBy w ((Value.slice oa ko oc).ownBlock) := g
                      have h11 : (u' 11) = .string ⟨A11.toArray⟩ := hd 11 (by simp)
                      have h15 : (u' 15) = .string ⟨y.toArray⟩ := hd 15 (by simp)
                      clear hd
                      simp only [Act.put, List.setIfInBounds_toArray, List.set_cons_zero, List.set_cons_succ] at hK
                      have hb := HX16.out
                      simp only [h11, h15] at hK ⊢
                      go_simp
                      exact hK _ _ (congrArg Value.string HE16.out) (gr_refl _ _)
                    case zo17 =>
                      intro u' w g hd K hK
                      replace g : w0.grownBy w ((Value.slice oa ko oc).ownBlock) := g
                      have h16 : (u' 16) = .string ⟨A16.toArray⟩ := hd 16 (by simp)
                      clear hd
                      simp only [Act.put, List.setIfInBounds_toArray, List.set_cons_zero, List.set_cons_succ] at hK
                      have hb := HX17.out
                      simp only [h16] at hK ⊢
                      go_simp
                      exact hK _ _ (congrArg Value.string HE17.out) (gr_refl _ _)
                    case zo18 =>
                      intro u' w g hd K hK
                      replace g : w0.grownBy w ((Value.slice oa ko oc).ownBlock) := g
                      have h17 : (u' 17) = .string ⟨A17.toArray⟩ := hd 17 (by simp)
                      clear hd
                      simp only [Act.put, List.setIfInBounds_toArray, List.set_cons_zero, List.set_cons_succ] at hK
                      simp only [h17] at hK ⊢
                      go_simp
                      exact hK _ _ ⟨w.heap.size, rfl, heap_alloc_new w _, g.size⟩ (World.grownBy_alloc w _ none)
                    case zo19 =>
                      intro u' w g hd K hK
                      replace g : w0.grownBy w none := g
                      have h0 : (u' 0) = .slice oa ko oc := hd 0 (by simp)
                      have h18 : Fy1 A17 w0 (u' 18) w := hd 18 (by simp)
                      clear hd
                      simp only [Act.put, List.setIfInBounds_toArray, List.set_cons_zero, List.set_cons_succ] at hK
                      obtain ⟨gg, e18, hgg, hge⟩ := h18
                      simp only [h0, e18] at hK ⊢
                      split
                      rotate_left
                      · rename_i hno; exact absurd rfl hno
                      refine wp_append_out (.tmp 155) (.tmp 173) rfl B g0 (.slice oa ko oc) ((ansA lan st (PR.take k)).map str) (by rfl) (HOU.out.grow g) gg 1 (str A17) (by rfl) ((cell_of_block hgg 0).trans rfl) rfl HLE.out (Nat.le_trans HBS.out g.size) ?_
                      intro v' w' q1 q2
                      exact hK v' w' q1 q2
                    case zdone =>
                      intro u' w hS g
                      have s0 : (u' 0) = .slice oa ko oc := hS 0 (by decide)
                      have s1 : (u' 1) = .agg cs := hS 1 (by decide)
                      have s2 : (u' 2) = .string ⟨(placeL lan ++ [13, 10]).toArray⟩ := hS 2 (by decide)
                      have s3 : (u' 3) = .string ⟨A3.toArray⟩ := hS 3 (by decide)
                      have s4 : (u' 4) = .string ⟨A4.toArray⟩ := hS 4 (by decide)
                      have s5 : (u' 5) = .string ⟨A5.toArray⟩ := hS 5 (by decide)
                      have s6 : (u' 6) = .slice (some ⟨ga, 0, none⟩) 6 6 := hS 6 (by decide)
                      have s7 : (u' 7) = .int .i64 (k : Int) := hS 7 (by decide)
                      have s8 : (u' 8) = .pointer (some ⟨ga, k, none⟩) := hS 8 (by decide)
                      have s9 : (u' 9) = .string ⟨x.toArray⟩ := hS 9 (by decide)
                      have s10 : (u' 10) = .string ⟨A10.toArray⟩ := hS 10 (by decide)
                      have s11 : (u' 11) = .string ⟨A11.toArray⟩ := hS 11 (by decide)
                      have s12 : (u' 12) = .slice (some ⟨gb, 0, none⟩) 6 cb := hS 12 (by decide)
                      have s13 : (u' 13) = .int .i64 (k : Int) := hS 13 (by decide)
                      have s14 : (u' 14) = .pointer (some ⟨gb, k, none⟩) := hS 14 (by decide)
                      have s15 : (u' 15) = .string ⟨y.toArray⟩ := hS 15 (by decide)
                      have s16 : (u' 16) = .string ⟨A16.toArray⟩ := hS 16 (by decide)
                      have s17 : (u' 17) = .string ⟨A17.toArray⟩ := hS 17 (by decide)
                      have s18 : Fy1 A17 w0 (u' 18) w := hS 18 (by decide)
                      have s19 : OutR w B g0 (u' 19) ((ansA lan st (PR.take k)).map str ++ [str A17]) := hS 19 (by decide)
                      clear hS
                      change wpList _ _ _ [_] _ _
                      have gg : w0.grownBy w (Value.slice oa ko oc).ownBlock := g
                      have HGG := hid gg
                      obtain ⟨ya, yc, ey⟩ := s19.shape
                      have HOU4 := hid s19
                      rw [ey] at HOU4 ⊢
                      clear s0 s1 s2 s3 s4 s5 s6 s7 s8 s9 s10 s11 s12 s13 s14 s15 s16 s17 s18 s19 g gg ey
                      generalize u' 0 = y0, u' 1 = y1, u' 2 = y2, u' 3 = y3, u' 4 = y4, u' 5 = y5, u' 6 = y6, u' 7 = y7, u' 8 = y8, u' 9 = y9, u' 10 = y10, u' 11 = y11, u' 12 = y12, u' 13 = y13, u' 14 = y14, u' 15 = y15, u' 16 = y16, u' 17 = y17, u' 18 = y18
                      go_wp2_with fail
                      go_roundw
                      case rel => exact rnO_next HSN.out HOU4.out HGG.out HGA.out HAK.out HGBB.out HBK.out HCF.out HCK.out G0.out HRO.out HBS.out (by have := HK7.out; omega)
                      case measure => simp [intOf]; omega
                · have HSN := hid (show ansA lan st (PR.take (k + 1)) = ansA lan st (PR.take k) by rw [HTK.out, ansA_no lan st _ (x, y) (fun e => hsel e.symm)])
                  have h1 : (st == x) = false := by simpa using fun e => hsel (.inl e)
                  have h2 : (st == [115, 115, 100, 112, 58, 97, 108, 108]) = false := by simpa using fun e => hsel (.inr e)
                  clear hsel
                  go_wp2
                  go_roundw
                  case rel => exact ⟨k + 1, by omega, by go_num, by rw [HSN.out]; exact hou, by rw [HSN.out]; exact hz0, hga, hgb, hbc, gw, hBs⟩
                  case measure => simp [intOf]; omega
              · obtain rfl : k = 6 := by omega
                have HT6 := hid (show PR.take 6 = PR from List.take_of_length_le (by rw [HPRE.out, List.length_map, HL6.out]; exact Nat.le_refl _))
                rw [HT6.out] at hou hz0
                have HE := hid (show ansS lan u (askL (rfF t)) = ansA lan st PR by rw [HA.out, ← HPU.out]; rfl)
                have HOU := hid hou
                have HZ0 := hid hz0
                obtain ⟨oa, oc, rfl⟩ := hou.shape
                clear hou hz0
                go_wp2
                go_ret
                refine ⟨_, rfl, ?_, gw⟩
                rw [HE.out]
                rcases HOU.out with ⟨he, hv⟩ | ⟨_, ho⟩
                · have he' : ansA lan st PR = [] := by simpa using he
                  rw [hv, he']
                  exact own_empty (HZ0.out he') HG0.out
                · rw [show (ansA lan st PR).length = ((ansA lan st PR).map str).length from (List.length_map _).symm]
                  exact row_le ho (by have := HB9.out; have := G9.out.size; omega)
          · have HNO := hid (show askL (rfF t) = none by
              rw [HFO.out]
              refine askL_no (.inr ⟨fs, rfl, ?_⟩)
              rw [HMAN.out, HST.out, HMX.out]
              dsimp only
              rw [HNN.out]
              dsimp only
              by_cases a : manb = true
              · by_cases b : stb = true
                · by_cases c : mxb = true
                  · by_cases d : nb = true
                    · by_cases e : man = discT
                      · exact .inr (.inr (.inr (by
                          apply Classical.byContradiction
                          intro h4
                          exact hyes ⟨a, b, c, d, e, by simpa using h4⟩)))
                      · exact .inl e
                    · exact .inr (.inr (.inl (by simpa using d)))
                  · exact .inr (.inr (.inl (HXB.out (by simpa using c))))
                · exact .inr (.inl (by simpa using b))
              · exact .inl (by rw [HMB.out (by simpa using a)]; decide))
            have HE := hid (rsearch_no (lan := lan) (u := u) HNO.out HO8.out HG0.out G8.out)
            by_cases a : manb = true
            · by_cases b : stb = true
              · by_cases c : mxb = true
                · by_cases d : nb = true
                  · by_cases e : man = [34, 115, 115, 100, 112, 58, 100, 105, 115, 99, 111, 118, 101, 114, 34]
                    · have f : (nn == 0) = true := by
                        cases h : (nn == 0) with
                        | true => rfl
                        | false => exact absurd ⟨a, b, c, d, e, h⟩ hyes
                      clear hyes
                      go_wp2
                      go_ret
                      exact HE.out
                    · clear hyes
                      go_wp2
                      go_ret
                      exact HE.out
                  · have d' : nb = false := by simpa using d
                    subst d'
                    clear hyes d
                    go_wp2
                    go_ret
                    exact HE.out
                · have c' : mxb = false := by simpa using c
                  subst c'
                  clear hyes c
                  go_wp2
                  go_ret
                  exact HE.out
              · have b' : stb = false := by simpa using b
                subst b'
                clear hyes b
                go_wp2
                go_ret
                exact HE.out
            · have a' : manb = false := by simpa using a
              subst a'
              clear hyes a
              go_wp2
              go_ret
              exact HE.out
    · have HNO := hid (show askL (rfF t) = none by
        rw [HF.out, ofPieces_no (by
          rw [HHD.out, HST.out]
          dsimp only
          by_cases a : ok = true
          · by_cases b : m1 = msearchT
            · by_cases c : t1 = [42]
              · exact .inr (.inr (.inr (fun d => hq ⟨a, b, c, by simp [d]⟩)))
              · exact .inr (.inr (.inl c))
            · exact .inr (.inl b)
          · exact .inl (by simpa using a))]
        rfl)
      have HE := hid (rsearch_no (lan := lan) (u := u) HNO.out HO3.out HG0.out G3.out)
      by_cases a : ok = true
      · by_cases b : m1 = [77, 45, 83, 69, 65, 82, 67, 72]
        · by_cases c : t1 = [42]
          · have d : (mi != 1) = true := by
              cases h : (mi != 1) with
              | true => rfl
              | false => exact absurd ⟨a, b, c, h⟩ hq
            clear hq
            go_wp2
            go_ret
            exact HE.out
          · clear hq
            go_wp2
            go_ret
            exact HE.out
        · clear hq
          go_wp2
          go_ret
          exact HE.out
      · have a' : ok = false := by simpa using a
        subst a'
        clear hq a
        go_wp2
        go_ret
        exact HE.out
  · have HNO := hid (show askL (rfF t) = none by
      unfold rfF
      rw [HL.out, if_neg (fun e => hgood ⟨e.1, by rw [HLN.out]; exact e.2.1, by rw [HN.out]; exact e.2.2⟩)]; rfl)
    have HE := hid (rsearch_no (lan := lan) (u := u) HNO.out HO2.out HG0.out G2.out)
    by_cases a : lok = true
    · by_cases b : s.size ≤ 1024
      · have c : ¬ 2 ≤ n := fun c => hgood ⟨a, b, c⟩
        have c' : (n : Int) < 2 := by omega
        have b' : (s.size : Int) ≤ 1024 := by omega
        clear hgood
        go_wp2
        go_ret
        exact HE.out
      · have b' : ¬ (s.size : Int) ≤ 1024 := by omega
        clear hgood
        go_wp2
        go_ret
        exact HE.out
    · have a' : lok = false := by simpa using a
      subst a'
      clear hgood a
      go_wp2
      go_ret
      exact HE.out
end Go.Proofs.YtnapfecalckajaaDoor
