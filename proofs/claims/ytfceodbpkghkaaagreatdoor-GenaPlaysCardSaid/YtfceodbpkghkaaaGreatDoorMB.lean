/- Texts of one proof, put together: Gma, Gmb. -/
import Derived.Test.YtfceodbpkghkaaaGreatDoorMO
/- gena.(*Subs).Unsubscribe, Done. -/
namespace Go.Proofs.YtfceodbpkghkaaaGreatDoor
open Go.RowKit
set_option linter.unusedVariables false
set_option linter.unusedSimpArgs false

theorem plI_some {L : List Sb} {s : Gs} {x : Sb} (h : L[findL L s]? = some x) : plI L s = (findL L s : Int) := by
  unfold plI; rw [if_pos (List.getElem?_eq_some_iff.1 h).1]
theorem plI_none {L : List Sb} {s : Gs} (h : L[findL L s]? = none) : plI L s = -1 := by
  unfold plI; rw [if_neg (by have := List.getElem?_eq_none_iff.1 h; omega)]
theorem map_at {E : List (Nat × Sb)} {i : Nat} {x : Sb} (h : (E.map (·.2))[i]? = some x) : ∃ d, E[i]? = some (d, x) := by
  rw [List.getElem?_map] at h
  cases he : E[i]? with
  | none => rw [he] at h; cases h
  | some e => rw [he] at h; obtain rfl := Option.some.inj h; exact ⟨e.1, rfl⟩
/-- An answer that is a status alone. -/
def StPost (w : World) (N : Nat) (F : Nat → Prop) (B most : Nat) (r : List Sb × Nat) (e : Ending) (w' : World) : Prop :=
  e = .returned (.int .i64 (r.2 : Int)) ∧ PAll w' N F B r.1 most ∧ KT TP N w w'
theorem PAt.all {w : World} {N : Nat} {F : Nat → Prop} {B : Nat} {E : List (Nat × Sb)} {most : Nat} (h : PAt w N F B E most) : PAll w N F B (E.map (·.2)) most := ⟨E, rfl, h⟩
set_option maxRecDepth 20000 in
set_option maxHeartbeats 4000000 in
theorem unsub_x (N : Nat) (F : Nat → Prop) (B : Nat) (E : List (Nat × Sb)) (most : Nat) (m t : ByteArray) (mi : Int) (fv bv : Value) (kp : Bool) (fs : List (Gs × Gs)) (who : Nat) (w : World) (h : PAt w N F B E most) (hf : FsAt w fv fs) (hfl : fs.length ≤ 200000) (hbv : ∃ a n c, bv = .slice a n c) (hEl : E.length ≤ 1000000) :
    Calls Tryz.prog 52 #[.pointer (some ⟨B, 0, none⟩), .agg #[.string m, .string t, .int .i64 mi, fv, bv, .bool kp], .int .u32 (who : Int)] w (StPost w N F B most (unsubL (E.map (·.2)) fs who)) := by
  obtain ⟨ba, bn, bc, rfl⟩ := hbv
  have HF := hid hf
  obtain ⟨fa, fc, rfl⟩ := hf.shape
  have nb := hid (heap_alloc_new w (.cells #[.string m, .string t, .int .i64 mi, .slice fa fs.length fc, .slice ba bn bc, .bool kp] 49))
  have g1 := hid (World.grownBy_alloc w (.cells #[.string m, .string t, .int .i64 mi, .slice fa fs.length fc, .slice ba bn bc, .bool kp] 49) none)
  have HP := hid (h.grow g1.out)
  have GET := hid (fun (W : World) (g : w.grownBy W none) (name : Gs) => get_sat W _ fs name (HF.out.grow g) hfl)
  have hc3 := (cell_of_block nb.out 3).trans (show _ = some (Value.slice fa fs.length fc) from rfl)
  have HL := hid (show unsubL (E.map (·.2)) fs who = match getL fs kSid with | [s] => if getL fs kNt ≠ [] ∨ getL fs kCall ≠ [] then (E.map (·.2), 400) else (match (E.map (·.2))[findL (E.map (·.2)) s]? with | none => (E.map (·.2), 412) | some x => if x.host = who then ((E.map (·.2)).eraseIdx (findL (E.map (·.2)) s), 200) else (E.map (·.2), 412)) | _ => (E.map (·.2), 400) from rfl)
  obtain ⟨r, hr⟩ : ∃ r, r = unsubL (E.map (·.2)) fs who := ⟨_, rfl⟩
  rw [← hr] at HL ⊢
  have HOWN := hid (fun (W : World) (hP : PAt W N F B E most) (s : Gs) => own_x N F B E most s who W hP)
  clear hf h hr nb
  go_enter Tryz.func52, Tryz.ntmps52
  go_wp2_with fail
  obtain ⟨w1, hw1⟩ : ∃ w1, w1 = w.alloc (.cells #[.string m, .string t, .int .i64 mi, .slice fa fs.length fc, .slice ba bn bc, .bool kp] 49) := ⟨_, rfl⟩
  obtain ⟨A, hA⟩ : ∃ A, A = w.heap.size := ⟨_, rfl⟩
  rw [← hw1] at g1 HP hc3 ⊢
  rw [← hA] at hc3 ⊢
  clear hw1 hA
  refine (GET.out w1 g1.out kSid).mono ?_
  rintro e w2 ⟨sv, rfl, hs, g2⟩
  have G2 := hid (gr_trans g1.out g2)
  have P2 := hid (HP.out.grow g2)
  have c2 := g2.cell hc3 (by simp)
  have HS := hid hs
  obtain ⟨sa, sc, rfl, hsl, -⟩ := hs
  obtain ⟨xs, hxs⟩ : ∃ xs, xs = getL fs kSid := ⟨_, rfl⟩
  rw [← hxs] at HS HL ⊢
  clear hc3 hxs g1 g2 HP hsl
  by_cases h1 : xs.length = 1
  rotate_left
  · have R := hid (show r = (E.map (·.2), 400) by
      rw [HL.out]
      rcases xs with _ | ⟨a, _ | ⟨b, xs⟩⟩
      · rfl
      · exact absurd rfl h1
      · rfl)
    have hb1 : ((xs.length : Int) != 1) = true := by simp; omega
    have hb2 : ((xs.length : Int) == 1) = false := by simp; omega
    clear h1 HL HS GET HOWN
    go_wp2
    go_ret
    exact ⟨by rw [R.out]; rfl, by rw [R.out]; exact P2.out.all, KT.of_none G2.out⟩
  obtain ⟨s, rfl⟩ : ∃ s, xs = [s] := List.length_eq_one_iff.1 h1
  clear h1
  have hs0 : w2.cell? ⟨(match sa with | some a => a.block | none => 0), 0, none⟩ = some (str s) ∧ ∃ g, sa = some ⟨g, 0, none⟩ := by
    obtain ⟨a', c', e', -, h2⟩ := HS.out
    obtain ⟨g, hg, hc⟩ := h2 0 s rfl
    obtain ⟨rfl, -⟩ : sa = a' ∧ sc = c' := by simpa using e'
    subst hg
    exact ⟨hc, g, rfl⟩
  obtain ⟨hs0, g, rfl⟩ := hs0
  unfold str at hs0
  simp only [List.length_cons, List.length_nil] at *
  clear HS
  go_wp2_with fail
  refine (GET.out w2 G2.out kNt).mono ?_
  rintro e w3 ⟨nv, rfl, hs3, g3⟩
  have G3 := hid (gr_trans G2.out g3)
  have P3 := hid (P2.out.grow g3)
  have c3 := g3.cell c2 (by simp)
  have hs3' := g3.cell hs0 (by simp)
  obtain ⟨na, nc, rfl, -, -⟩ := hs3
  obtain ⟨ns, hns⟩ : ∃ ns, ns = getL fs kNt := ⟨_, rfl⟩
  rw [← hns] at HL ⊢
  clear hns g3 c2 hs0 G2 P2
  by_cases h2 : ns = []
  rotate_left
  · have R := hid (show r = (E.map (·.2), 400) from HL.out.trans (if_pos (.inl h2)))
    have hp : 0 < ns.length := List.length_pos_iff.2 h2
    have hd := decide_eq_true hp
    clear h2 HL GET HOWN
    go_wp2
    go_ret
    exact ⟨by rw [R.out]; rfl, by rw [R.out]; exact P3.out.all, KT.of_none G3.out⟩
  subst h2
  go_wp2_with fail
  refine (GET.out w3 G3.out kCall).mono ?_
  rintro e w4 ⟨cv, rfl, hs4, g4⟩
  have G4 := hid (gr_trans G3.out g4)
  have P4 := hid (P3.out.grow g4)
  have hs4' := g4.cell hs3' (by simp)
  obtain ⟨ca, cc, rfl, -, -⟩ := hs4
  obtain ⟨cs, hcs⟩ : ∃ cs, cs = getL fs kCall := ⟨_, rfl⟩
  rw [← hcs] at HL ⊢
  clear hcs g4 c3 hs3' G3 P3 GET
  by_cases h3 : cs = []
  rotate_left
  · have R := hid (show r = (E.map (·.2), 400) from HL.out.trans (if_pos (.inr h3)))
    have hp : 0 < cs.length := List.length_pos_iff.2 h3
    have hd := decide_eq_true hp
    clear h3 HL HOWN
    go_wp2
    go_ret
    exact ⟨by rw [R.out]; rfl, by rw [R.out]; exact P4.out.all, KT.of_none G4.out⟩
  subst h3
  have HL2 := hid (HL.out.trans (show _ = (match (E.map (·.2))[findL (E.map (·.2)) s]? with | none => (E.map (·.2), 412) | some x => if x.host = who then ((E.map (·.2)).eraseIdx (findL (E.map (·.2)) s), 200) else (E.map (·.2), 412)) from if_neg (by simp)))
  clear HL
  go_wp2_with fail
  refine (HOWN.out w4 P4.out s).mono ?_
  rintro e w5 ⟨rfl, g5⟩
  have G5 := hid (gr_trans G4.out g5)
  have P5 := hid (P4.out.grow g5)
  clear g5 P4 G4 HOWN hs4'
  have hl : (E.map (·.2)).length = E.length := List.length_map ..
  cases hx : (E.map (·.2))[findL (E.map (·.2)) s]? with
  | none =>
    have ho : ownB (E.map (·.2)) s who = false := by unfold ownB; rw [hx]
    have R := hid (show r = (E.map (·.2), 412) by rw [HL2.out, hx])
    rw [ho]
    clear HL2 hx ho
    go_wp2
    go_ret
    exact ⟨by rw [R.out]; rfl, by rw [R.out]; exact P5.out.all, KT.of_none G5.out⟩
  | some x =>
    have ho : ownB (E.map (·.2)) s who = decide (x.host = who) := by unfold ownB; rw [hx]
    by_cases hw : x.host = who
    rotate_left
    · have R := hid (show r = (E.map (·.2), 412) by rw [HL2.out, hx]; simp only; rw [if_neg hw])
      rw [ho, decide_eq_false hw]
      clear HL2 hx ho hw
      go_wp2
      go_ret
      exact ⟨by rw [R.out]; rfl, by rw [R.out]; exact P5.out.all, KT.of_none G5.out⟩
    · rw [ho, decide_eq_true hw, plI_some hx]
      obtain ⟨i, hi⟩ : ∃ i, i = findL (E.map (·.2)) s := ⟨_, rfl⟩
      have hil : i < E.length := by rw [hi, ← hl]; exact (List.getElem?_eq_some_iff.1 hx).1
      have R := hid (show r = ((E.eraseIdx i).map (·.2), 200) by rw [HL2.out, hx]; simp only; rw [if_pos hw, map_erase, hi])
      rw [← hi]
      obtain ⟨lv, h1, h2⟩ := P5.out.head
      have HD := hid (delete_x N E i hil lv w5 h2)
      have H1 := hid h1
      have H2 := hid h2
      obtain ⟨a, cap, rfl, hcap, -⟩ := PAt.ptr (B := 0) (most := 0) (F := fun _ => True) h2
      have c1 := (cell_of_block h1 0).trans (show _ = some (Value.slice a E.length cap) from rfl)
      have hib : (i : Int) + 1 ≤ 1000001 := by omega
      clear h1 h2 HL2 hx ho hw hi hcap
      go_wp2_with fail
      refine HD.out.mono ?_
      rintro e w6 ⟨v', rfl, hr', g6⟩
      have REL := hid (P5.out.relist H1.out H2.out g6 hr' (fun e he => List.mem_of_mem_eraseIdx he) (nodup_erase P5.out.nodup i) (Nat.le_trans (List.length_eraseIdx_le ..) P5.out.n))
      have hB2 := gr_keep g6 H1.out (own_ne_fs H2.out H1.out (by decide))
      have c6 := (cell_of_block hB2 0).trans (show _ = some (Value.slice a E.length cap) from rfl)
      have f6 := free_of_block hB2 0
      obtain ⟨a', cap', rfl, -⟩ := PAt.ptr (B := 0) (most := 0) (F := fun _ => True) hr'
      clear hr' g6 hB2 c1 HD
      go_wp2_with fail
      go_ret
      exact ⟨by rw [R.out]; rfl, by rw [R.out]; exact REL.out.1.all, (KT.of_none G5.out).trans REL.out.2⟩
end Go.Proofs.YtfceodbpkghkaaaGreatDoor
/- gena.(*Subs).Done. -/
namespace Go.Proofs.YtfceodbpkghkaaaGreatDoor
open Go.RowKit
set_option linter.unusedVariables false
set_option linter.unusedSimpArgs false

theorem map_set2 (E : List (Nat × Sb)) (i d : Nat) (x : Sb) : (E.set i (d, x)).map (·.2) = (E.map (·.2)).set i x := by rw [List.map_set]
/-- An answer without result. -/
def NoPost (w : World) (N : Nat) (F : Nat → Prop) (B most : Nat) (L : List Sb) (e : Ending) (w' : World) : Prop :=
  e = .returned (.tuple #[]) ∧ PAll w' N F B L most ∧ KT TP N w w'
set_option maxRecDepth 20000 in
set_option maxHeartbeats 4000000 in
theorem done_x (N : Nat) (F : Nat → Prop) (B : Nat) (E : List (Nat × Sb)) (most : Nat) (s : Gs) (ok : Bool) (now : Nat) (hnow : now < 18446744073709551616) (w : World) (h : PAt w N F B E most) (hEl : E.length ≤ 1000000) (hsq : ∀ e ∈ E, e.2.seq < 4294967296) :
    Calls Tryz.prog 19 #[.pointer (some ⟨B, 0, none⟩), .string ⟨s.toArray⟩, .bool ok, .int .u64 (now : Int)] w (NoPost w N F B most (doneL (E.map (·.2)) s ok now)) := by
  have HF := hid (find_x N F B E most s w h)
  have HP := hid h
  have HQ := hid hsq
  have HLA := hid (fun W => later_x now 1 hnow (by omega) W)
  have hl : (E.map (·.2)).length = E.length := List.length_map ..
  have HD := hid (show doneL (E.map (·.2)) s ok now = match (E.map (·.2))[findL (E.map (·.2)) s]? with | none => E.map (·.2) | some x => if x.busy = false then E.map (·.2) else if ok = false then (E.map (·.2)).eraseIdx (findL (E.map (·.2)) s) else (E.map (·.2)).set (findL (E.map (·.2)) s) { x with busy := false, ready := laterL now 1, seq := if x.seq = 4294967295 then 1 else x.seq + 1 } from rfl)
  obtain ⟨r, hr⟩ : ∃ r, r = doneL (E.map (·.2)) s ok now := ⟨_, rfl⟩
  rw [← hr] at HD ⊢
  clear h hr hsq hnow
  go_enter Tryz.func19, Tryz.ntmps19
  go_wp2_with fail
  refine HF.out.mono ?_
  rintro e w1 ⟨rfl, g1⟩
  have G1 := hid g1
  have P1 := hid (HP.out.grow g1)
  clear HF g1 HP
  cases hx : (E.map (·.2))[findL (E.map (·.2)) s]? with
  | none =>
    rw [plI_none hx]
    have R := hid (show r = E.map (·.2) by rw [HD.out, hx])
    clear HD hx
    go_wp2
    refine bodyPost_ret (results_none rfl _ _ _) rfl ?_
    exact ⟨rfl, by rw [R.out]; exact P1.out.all, KT.of_none G1.out⟩
  | some x =>
    rw [plI_some hx]
    obtain ⟨i, hi⟩ : ∃ i, i = findL (E.map (·.2)) s := ⟨_, rfl⟩
    have hil : i < E.length := by rw [hi, ← hl]; exact (List.getElem?_eq_some_iff.1 hx).1
    have HD2 := hid (show r = if x.busy = false then E.map (·.2) else if ok = false then (E.map (·.2)).eraseIdx i else (E.map (·.2)).set i { x with busy := false, ready := laterL now 1, seq := if x.seq = 4294967295 then 1 else x.seq + 1 } by rw [HD.out, hx, hi])
    rw [← hi] at hx ⊢
    obtain ⟨d, he⟩ := map_at hx
    have HE := hid he
    have HSQ := hid (HQ.out _ (List.mem_of_getElem? he))
    obtain ⟨lv, h1, h2⟩ := P1.out.head
    have HDEL := hid (delete_x N E i hil lv w1 h2)
    have H1 := hid h1
    have H2 := hid h2
    obtain ⟨a, cap, rfl, hcap, hc⟩ := PAt.ptr (B := 0) (most := 0) (F := fun _ => True) h2
    obtain ⟨g, rfl, c2⟩ := hc i _ he
    have c1 := (cell_of_block h1 0).trans (show _ = some (Value.slice (some ⟨g, 0, none⟩) E.length cap) from rfl)
    have PS := hid (P1.out.each _ (List.mem_of_getElem? he))
    simp only at c2 PS HSQ
    have c3 := PS.out.cells.2.2.2.2.2.2.1
    have hi0 : (0 : Int) ≤ (i : Int) := by omega
    have hi1 : (i : Int) < (E.length : Int) := by omega
    have hib : (i : Int) + 1 ≤ 1000001 := by omega
    have hdi : decide ((i : Int) < 0) = false := decide_eq_false (by omega)
    clear h1 h2 hc he hcap hx hi HD HQ
    cases hb : x.busy with
    | false =>
      rw [hb] at c3
      have R := hid (show r = E.map (·.2) by rw [HD2.out, if_pos hb])
      clear HD2 hb HDEL
      go_wp2
      refine bodyPost_ret (results_none rfl _ _ _) rfl ?_
      exact ⟨rfl, by rw [R.out]; exact P1.out.all, KT.of_none G1.out⟩
    | true =>
      rw [hb] at c3
      cases ok with
      | false =>
        have R := hid (show r = (E.eraseIdx i).map (·.2) by rw [HD2.out, hb, if_neg (by simp), if_pos rfl, map_erase])
        clear HD2 hb
        go_wp2_with fail
        refine HDEL.out.mono ?_
        rintro e w6 ⟨v', rfl, hr', g6⟩
        have REL := hid (P1.out.relist H1.out H2.out g6 hr' (fun e he => List.mem_of_mem_eraseIdx he) (nodup_erase P1.out.nodup i) (Nat.le_trans (List.length_eraseIdx_le ..) P1.out.n))
        have hB2 := gr_keep g6 H1.out (own_ne_fs H2.out H1.out (by decide))
        have c6 := (cell_of_block hB2 0).trans (show _ = some (Value.slice (some ⟨g, 0, none⟩) E.length cap) from rfl)
        have f6 := free_of_block hB2 0
        obtain ⟨a', cap', rfl, -⟩ := PAt.ptr (B := 0) (most := 0) (F := fun _ => True) hr'
        clear hr' g6 hB2 c1 c2 c3 HDEL
        go_wp2_with fail
        refine bodyPost_ret (results_none rfl _ _ _) rfl ?_
        exact ⟨rfl, by rw [R.out]; exact REL.out.1.all, (KT.of_none G1.out).trans REL.out.2⟩
      | true =>
        clear HDEL
        obtain ⟨hN, lv, hd, ha⟩ := PS.out
        have c4 := PS.out.cells.2.2.2.2.1
        have c7 := PS.out.cells.2.2.2.2.2.2.2
        have f4 := free_of_block hd 4
        have f6 := free_of_block hd 6
        have f7 := free_of_block hd 7
        have HD0 := hid hd
        have HA := hid ha
        obtain ⟨ln, hln⟩ : ∃ ln, ln = laterL now 1 := ⟨_, rfl⟩
        rw [← hln] at HLA HD2
        obtain ⟨sq, hsq⟩ : ∃ sq, sq = x.seq := ⟨_, rfl⟩
        rw [← hsq] at c4 HSQ HD2
        have hsqb := HSQ.out
        have HSQE := hid hsq
        have HB := hid hb
        clear hln hsq hd ha hb
        go_wp2_with fail
        refine (HLA.out _).mono ?_
        rintro e w5 ⟨rfl, rfl⟩
        by_cases hmax : sq = 4294967295
        · subst hmax
          have R := hid (show r = (E.set i (d, { x with busy := false, ready := ln, seq := 1 })).map (·.2) by rw [HD2.out, HB.out, if_neg (by simp), if_neg (by simp), if_pos rfl, map_set2])
          clear HB
          go_wp2_with fail
          have RS := P1.out.resub (x' := { x with busy := false, ready := ln, seq := 1 }) (lv' := lv) HE.out (gr_trans (gr_trans (gr_set (gr_refl _ _)) (gr_set (gr_refl _ _))) (gr_set (gr_refl _ _))) (heap_set (heap_set (heap_set (o := 6) (v := .bool false) HD0.out) (o := 7) (v := .int .u64 (ln : Int))) (o := 4) (v := .int .u32 (max 0 1))) (((HA.out.kt (T := TS) (fun t ht => tp_ta t (ts_tp t ht)) (KT.of_row (gr_trans (gr_trans (gr_set (gr_refl _ _)) (gr_set (gr_refl _ _))) (gr_set (gr_refl _ _))) HD0.out hN rfl))))
          refine bodyPost_end (results_none rfl _ _ _) rfl ?_
          exact ⟨rfl, by rw [R.out]; exact RS.1.all, (KT.of_none G1.out).trans RS.2⟩
        · have hmx : max ((sq : Int) + 1) 1 = (sq : Int) + 1 := by omega
          have hsqb2 : (sq : Int) + 1 ≤ 4294967295 := by omega
          have R := hid (show r = (E.set i (d, { x with busy := false, ready := ln, seq := sq + 1 })).map (·.2) by rw [HD2.out, HB.out, if_neg (by simp), if_neg (by simp), if_neg hmax, map_set2])
          clear HB
          go_wp2_with fail
          have RS := P1.out.resub (x' := { x with busy := false, ready := ln, seq := sq + 1 }) (lv' := lv) HE.out (gr_trans (gr_trans (gr_set (gr_refl _ _)) (gr_set (gr_refl _ _))) (gr_set (gr_refl _ _))) (heap_set (heap_set (heap_set (o := 6) (v := .bool false) HD0.out) (o := 7) (v := .int .u64 (ln : Int))) (o := 4) (v := .int .u32 ((sq : Int) + 1))) (((HA.out.kt (T := TS) (fun t ht => tp_ta t (ts_tp t ht)) (KT.of_row (gr_trans (gr_trans (gr_set (gr_refl _ _)) (gr_set (gr_refl _ _))) (gr_set (gr_refl _ _))) HD0.out hN rfl))))
          refine bodyPost_end (results_none rfl _ _ _) rfl ?_
          exact ⟨rfl, by rw [R.out]; exact RS.1.all, (KT.of_none G1.out).trans RS.2⟩
end Go.Proofs.YtfceodbpkghkaaaGreatDoor
