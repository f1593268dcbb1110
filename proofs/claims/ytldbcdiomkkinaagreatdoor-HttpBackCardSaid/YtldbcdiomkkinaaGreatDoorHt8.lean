/- (*http.Parser).trailer. -/
import Derived.Test.YtldbcdiomkkinaaGreatDoorHt6
namespace Go.Proofs.YtldbcdiomkkinaaGreatDoor
open Go.RowKit

theorem fieldsL_good : ∀ ts : List (List UInt8), (∀ t ∈ ts, (lnR t).2.2 = true) → (fieldsL ts).isNone = false
  | [], _ => rfl
  | t :: r, h => by
    unfold fieldsL
    rw [if_pos (h t (by simp))]
    have ih := fieldsL_good r (fun x hx => h x (by simp [hx]))
    cases hf : fieldsL r with
    | none => rw [hf] at ih; cases ih
    | some fs => rfl
theorem fieldsL_bad : ∀ (ts : List (List UInt8)) (t : List UInt8), t ∈ ts → (lnR t).2.2 = false → (fieldsL ts).isNone = true
  | [], t, h, _ => by cases h
  | x :: r, t, h, hb => by
    unfold fieldsL
    by_cases hx : (lnR x).2.2 = true
    · rw [if_pos hx]
      rcases List.mem_cons.1 h with rfl | h
      · rw [hb] at hx; cases hx
      · have ih := fieldsL_bad r t h hb
        cases hf : fieldsL r with
        | none => rfl
        | some fs => rw [hf] at ih; cases ih
    · rw [if_neg hx]; rfl
theorem blockGo_len (least : Nat) : ∀ (f : Nat) (texts : List (List UInt8)) (bare : Bool) (b : List UInt8) (ts : List (List UInt8)) (x : Bool) (r : List UInt8) (n : Nat), blockGo least f texts bare b = some (ts, x, r) → b.length ≤ n → (∀ t ∈ texts, t.length ≤ n) → r.length < b.length ∧ ∀ t ∈ ts, t.length ≤ n
  | 0, texts, bare, b, ts, x, r, n, h, _, _ => by cases h
  | f + 1, texts, bare, b, ts, x, r, n, h, hn, ht => by
    unfold blockGo at h
    cases hl : lineL b with
    | none => rw [hl] at h; cases h
    | some p =>
      obtain ⟨t, is, next⟩ := p
      rw [hl] at h
      have h1 := lineL_len hl
      have h2 := lineL_tlen hl
      dsimp only at h
      split at h
      · simp only [Option.some.injEq, Prod.mk.injEq] at h
        obtain ⟨rfl, -, rfl⟩ := h
        exact ⟨h1, ht⟩
      · have := blockGo_len least f _ _ next ts x r n h (by omega) (fun u hu => by
          rcases List.mem_append.1 hu with hu | hu
          · exact ht u hu
          · obtain rfl := List.mem_singleton.1 hu; omega)
        exact ⟨by omega, this.2⟩
theorem blockL_len {least : Nat} {b : List UInt8} {ts : List (List UInt8)} {x : Bool} {r : List UInt8} (h : blockL b least = some (ts, x, r)) : r.length < b.length ∧ ∀ t ∈ ts, t.length ≤ b.length :=
  blockGo_len least _ _ _ _ _ _ _ _ h (Nat.le_refl _) (fun t ht => by cases ht)
theorem blockGo_cnt (least : Nat) : ∀ (f : Nat) (texts : List (List UInt8)) (bare : Bool) (b : List UInt8) (ts : List (List UInt8)) (x : Bool) (r : List UInt8), blockGo least f texts bare b = some (ts, x, r) → ts.length + r.length ≤ texts.length + b.length
  | 0, texts, bare, b, ts, x, r, h => by cases h
  | f + 1, texts, bare, b, ts, x, r, h => by
    unfold blockGo at h
    cases hl : lineL b with
    | none => rw [hl] at h; cases h
    | some p =>
      obtain ⟨t, is, next⟩ := p
      rw [hl] at h
      have h1 := lineL_len hl
      dsimp only at h
      split at h
      · simp only [Option.some.injEq, Prod.mk.injEq] at h
        obtain ⟨rfl, -, rfl⟩ := h
        omega
      · have := blockGo_cnt least f _ _ next ts x r h
        rw [List.length_append] at this
        simp only [List.length_cons, List.length_nil] at this
        omega
theorem blockL_cnt {least : Nat} {b : List UInt8} {ts : List (List UInt8)} {x : Bool} {r : List UInt8} (h : blockL b least = some (ts, x, r)) : ts.length ≤ b.length := by
  have := blockGo_cnt least _ _ _ _ _ _ _ h
  simp only [List.length_nil] at this
  omega
theorem done_end {w w3 w9 : World} {b n0 : Nat} {s : Ps} {cs : Array Value} {ra fa ba : Option Addr} {rc fc bc : Nat}
    (hm : if s.req.keep = true then w3.heap[b]? = some (.cells (PsCells (.slice ra s.rest.length rc) 0 false [] [] 0 (.slice none 0 0) (.slice none 0 0) false (s.left : Int)) 62 (0, 0)) else PDead w3 b)
    (g3 : w.grownBy w3 (some b)) (hr : ByAt w3 (.slice ra s.rest.length rc) s.rest) (hf : FsAt w3 (.slice fa s.req.fields.length fc) s.req.fields) (hb : BoAt w3 (.slice ba s.req.body.length bc) s.req.body)
    (hn : w3.heap[n0]? = some (.cells cs 46 (0, 0))) (g9 : w3.grownBy w9 (some n0)) (h0 : w.heap.size ≤ n0) (hu : NoU8 cs) :
    StepPost w b (doneS s) (.returned (.tuple #[.agg (PdCells 0 s.req.method s.req.target s.req.minor (.slice fa s.req.fields.length fc) (.slice ba s.req.body.length bc) s.req.keep), .bool true])) w9 := by
  refine ⟨?_, gr_new g3 g9 h0, .inr ⟨⟨0, s.req⟩, fa, fc, ba, bc, rfl, rfl, hf.kept g9 hn (by decide), hb.kept g9 hn (by decide) hu⟩⟩
  unfold doneS
  by_cases hk : s.req.keep = true
  · rw [if_pos hk] at hm
    show PAt w9 b (if s.req.keep = true then _ else _)
    rw [if_pos hk]
    exact .inr ⟨by simp, _, _, _, gr_keep g9 hm (blk_ne hm hn (by decide)), hr.kept g9 hn (by decide), FsAt.nil _, BoAt.nil _⟩
  · rw [if_neg hk] at hm
    show PAt w9 b (if s.req.keep = true then _ else _)
    rw [if_neg hk]
    exact .inl ⟨rfl, hm.kept g9 hn (by decide)⟩
def TrR (texts : List (List UInt8)) (w2 : World) (vk : Value) (wr : World) : Prop :=
  ∃ k : Nat, vk = .int .i64 k ∧ k ≤ texts.length ∧ w2.grownBy wr none ∧ ∀ j t, texts[j]? = some t → j < k → (lnR t).2.2 = true
set_option maxRecDepth 20000 in
set_option maxHeartbeats 4000000 in
theorem trailer_http (b : Nat) (s : Ps) (w : World) (h : PLive w b s) (hs : s.stage = 4) (hok : PsOk s) : Calls Tryz.prog 42 #[.pointer (some ⟨b, 0, none⟩)] w (StepPost w b (trailerS s)) := by
  have hs5 : s.stage ≠ 5 := by rw [hs]; decide
  have HL := hid h
  have HOK := hid hok
  obtain ⟨rv, fv, bv, hh, hr, hf, hb⟩ := h
  obtain ⟨ra, rc, rfl, hr1, hr2⟩ := hr.shape
  obtain ⟨fa, fc, rfl⟩ := hf.shape
  obtain ⟨ba, bc, rfl, hb1, hb2⟩ := hb.shape
  have c0 := (cell_of_block hh 0).trans (show _ = some (Value.slice ra s.rest.length rc) from rfl)
  have hlt := lt_of_block hh
  have HR := hid hr
  have HF := hid hf
  have HBo := hid hb
  have HH := hid hh
  have hlr : s.rest.length ≤ 200000 := hok.1
  clear hok hr hf hb hh
  go_enter Tryz.func42, Tryz.ntmps42
  go_wp2_with fail
  have hN := heap_alloc_new w (.cells #[.int .i64 0, .string ⟨#[]⟩, .string ⟨#[]⟩, .int .i64 0, .slice none 0 0, .slice none 0 0, .bool false] 46)
  have g1 := World.grownBy_alloc w (.cells #[.int .i64 0, .string ⟨#[]⟩, .string ⟨#[]⟩, .int .i64 0, .slice none 0 0, .slice none 0 0, .bool false] 46) none
  revert hN g1
  generalize w.alloc _ = w1
  intro hN g1
  refine (block_http s.rest _ 0 w1 (HR.out.grow g1) (by omega) (by omega)).mono ?_
  rintro e w2 ⟨g2, ⟨hl, rfl⟩ | ⟨texts, bare, r', tv, rv', hl, rfl, htv, hrv⟩⟩
  · have HN := hid (gr_keep g2 hN (by simp))
    have G2 := hid (gr_trans g1 g2)
    have hh2 := gr_keep G2.out HH.out (by simp)
    have c0 := (cell_of_block hh2 0).trans (show _ = some (Value.slice ra s.rest.length rc) from rfl)
    have l2 := lt_of_block hh2
    have ln2 := lt_of_block HN.out
    have n0 := (cell_of_block HN.out 0).trans (show _ = some (Value.int .i64 0) from rfl)
    have y0 := free_of_block HN.out 0
    have n1 := (cell_of_block HN.out 1).trans (show _ = some (Value.string ⟨#[]⟩) from rfl)
    have y1 := free_of_block HN.out 1
    have n2 := (cell_of_block HN.out 2).trans (show _ = some (Value.string ⟨#[]⟩) from rfl)
    have y2 := free_of_block HN.out 2
    have n3 := (cell_of_block HN.out 3).trans (show _ = some (Value.int .i64 0) from rfl)
    have y3 := free_of_block HN.out 3
    have n4 := (cell_of_block HN.out 4).trans (show _ = some (Value.slice none 0 0) from rfl)
    have y4 := free_of_block HN.out 4
    have n5 := (cell_of_block HN.out 5).trans (show _ = some (Value.slice none 0 0) from rfl)
    have y5 := free_of_block HN.out 5
    have n6 := (cell_of_block HN.out 6).trans (show _ = some (Value.bool false) from rfl)
    have y6 := free_of_block HN.out 6
    have HH2 := hid hh2
    clear hh2 g1 g2 hN hlt
    by_cases h1024 : 1024 ≤ s.rest.length
    · have HS := hid (show trailerS s = failS 431 by unfold trailerS; rw [hl]; exact if_pos h1024)
      have h1024' : (1024 : Int) ≤ (s.rest.length : Int) := by omega
      clear hl
      go_wp2_with fail
      refine (fail_http b _ _ _ _ _ _ 431 _ _ _ _ w2 HH2.out).mono ?_
      rintro e w3 ⟨rfl, hd, g3⟩
      have HN3 := hid (gr_keep g3 HN.out (blk_ne HN.out HH2.out (by decide)))
      have y0 := free_of_block HN3.out 0
      have y1 := free_of_block HN3.out 1
      have y2 := free_of_block HN3.out 2
      have y3 := free_of_block HN3.out 3
      have y4 := free_of_block HN3.out 4
      have y5 := free_of_block HN3.out 5
      have y6 := free_of_block HN3.out 6
      have n0 := (cell_of_block HN3.out 0).trans (show _ = some (Value.int .i64 0) from rfl)
      have n1 := (cell_of_block HN3.out 1).trans (show _ = some (Value.string ⟨#[]⟩) from rfl)
      have n2 := (cell_of_block HN3.out 2).trans (show _ = some (Value.string ⟨#[]⟩) from rfl)
      have n3 := (cell_of_block HN3.out 3).trans (show _ = some (Value.int .i64 0) from rfl)
      have n4 := (cell_of_block HN3.out 4).trans (show _ = some (Value.slice none 0 0) from rfl)
      have n5 := (cell_of_block HN3.out 5).trans (show _ = some (Value.slice none 0 0) from rfl)
      have n6 := (cell_of_block HN3.out 6).trans (show _ = some (Value.bool false) from rfl)
      have lnn := lt_of_block HN3.out
      unfold PdCells str
      go_wp21
      have H7 := pd_set7 (.int .i64 431) (.string ⟨#[]⟩) (.string ⟨#[]⟩) (.int .i64 0) (.slice none 0 0) (.slice none 0 0) (.bool false) HN3.out
      revert H7
      generalize ((((((w3.setCell _ _).setCell _ _).setCell _ _).setCell _ _).setCell _ _).setCell _ _).setCell _ _ = w9
      rintro ⟨hn9, g9⟩
      have e0 := cell_of_block hn9 0
      have e1 := cell_of_block hn9 1
      have e2 := cell_of_block hn9 2
      have e3 := cell_of_block hn9 3
      have e4 := cell_of_block hn9 4
      have e5 := cell_of_block hn9 5
      have e6 := cell_of_block hn9 6
      (try simp only [Exit.inBlock, Exit.then])
      refine bodyPost_ret (v := .tuple #[.agg #[.int .i64 431, .string ⟨#[]⟩, .string ⟨#[]⟩, .int .i64 0, .slice none 0 0, .slice none 0 0, .bool false], .bool true]) ?_ rfl (by rw [HS.out]; exact fail_end hd (gr_trans (gr_none G2.out) g3) HN3.out g9 (Nat.le_refl _))
      simp [results, Tryz.results42, go_sem, e0, e1, e2, e3, e4, e5, e6]
    · have HS := hid (show trailerS s = (s, none) by unfold trailerS; rw [hl]; exact if_neg h1024)
      have h1024' : ¬ (1024 : Int) ≤ (s.rest.length : Int) := by omega
      clear hl
      go_wp2_with fail
      have H7 := pd_set7 (.int .i64 0) (.string ⟨#[]⟩) (.string ⟨#[]⟩) (.int .i64 0) (.slice none 0 0) (.slice none 0 0) (.bool false) HN.out
      revert H7
      generalize ((((((w2.setCell _ _).setCell _ _).setCell _ _).setCell _ _).setCell _ _).setCell _ _).setCell _ _ = w9
      rintro ⟨hn9, g9⟩
      have e0 := cell_of_block hn9 0
      have e1 := cell_of_block hn9 1
      have e2 := cell_of_block hn9 2
      have e3 := cell_of_block hn9 3
      have e4 := cell_of_block hn9 4
      have e5 := cell_of_block hn9 5
      have e6 := cell_of_block hn9 6
      (try simp only [Exit.inBlock, Exit.then])
      refine bodyPost_ret (v := .tuple #[.agg #[.int .i64 0, .string ⟨#[]⟩, .string ⟨#[]⟩, .int .i64 0, .slice none 0 0, .slice none 0 0, .bool false], .bool false]) ?_ rfl (by rw [HS.out]; exact none_end (HL.out.grow G2.out) hs5 (gr_none G2.out) HN.out g9 (Nat.le_refl _) (no_u8_pd _ _ _ _ _ _ _))
      simp [results, Tryz.results42, go_sem, e0, e1, e2, e3, e4, e5, e6]
  · obtain ⟨va, vc, rfl, hv1, hv2⟩ := hrv.shape
    obtain ⟨ta, tc, rfl, ht1⟩ := own_shape htv
    have hlen := blockL_len hl
    have HTL := hid hlen.2
    have hcnt : texts.length ≤ 200000 := Nat.le_trans (blockL_cnt hl) hlr
    have hlen1 := hlen.1
    have HN := hid (gr_keep g2 hN (by simp))
    have G2 := hid (gr_trans g1 g2)
    have hh2 := gr_keep G2.out HH.out (by simp)
    have c0 := (cell_of_block hh2 0).trans (show _ = some (Value.slice ra s.rest.length rc) from rfl)
    have l2 := lt_of_block hh2
    have HH2 := hid hh2
    have HRV := hid hrv
    have HTV := hid htv
    clear hh2 g1 g2 hN hlt hrv hv1 hv2 hlen htv
    obtain ⟨d, hd⟩ : ∃ d, d = s.rest.length - r'.length := ⟨_, rfl⟩
    have hdi : (s.rest.length : Int) - (r'.length : Int) = (d : Int) := by omega
    have hdi2 : IntKind.i64.wrap ((s.rest.length : Int) - (r'.length : Int)) = (d : Int) := by rw [hdi]; exact IntWalk.i64_in _ (by omega)
    by_cases h1024 : 1024 < d
    · have HS := hid (show trailerS s = failS 431 by unfold trailerS; rw [hl]; exact if_pos (by omega))
      have h1024' : decide ((1024 : Int) < (d : Int)) = true := by simp; omega
      have h1024'' : (1024 : Int) ≤ (s.rest.length : Int) := by omega
      clear hl hd
      go_wp2_with fail
      refine (fail_http b _ _ _ _ _ _ 431 _ _ _ _ w2 HH2.out).mono ?_
      rintro e w3 ⟨rfl, hd, g3⟩
      have HN3 := hid (gr_keep g3 HN.out (blk_ne HN.out HH2.out (by decide)))
      have y0 := free_of_block HN3.out 0
      have y1 := free_of_block HN3.out 1
      have y2 := free_of_block HN3.out 2
      have y3 := free_of_block HN3.out 3
      have y4 := free_of_block HN3.out 4
      have y5 := free_of_block HN3.out 5
      have y6 := free_of_block HN3.out 6
      have n0 := (cell_of_block HN3.out 0).trans (show _ = some (Value.int .i64 0) from rfl)
      have n1 := (cell_of_block HN3.out 1).trans (show _ = some (Value.string ⟨#[]⟩) from rfl)
      have n2 := (cell_of_block HN3.out 2).trans (show _ = some (Value.string ⟨#[]⟩) from rfl)
      have n3 := (cell_of_block HN3.out 3).trans (show _ = some (Value.int .i64 0) from rfl)
      have n4 := (cell_of_block HN3.out 4).trans (show _ = some (Value.slice none 0 0) from rfl)
      have n5 := (cell_of_block HN3.out 5).trans (show _ = some (Value.slice none 0 0) from rfl)
      have n6 := (cell_of_block HN3.out 6).trans (show _ = some (Value.bool false) from rfl)
      have lnn := lt_of_block HN3.out
      unfold PdCells str
      go_wp21
      have H7 := pd_set7 (.int .i64 431) (.string ⟨#[]⟩) (.string ⟨#[]⟩) (.int .i64 0) (.slice none 0 0) (.slice none 0 0) (.bool false) HN3.out
      revert H7
      generalize ((((((w3.setCell _ _).setCell _ _).setCell _ _).setCell _ _).setCell _ _).setCell _ _).setCell _ _ = w9
      rintro ⟨hn9, g9⟩
      have e0 := cell_of_block hn9 0
      have e1 := cell_of_block hn9 1
      have e2 := cell_of_block hn9 2
      have e3 := cell_of_block hn9 3
      have e4 := cell_of_block hn9 4
      have e5 := cell_of_block hn9 5
      have e6 := cell_of_block hn9 6
      (try simp only [Exit.inBlock, Exit.then])
      refine bodyPost_ret (v := .tuple #[.agg #[.int .i64 431, .string ⟨#[]⟩, .string ⟨#[]⟩, .int .i64 0, .slice none 0 0, .slice none 0 0, .bool false], .bool true]) ?_ rfl (by rw [HS.out]; exact fail_end hd (gr_trans (gr_none G2.out) g3) HN3.out g9 (Nat.le_refl _))
      simp [results, Tryz.results42, go_sem, e0, e1, e2, e3, e4, e5, e6]
    · have HE := hid (show trailerS s = if (fieldsL texts).isNone = true ∨ bare = true then failS 400 else doneS { s with rest := r' } by unfold trailerS; rw [hl]; exact if_neg (by omega))
      have h1024' : decide ((1024 : Int) < (d : Int)) = false := by simp; omega
      clear hl hd
      go_wp2_with fail
      go_loopw [48] (fun vk wr => TrR texts w2 vk wr) (fun vk _ => texts.length - (intOf vk).toNat)
      case atStart => exact ⟨0, rfl, Nat.zero_le _, gr_refl _ _, fun j t _ h => absurd h (Nat.not_lt_zero _)⟩
      case round =>
        obtain ⟨k, rfl, hk, gw, hgood⟩ := hrel
        have HG := hid hgood
        have hNr := gr_keep gw HN.out (by simp)
        have hhr := gr_keep gw HH2.out (by simp)
        have GR := hid (gr_trans G2.out gw)
        have HHR := hid hhr
        have HNR := hid hNr
        have lr := lt_of_block hhr
        have lnr := lt_of_block hNr
        clear hNr hhr hgood c0 l2
        by_cases hkl : k < texts.length
        · obtain ⟨gt, gc, egt, hgc, hcells⟩ := own_cell HTV.out (by omega)
          obtain ⟨rfl, rfl⟩ : ta = some ⟨gt, 0, none⟩ ∧ tc = gc := by simpa using egt
          obtain ⟨t, htk⟩ : ∃ t, texts[k]? = some t := ⟨_, List.getElem?_eq_getElem hkl⟩
          have hcell := gw.cell (hcells.2 k (str t) (by rw [List.getElem?_map, htk]; rfl)) (by simp)
          have htl : t.length ≤ 200000 := Nat.le_trans (HTL.out t (List.mem_of_getElem? htk)) hlr
          have HTK := hid htk
          clear hcells egt htk
          unfold str at hcell
          go_wp2_with fail
          refine (line_any ⟨t.toArray⟩ wr (by rw [Lib.size_eq]; simp; omega)).mono ?_
          rintro e w3 ⟨rfl, g3⟩
          rw [show (ByteArray.mk t.toArray).data.toList = t from rfl]
          cases hgd : (lnR t).2.2
          · have HS := hid (HE.out.trans (if_pos (.inl (fieldsL_bad texts t (List.mem_of_getElem? HTK.out) hgd))))
            have HN3 := hid (gr_keep g3 HNR.out (by simp))
            have HH3 := hid (gr_keep g3 HHR.out (by simp))
            have GR3 := hid (gr_trans GR.out g3)
            clear HE hgd g3
            unfold str
            generalize (lnR t).1 = fn1
            generalize (lnR t).2.1 = fv1
            go_wp2_with fail
            have g4 := World.grownBy_alloc w3 (.cells #[.string ⟨fn1.toArray⟩, .string ⟨fv1.toArray⟩] 26) none
            revert g4
            generalize w3.alloc _ = w4
            intro g4
            have HH4 := hid (gr_keep g4 HH3.out (by simp))
            have HN4 := hid (gr_keep g4 HN3.out (by simp))
            have GR4 := hid (gr_trans GR3.out g4)
            refine (fail_http b _ _ _ _ _ _ 400 _ _ _ _ w4 HH4.out).mono ?_
            rintro e w5 ⟨rfl, hd, g5⟩
            have HN5 := hid (gr_keep g5 HN4.out (blk_ne HN4.out HH4.out (by decide)))
            have y0 := free_of_block HN5.out 0
            have y1 := free_of_block HN5.out 1
            have y2 := free_of_block HN5.out 2
            have y3 := free_of_block HN5.out 3
            have y4 := free_of_block HN5.out 4
            have y5 := free_of_block HN5.out 5
            have y6 := free_of_block HN5.out 6
            have n0 := (cell_of_block HN5.out 0).trans (show _ = some (Value.int .i64 0) from rfl)
            have n1 := (cell_of_block HN5.out 1).trans (show _ = some (Value.string ⟨#[]⟩) from rfl)
            have n2 := (cell_of_block HN5.out 2).trans (show _ = some (Value.string ⟨#[]⟩) from rfl)
            have n3 := (cell_of_block HN5.out 3).trans (show _ = some (Value.int .i64 0) from rfl)
            have n4 := (cell_of_block HN5.out 4).trans (show _ = some (Value.slice none 0 0) from rfl)
            have n5 := (cell_of_block HN5.out 5).trans (show _ = some (Value.slice none 0 0) from rfl)
            have n6 := (cell_of_block HN5.out 6).trans (show _ = some (Value.bool false) from rfl)
            have lnn := lt_of_block HN5.out
            unfold PdCells str
            go_wp21
            have H7 := pd_set7 (.int .i64 400) (.string ⟨#[]⟩) (.string ⟨#[]⟩) (.int .i64 0) (.slice none 0 0) (.slice none 0 0) (.bool false) HN5.out
            revert H7
            generalize ((((((w5.setCell _ _).setCell _ _).setCell _ _).setCell _ _).setCell _ _).setCell _ _).setCell _ _ = w9
            rintro ⟨hn9, g9⟩
            have e0 := cell_of_block hn9 0
            have e1 := cell_of_block hn9 1
            have e2 := cell_of_block hn9 2
            have e3 := cell_of_block hn9 3
            have e4 := cell_of_block hn9 4
            have e5 := cell_of_block hn9 5
            have e6 := cell_of_block hn9 6
            (try simp only [Exit.inBlock, Exit.then])
            refine bodyPost_ret (v := .tuple #[.agg #[.int .i64 400, .string ⟨#[]⟩, .string ⟨#[]⟩, .int .i64 0, .slice none 0 0, .slice none 0 0, .bool false], .bool true]) ?_ rfl (by rw [HS.out]; exact fail_end hd (gr_trans (gr_none GR4.out) g5) HN5.out g9 (Nat.le_refl _))
            simp [results, Tryz.results42, go_sem, e0, e1, e2, e3, e4, e5, e6]
          · have HGD := hid hgd
            have GW3 := hid (gr_trans gw g3)
            clear hgd g3 gw HNR HHR GR lr lnr
            unfold str
            generalize (lnR t).1 = fn1
            generalize (lnR t).2.1 = fv1
            go_wp2_with fail
            go_roundw
            case rel =>
              refine ⟨k + 1, by go_num, by omega, gr_alloc GW3.out _, fun j t' hj hlt => ?_⟩
              rcases Nat.lt_succ_iff_lt_or_eq.1 hlt with h1 | rfl
              · exact HG.out j t' hj h1
              · rw [HTK.out] at hj
                obtain rfl := Option.some.inj hj
                exact HGD.out
            case measure => simp [intOf]; omega
        · have hall : (fieldsL texts).isNone = false := fieldsL_good texts (fun t ht => by
            obtain ⟨j, hj⟩ := List.getElem?_of_mem ht
            exact HG.out j t hj (by have := (List.getElem?_eq_some_iff.1 hj).1; omega))
          have HALL := hid hall
          clear hall HG
          cases bare
          · have HS := hid (HE.out.trans (if_neg (by rw [HALL.out]; simp)))
            clear HE
            have c0 := (cell_of_block HHR.out 0).trans (show _ = some (Value.slice ra s.rest.length rc) from rfl)
            have f0 := free_of_block HHR.out 0
            go_upto_region 16 with fail
            obtain ⟨w4, hw4⟩ : ∃ x, x = wr.setCell ⟨b, 0, none⟩ (.slice va r'.length vc) := ⟨_, rfl⟩
            rw [← hw4]
            have hb4 : w4.heap[b]? = some (.cells (PsCells (.slice va r'.length vc) (s.stage : Int) s.skip s.req.method s.req.target s.req.minor (.slice fa s.req.fields.length fc) (.slice ba s.req.body.length bc) s.req.keep (s.left : Int)) 62 (0, 0)) := by rw [hw4]; exact heap_set HHR.out
            have g4 : wr.grownBy w4 (some b) := by rw [hw4]; exact gr_set (gr_refl _ _)
            have HN4 := hid (gr_keep g4 HNR.out (blk_ne HNR.out HHR.out (by decide)))
            have HF4 := hid ((HF.out.grow GR.out).kept g4 HHR.out (by decide))
            have HB4 := hid ((HBo.out.grow GR.out).kept g4 HHR.out (by decide) (no_u8_ps _ _ _ _ _ _ _ _ _ _ _ _))
            have HR4 := hid ((HRV.out.grow gw).kept g4 HHR.out (by decide))
            have G4 := hid (gr_trans (gr_none GR.out) g4)
            clear hw4 g4 c0 f0 HNR HHR GR lr lnr
            have HH4 := hid hb4
            clear hb4
            go_wp2_with fail
            refine (done_http b _ _ _ _ _ _ _ _ _ _ _ _ _ _ _ _ w4 HH4.out).mono ?_
            rintro e w5 ⟨rfl, hm, g5⟩
            have HN5 := hid (gr_keep g5 HN4.out (blk_ne HN4.out HH4.out (by decide)))
            have HM := hid hm
            have HD := hid (fun (w9 : World) (g9 : w5.grownBy w9 (some w.heap.size)) => done_end (s := { s with rest := r' }) (w := w) hm (gr_trans G4.out g5) (HR4.out.kept g5 HH4.out (by decide)) (HF4.out.kept g5 HH4.out (by decide)) (HB4.out.kept g5 HH4.out (by decide) (no_u8_ps _ _ _ _ _ _ _ _ _ _ _ _)) HN5.out g9 (Nat.le_refl _) (no_u8_pd _ _ _ _ _ _ _))
            clear hm
            have y0 := free_of_block HN5.out 0
            have y1 := free_of_block HN5.out 1
            have y2 := free_of_block HN5.out 2
            have y3 := free_of_block HN5.out 3
            have y4 := free_of_block HN5.out 4
            have y5 := free_of_block HN5.out 5
            have y6 := free_of_block HN5.out 6
            have n0 := (cell_of_block HN5.out 0).trans (show _ = some (Value.int .i64 0) from rfl)
            have n1 := (cell_of_block HN5.out 1).trans (show _ = some (Value.string ⟨#[]⟩) from rfl)
            have n2 := (cell_of_block HN5.out 2).trans (show _ = some (Value.string ⟨#[]⟩) from rfl)
            have n3 := (cell_of_block HN5.out 3).trans (show _ = some (Value.int .i64 0) from rfl)
            have n4 := (cell_of_block HN5.out 4).trans (show _ = some (Value.slice none 0 0) from rfl)
            have n5 := (cell_of_block HN5.out 5).trans (show _ = some (Value.slice none 0 0) from rfl)
            have n6 := (cell_of_block HN5.out 6).trans (show _ = some (Value.bool false) from rfl)
            have lnn := lt_of_block HN5.out
            unfold PdCells str
            go_wp21
            have H7 := pd_set7 (.int .i64 0) (.string ⟨s.req.method.toArray⟩) (.string ⟨s.req.target.toArray⟩) (.int .i64 s.req.minor) (.slice fa s.req.fields.length fc) (.slice ba s.req.body.length bc) (.bool s.req.keep) HN5.out
            revert H7
            generalize ((((((w5.setCell _ _).setCell _ _).setCell _ _).setCell _ _).setCell _ _).setCell _ _).setCell _ _ = w9
            rintro ⟨hn9, g9⟩
            have e0 := cell_of_block hn9 0
            have e1 := cell_of_block hn9 1
            have e2 := cell_of_block hn9 2
            have e3 := cell_of_block hn9 3
            have e4 := cell_of_block hn9 4
            have e5 := cell_of_block hn9 5
            have e6 := cell_of_block hn9 6
            (try simp only [Exit.inBlock, Exit.then])
            refine bodyPost_ret (v := .tuple #[.agg #[.int .i64 0, .string ⟨s.req.method.toArray⟩, .string ⟨s.req.target.toArray⟩, .int .i64 s.req.minor, .slice fa s.req.fields.length fc, .slice ba s.req.body.length bc, .bool s.req.keep], .bool true]) ?_ rfl (by rw [HS.out]; exact HD.out w9 g9)
            simp [results, Tryz.results42, go_sem, e0, e1, e2, e3, e4, e5, e6]
          · have HS := hid (HE.out.trans (if_pos (.inr rfl)))
            clear HE
            go_wp2_with fail
            refine (fail_http b _ _ _ _ _ _ 400 _ _ _ _ wr HHR.out).mono ?_
            rintro e w5 ⟨rfl, hd, g5⟩
            have HN5 := hid (gr_keep g5 HNR.out (blk_ne HNR.out HHR.out (by decide)))
            have y0 := free_of_block HN5.out 0
            have y1 := free_of_block HN5.out 1
            have y2 := free_of_block HN5.out 2
            have y3 := free_of_block HN5.out 3
            have y4 := free_of_block HN5.out 4
            have y5 := free_of_block HN5.out 5
            have y6 := free_of_block HN5.out 6
            have n0 := (cell_of_block HN5.out 0).trans (show _ = some (Value.int .i64 0) from rfl)
            have n1 := (cell_of_block HN5.out 1).trans (show _ = some (Value.string ⟨#[]⟩) from rfl)
            have n2 := (cell_of_block HN5.out 2).trans (show _ = some (Value.string ⟨#[]⟩) from rfl)
            have n3 := (cell_of_block HN5.out 3).trans (show _ = some (Value.int .i64 0) from rfl)
            have n4 := (cell_of_block HN5.out 4).trans (show _ = some (Value.slice none 0 0) from rfl)
            have n5 := (cell_of_block HN5.out 5).trans (show _ = some (Value.slice none 0 0) from rfl)
            have n6 := (cell_of_block HN5.out 6).trans (show _ = some (Value.bool false) from rfl)
            have lnn := lt_of_block HN5.out
            unfold PdCells str
            go_wp21
            have H7 := pd_set7 (.int .i64 400) (.string ⟨#[]⟩) (.string ⟨#[]⟩) (.int .i64 0) (.slice none 0 0) (.slice none 0 0) (.bool false) HN5.out
            revert H7
            generalize ((((((w5.setCell _ _).setCell _ _).setCell _ _).setCell _ _).setCell _ _).setCell _ _).setCell _ _ = w9
            rintro ⟨hn9, g9⟩
            have e0 := cell_of_block hn9 0
            have e1 := cell_of_block hn9 1
            have e2 := cell_of_block hn9 2
            have e3 := cell_of_block hn9 3
            have e4 := cell_of_block hn9 4
            have e5 := cell_of_block hn9 5
            have e6 := cell_of_block hn9 6
            (try simp only [Exit.inBlock, Exit.then])
            refine bodyPost_ret (v := .tuple #[.agg #[.int .i64 400, .string ⟨#[]⟩, .string ⟨#[]⟩, .int .i64 0, .slice none 0 0, .slice none 0 0, .bool false], .bool true]) ?_ rfl (by rw [HS.out]; exact fail_end hd (gr_trans (gr_none GR.out) g5) HN5.out g9 (Nat.le_refl _))
            simp [results, Tryz.results42, go_sem, e0, e1, e2, e3, e4, e5, e6]
end Go.Proofs.YtldbcdiomkkinaaGreatDoor
