/- The walk of GenaFull. -/
import Derived.Test.YtfceodbpkghkaaaDoorGmk
namespace Go.Proofs.YtfceodbpkghkaaaDoor
open Go.RowKit
set_option linter.unusedVariables false
set_option linter.unusedSimpArgs false

theorem i64_andm (n : Int) (j m : Nat) (hm : (BitVec.ofInt 64 (m : Int)).toNat = 2 ^ j - 1) (hj : 2 ^ j ≤ 4294967296) : bits .and .i64 n (m : Int) = n % ((2 ^ j : Nat) : Int) := by
  have key : (BitVec.ofInt 64 n &&& BitVec.ofInt 64 (m : Int)).toNat = (n % ((2 ^ 64 : Nat) : Int)).toNat % 2 ^ j := by
    rw [BitVec.toNat_and, BitVec.toNat_ofInt, hm, Nat.and_two_pow_sub_one_eq_mod]
  have hp : 0 < 2 ^ j := Nat.pow_pos (by decide)
  show IntKind.i64.wrap ((BitVec.ofInt 64 n &&& BitVec.ofInt 64 (m : Int)).toNat : Nat) = _
  rw [key, IntKind.wrap_i64]
  have hlt := Nat.mod_lt (n % ((2 ^ 64 : Nat) : Int)).toNat hp
  have hjle : j ≤ 64 := by
    rcases Nat.lt_or_ge 64 j with h | h
    · have := Nat.pow_le_pow_right (show 0 < 2 by decide) (Nat.le_of_lt h)
      omega
    · exact h
  have hdvd : (2 ^ j) ∣ 2 ^ 64 := Nat.pow_dvd_pow 2 hjle
  have e1 : (((n % ((2 ^ 64 : Nat) : Int)).toNat % 2 ^ j : Nat) : Int) = n % ((2 ^ j : Nat) : Int) := by
    rw [Int.natCast_emod, Int.toNat_of_nonneg (Int.emod_nonneg _ (by decide))]
    exact Int.emod_emod_of_dvd n (Int.natCast_dvd_natCast.2 hdvd)
  rw [e1]
  have := Int.emod_nonneg n (show ((2 ^ j : Nat) : Int) ≠ 0 by omega)
  have := Int.emod_lt_of_pos n (show 0 < ((2 ^ j : Nat) : Int) by omega)
  generalize ((2 ^ j : Nat) : Int) = P at *
  omega
theorem i64_and15' (n : Int) : ∃ k : Nat, bits .and .i64 n 15 = (k : Int) ∧ k < 16 := by
  have h := i64_andm n 4 15 (by decide) (by decide)
  refine ⟨(n % 16).toNat, ?_, by omega⟩
  have h2 : bits .and .i64 n 15 = n % 16 := by simpa using h
  rw [h2]; omega
/-- The types that the law writes in. -/
def TF (t : TypeId) : Bool := TP t || t == 28
theorem tp_tf (t : TypeId) (h : TP t = true) : TF t = true := by unfold TF; rw [h]; rfl
theorem infoAddr : (Tryd.prog.info? 28).map (fun i => (i.zero, i.size, i.bytes)) = some (some (.int .u32 0), 1, 4) := by kernel_rfl
def u32V (n : Nat) : Value := .int .u32 (n : Int)
/-- A row of addresses of the law's own. -/
def OwnU (w : World) (base : Nat) (v : Value) (ws : List Nat) : Prop := w.ownsRow base 28 1 v ws.length (ws.map u32V)
theorem OwnU.kt {w w' : World} {base N : Nat} {v : Value} {ws : List Nat} (h : OwnU w base v ws) (k : KT TP N w w') : OwnU w' base v ws := by
  refine ⟨h.1, ?_⟩
  rcases h.2 with h2 | ⟨g, cap, cur, e1, e2, e3, e4⟩
  · exact .inl h2
  · exact .inr ⟨g, cap, cur, e1, e2, k.of_type e3 (by decide), e4⟩
theorem OwnU.blk {w : World} {base : Nat} {v : Value} {ws : List Nat} (h : OwnU w base v ws) : ∀ b, v.ownBlock = some b → base ≤ b ∧ ∃ cs rr, w.heap[b]? = some (.cells cs 28 rr) := by
  intro b hb
  rcases h.2 with ⟨rfl, _⟩ | ⟨g, cap, cur, rfl, hN, hg, -⟩
  · cases hb
  · obtain rfl : g = b := by simpa [Value.ownBlock] using hb
    exact ⟨hN, _, _, hg⟩
theorem PAll.grow {w w' : World} {N : Nat} {F : Nat → Prop} {B most : Nat} {L : List Sb} (h : PAll w N F B L most) (g : w.grownBy w' none) : PAll w' N F B L most := by
  obtain ⟨E, e, h⟩ := h; exact ⟨E, e, h.grow g⟩
theorem PAll.own {w w' : World} {N base : Nat} {B most : Nat} {L : List Sb} {v : Value} {ws : List Nat} (h : PAll w N (fun _ => False) B L most) (ho : OwnU w base v ws) (g : w.grownBy w' v.ownBlock) : PAll w' N (fun _ => False) B L most := by
  cases hb : v.ownBlock with
  | none => rw [hb] at g; exact h.grow g
  | some b =>
    rw [hb] at g
    obtain ⟨E, e, h⟩ := h
    obtain ⟨-, cs, rr, hh⟩ := ho.blk b hb
    exact ⟨E, e, h.row g hh (by decide) (fun h => h)⟩
theorem own_tf {w w' : World} {N : Nat} {v : Value} {ws : List Nat} (ho : OwnU w N v ws) (g : w.grownBy w' v.ownBlock) : KT TF N w w' := by
  cases hb : v.ownBlock with
  | none => rw [hb] at g; exact KT.of_none g
  | some b =>
    rw [hb] at g
    obtain ⟨h1, cs, rr, hh⟩ := ho.blk b hb
    exact KT.of_row g hh h1 (by decide)
/-- A request that holds a SID, in memory. -/
def RqAt (w : World) (rb fb : Nat) (s : Gs) : Prop :=
  w.heap[rb]? = some (.cells #[.string ⟨#[]⟩, .string ⟨#[]⟩, .int .i64 0, .slice (some ⟨fb, 0, none⟩) 1 1, .slice none 0 0, .bool false] 34 (0, 0)) ∧ w.heap[fb]? = some (.cells #[.string ⟨kSid.toArray⟩, .string ⟨s.toArray⟩] 30 (0, 0))
theorem RqAt.kt {w w' : World} {N rb fb : Nat} {s : Gs} (h : RqAt w rb fb s) (k : KT TP N w w') : RqAt w' rb fb s := ⟨k.of_type h.1 (by decide), k.of_type h.2 (by decide)⟩
theorem RqAt.fs {w : World} {rb fb : Nat} {s : Gs} (h : RqAt w rb fb s) : FsAt w (.slice (some ⟨fb, 0, none⟩) 1 1) [(kSid, s)] :=
  .inr ⟨fb, 1, _, rfl, h.2, Nat.le_refl _, by simp [maxLen], rfl, by simp⟩
theorem RqAt.cells {w : World} {rb fb : Nat} {s : Gs} (h : RqAt w rb fb s) : w.cell? ⟨rb, 0, none⟩ = some (Value.string ⟨#[]⟩) ∧ w.cell? ⟨rb, 1, none⟩ = some (Value.string ⟨#[]⟩) ∧ w.cell? ⟨rb, 2, none⟩ = some (Value.int .i64 0) ∧ w.cell? ⟨rb, 3, none⟩ = some (Value.slice (some ⟨fb, 0, none⟩) 1 1) ∧ w.cell? ⟨rb, 4, none⟩ = some (Value.slice none 0 0) ∧ w.cell? ⟨rb, 5, none⟩ = some (Value.bool false) :=
  ⟨(cell_of_block h.1 0).trans rfl, (cell_of_block h.1 1).trans rfl, (cell_of_block h.1 2).trans rfl, (cell_of_block h.1 3).trans rfl, (cell_of_block h.1 4).trans rfl, (cell_of_block h.1 5).trans rfl⟩
theorem sub_at {N B n : Nat} {L : List Sb} {s : Gs} {rb fb : Nat} {mc : Int} {w : World} (who : Nat) (h : PAll w N (fun _ => False) B L n) (hL : L.length ≤ 100) (hr : RqAt w rb fb s) (hs : s.length ≤ 2000) (hN : N ≤ w.heap.size) (htb : Tabs N mc w) :
    Calls Tryd.prog 7 #[.pointer (some ⟨B, 0, none⟩), .agg #[.string ⟨#[]⟩, .string ⟨#[]⟩, .int .i64 0, .slice (some ⟨fb, 0, none⟩) 1 1, .slice none 0 0, .bool false], .int .u32 (who : Int), .int .u64 2, .agg #[.int .u64 0, .int .u64 0]] w (FdPost w N (fun _ => False) B n (subsL n L [(kSid, s)] who 2 0 0)) := by
  obtain ⟨E, rfl, hP⟩ := h
  rw [List.length_map] at hL
  exact subscribe_x N (fun _ => False) B E n ⟨#[]⟩ ⟨#[]⟩ 0 _ (.slice none 0 0) false _ who 2 0 0 mc w hP hr.fs (by simp) (fun f hf => by
    obtain rfl : f = (kSid, s) := (by simpa using hf)
    exact hs) ⟨_, _, _, rfl⟩ (by omega) hN (by omega) (by omega) (by omega) htb
theorem unsub_at {N B n : Nat} {L : List Sb} {s : Gs} {rb fb : Nat} {w : World} (who : Nat) (h : PAll w N (fun _ => False) B L n) (hL : L.length ≤ 100) (hr : RqAt w rb fb s) :
    Calls Tryd.prog 9 #[.pointer (some ⟨B, 0, none⟩), .agg #[.string ⟨#[]⟩, .string ⟨#[]⟩, .int .i64 0, .slice (some ⟨fb, 0, none⟩) 1 1, .slice none 0 0, .bool false], .int .u32 (who : Int)] w (StPost w N (fun _ => False) B n (unsubL L [(kSid, s)] who)) := by
  obtain ⟨E, rfl, hP⟩ := h
  rw [List.length_map] at hL
  exact unsub_x N (fun _ => False) B E n ⟨#[]⟩ ⟨#[]⟩ 0 _ (.slice none 0 0) false _ who w hP hr.fs (by simp) ⟨_, _, _, rfl⟩ (by omega)
theorem KT.gr' {T : TypeId → Bool} {N : Nat} {a b : World} (h : KT T N a b) (hN : a.heap.size ≤ N) : a.grownBy b none := h.gr hN
/-- The first loop. -/
structure FuR (N B n : Nat) (w wr : World) (i : Nat) (ws : List Nat) (v7 : Value) : Prop where
  kt : KT TF N w wr
  all : PAll wr N (fun _ => False) B (fullL ws 0) n
  own : OwnU wr N v7 ws
  len : ws.length = min i n
  who : ∀ x ∈ ws, x < 16909312
/-- The second loop. -/
structure FvR (N B n : Nat) (w wr : World) (i : Nat) (ws : List Nat) (v7 : Value) : Prop where
  kt : KT TF N w wr
  all : PAll wr N (fun _ => False) B (fullL (ws.drop i) i) n
  own : OwnU wr N v7 ws
set_option maxRecDepth 20000 in
set_option maxHeartbeats 4000000 in
theorem gena_full_walk (m0 : Int) (ha : Option Addr) (hl hc : Nat) (zs : List Int) (m : Int) (w : World) (hT : Tabs w.heap.size m w) (hg : IsRow .u8 w ha hl hc zs) :
    Calls Tryd.prog 3 #[.int .i64 m0, .slice ha hl hc] w fun e w' => e = .returned (.bool true) ∧ w.grownBy w' none := by
  obtain ⟨N, hN⟩ : ∃ N, N = w.heap.size := ⟨_, rfl⟩
  rw [← hN] at hT
  have HN := hid hN
  have HT := hid hT
  have HG := hid hg
  have HSP := hid (gspeaks_true m w (hid hT.max) (hid hT.p10))
  clear hT hg hN
  go_enter Tryd.func3, Tryd.ntmps3
  go_wp2_with fail
  refine HSP.out.mono ?_
  rintro e w1 ⟨rfl, g1⟩
  have G1 := hid g1
  clear g1 HSP
  by_cases h60 : (60 : Int) < (hl : Int)
  · have hd := decide_eq_true h60
    go_wp2
    go_ret
    exact ⟨rfl, G1.out⟩
  have hd := decide_eq_false h60
  have hhl : hl ≤ 60 := by omega
  obtain ⟨n, hE, hn⟩ := i64_and15' m0
  have NEW := hid (new_x N (fun _ => False) (n : Int) (by omega) (by omega) w1 (by rw [HN.out]; exact G1.out.size))
  rw [show ((n : Int)).toNat = n by omega] at NEW
  go_wp2_with fail
  refine NEW.out.mono ?_
  rintro e w2 ⟨rfl, hP2, g2⟩
  have G2 := hid (gr_trans G1.out g2)
  have P2 := hid hP2
  obtain ⟨B, hB⟩ : ∃ B, B = w1.heap.size := ⟨_, rfl⟩
  rw [← hB] at P2 ⊢
  have HN15 := hid hn
  clear NEW hP2 g2 hB G1 hE
  have gO := World.grownBy_alloc w2 (.cells #[] 28) none
  have OWN := hid (show OwnU (w2.alloc (.cells #[] 28)) N (.slice (some ⟨w2.heap.size, 0, none⟩) 0 0) [] from World.ownsRow_made w2 #[] 0 (by rw [HN.out]; exact G2.out.size) (by simp [maxLen]) rfl)
  have START := hid (show FuR N B n w (w2.alloc (.cells #[] 28)) 0 [] (.slice (some ⟨w2.heap.size, 0, none⟩) 0 0) from ⟨KT.of_none (gr_trans G2.out gO), (P2.out.grow gO).all, OWN.out, by simp, fun x hx => by cases hx⟩)
  clear gO OWN G2 P2 hn
  go_wp2_with fail
  go_loopw [7, 8, 9, 10, 11, 12, 13, 35] (fun v7 _ _ _ _ _ _ v35 wr => ∃ (i : Nat) (ws : List Nat), v35 = .int .i64 (i : Int) ∧ i ≤ hl ∧ Hid (FuR N B n w wr i ws v7)) (fun _ _ _ _ _ _ _ v35 _ => hl - (intOf v35).toNat)
  case atStart => exact ⟨0, [], rfl, Nat.zero_le _, START.out⟩
  case round =>
    obtain ⟨i, ws, rfl, hi, hR⟩ := hrel
    by_cases hil : i < hl
    rotate_left
    · obtain rfl : i = hl := by omega
      obtain ⟨oa, oc, rfl⟩ := own_shapeG hR.out.own
      have HLW := hid (And.intro hR.out.len hR.out.who)
      have START2 := hid (show FvR N B n w wr 0 ws _ from ⟨hR.out.kt, hR.out.all, hR.out.own⟩)
      clear hR
      have hwl : ws.length ≤ 15 := by have := HLW.out.1; have := HN15.out; omega
      go_wp2_with fail
      go_loopw [14, 15, 16, 17, 18, 19, 20, 75] (fun _ _ _ _ _ _ _ v75 wx => ∃ j : Nat, v75 = .int .i64 (j : Int) ∧ j ≤ ws.length ∧ Hid (FvR N B n w wx j ws (.slice oa ws.length oc))) (fun _ _ _ _ _ _ _ v75 _ => ws.length - (intOf v75).toNat)
      case atStart => exact ⟨0, rfl, Nat.zero_le _, START2⟩
      case round =>
        obtain ⟨j, rfl, hj, hV⟩ := hrel
        by_cases hjl : j < ws.length
        rotate_left
        · obtain rfl : j = ws.length := by omega
          have hall := hV.out.all
          rw [List.drop_length] at hall
          obtain ⟨E, hE, hP⟩ := hall
          obtain rfl : E = [] := by
            have := congrArg List.length hE
            rw [List.length_map] at this
            exact List.eq_nil_of_length_eq_zero this
          have LEN := hid (len_x N (fun _ => False) B [] n wr hP)
          have GF := hid (hV.out.kt.gr (show w.heap.size ≤ N by rw [HN.out]; exact Nat.le_refl _))
          clear hV hP hE
          go_wp2_with fail
          refine LEN.out.mono ?_
          rintro e w' ⟨rfl, rfl⟩
          go_wp2_with fail
          go_ret
          exact ⟨rfl, GF.out⟩
        obtain ⟨wn, hwn⟩ : ∃ x, ws[j]? = some x := ⟨_, List.getElem?_eq_getElem hjl⟩
        have hwb : wn < 16909312 := HLW.out.2 wn (List.mem_of_getElem? hwn)
        obtain ⟨og, ocap, he, -, -, hcell⟩ := own_cell hV.out.own (by omega)
        obtain ⟨rfl, -⟩ : oa = some ⟨og, 0, none⟩ ∧ oc = ocap := by simpa using he
        have cw := hcell j (u32V wn) (by rw [List.getElem?_map, hwn]; rfl)
        unfold u32V at cw
        have hLs : fullL (ws.drop j) j = fsb j wn :: fullL (ws.drop (j + 1)) (j + 1) := by
          rw [List.drop_eq_getElem_cons hjl, show ws[j] = wn from (List.getElem?_eq_some_iff.1 hwn).2]; rfl
        have HLS := hid hLs
        have hrl : (fullL (ws.drop (j + 1)) (j + 1)).length ≤ 15 := by rw [fullL_len, List.length_drop]; omega
        have HNO := hid (show findL (fullL (ws.drop (j + 1)) (j + 1)) (sidL 7 j) = (fullL (ws.drop (j + 1)) (j + 1)).length from fullL_no _ _ _ (by rw [List.length_drop]; omega) (by omega) (.inl (by omega)))
        obtain ⟨rest, hrest⟩ : ∃ r, r = fullL (ws.drop (j + 1)) (j + 1) := ⟨_, rfl⟩
        rw [← hrest] at HLS HNO hrl
        have HREST := hid hrest
        have hjz0 : (0 : Int) ≤ (j : Int) := by omega
        have hjz : (j : Int) < (ws.length : Int) := by omega
        have hwbi : (wn : Int) ≤ 16909312 := by omega
        have RSI := hid (fun W => rsid_x 7 j (by omega) (by omega) W)
        clear hcell he hLs hrest hwn
        go_wp2_with fail
        refine (RSI.out wr).mono ?_
        rintro e w3 ⟨rfl, g3⟩
        have K3 := hid (hV.out.kt.trans (KT.of_none g3))
        have A3 := hid (hV.out.all.grow g3)
        have O3 := hid (show OwnU w3 N _ ws from hV.out.own.kt (KT.of_none (T := TP) (N := N) g3))
        rw [HLS.out] at A3
        clear g3 cw RSI hV
        have nF := heap_alloc_new w3 (.cells #[.string ⟨#[115, 105, 100]⟩, .string ⟨(sidL 7 j).toArray⟩] 30)
        have gF := World.grownBy_alloc w3 (.cells #[.string ⟨#[115, 105, 100]⟩, .string ⟨(sidL 7 j).toArray⟩] 30) none
        obtain ⟨w4, hw4⟩ : ∃ w4, w4 = w3.alloc (.cells #[.string ⟨#[115, 105, 100]⟩, .string ⟨(sidL 7 j).toArray⟩] 30) := ⟨_, rfl⟩
        obtain ⟨fb, hfb⟩ : ∃ fb, fb = w3.heap.size := ⟨_, rfl⟩
        rw [← hw4] at nF gF
        rw [← hfb] at nF
        have nR := heap_alloc_new w4 (.cells #[.string ⟨#[]⟩, .string ⟨#[]⟩, .int .i64 0, .slice (some ⟨fb, 0, none⟩) 1 1, .slice none 0 0, .bool false] 34)
        have gR := World.grownBy_alloc w4 (.cells #[.string ⟨#[]⟩, .string ⟨#[]⟩, .int .i64 0, .slice (some ⟨fb, 0, none⟩) 1 1, .slice none 0 0, .bool false] 34) none
        obtain ⟨w5, hw5⟩ : ∃ w5, w5 = w4.alloc (.cells #[.string ⟨#[]⟩, .string ⟨#[]⟩, .int .i64 0, .slice (some ⟨fb, 0, none⟩) 1 1, .slice none 0 0, .bool false] 34) := ⟨_, rfl⟩
        rw [← hw5] at nR gR
        have hsz4 : w4.heap.size = fb + 1 := by rw [hw4, hfb]; simp
        rw [hsz4] at nR
        obtain ⟨rb, hrb⟩ : ∃ rb, rb = fb + 1 := ⟨_, rfl⟩
        rw [← hrb] at nR
        have RQ5 := hid (show RqAt w5 rb fb (sidL 7 j) from ⟨nR, gr_keep gR nF (by simp)⟩)
        have gFR := gr_trans gF gR
        have K5 := hid (K3.out.trans (KT.of_none (T := TF) (N := N) gFR))
        have A5 := hid (A3.out.grow gFR)
        have O5 := hid (show OwnU w5 N _ ws from O3.out.kt (KT.of_none (T := TP) (N := N) gFR))
        have HW4 := hid hw4
        have HW5 := hid hw5
        have HFB := hid hfb
        have HRB := hid hrb
        have HSZ := hid (fun (W : World) (k : KT TF N w W) => (show N ≤ W.heap.size from Nat.le_trans (by rw [HN.out]; exact Nat.le_refl _) k.size))
        clear hw4 hw5 hfb hsz4 hrb nF gF nR gR gFR K3 A3 O3
        go_upto_region 27 with fail
        rw [← HFB.out, ← HW4.out, ← HRB.out, ← HW5.out]
        -- the other host
        have hlen1 : (fsb j wn :: rest).length ≤ 100 := by simp only [List.length_cons]; omega
        have S1 := hid (sub_at (wn + 1) A5.out hlen1 RQ5.out (by rw [sidL_len]; omega) (HSZ.out w5 K5.out) (HT.out.kt K5.out))
        rw [show sidL 7 j = (fsb j wn).sid from rfl, full_renew, if_neg (by show ¬ wn = wn + 1; omega), show ((wn + 1 : Nat) : Int) = (wn : Int) + 1 from rfl] at S1
        obtain ⟨r0, r1, r2, r3, r4, r5⟩ := RQ5.out.cells
        go_wp2_with fail
        refine S1.out.mono ?_
        rintro e w6 ⟨v6, rfl, hf6, hp6, hk6⟩
        obtain rfl := hf6.empty
        have RQ6 := hid (RQ5.out.kt hk6)
        have K6 := hid (K5.out.trans (hk6.mono tp_tf))
        have O6 := hid (O5.out.kt hk6)
        have S2 := hid (sub_at wn hp6 hlen1 RQ6.out (by rw [sidL_len]; omega) (HSZ.out w6 K6.out) (HT.out.kt K6.out))
        rw [show sidL 7 j = (fsb j wn).sid from rfl, full_renew, if_pos (show (fsb j wn).host = wn from rfl)] at S2
        clear S1 hf6 hp6 hk6 r0 r1 r2 r3 r4 r5 K5 O5 A5 RQ5 HW4 HW5 HFB HRB
        obtain ⟨r0, r1, r2, r3, r4, r5⟩ := RQ6.out.cells
        go_wp2_with fail
        refine S2.out.mono ?_
        rintro e w7 ⟨v7', rfl, hf7, hp7, hk7⟩
        obtain ⟨f7, c7, rfl⟩ := hf7.shape
        have RQ7 := hid (RQ6.out.kt hk7)
        have K7 := hid (K6.out.trans (hk7.mono tp_tf))
        have O7 := hid (O6.out.kt hk7)
        obtain ⟨x7, hx7⟩ : ∃ x, x = ({ fsb j wn with ends := laterL 2 1800 } : Sb) := ⟨_, rfl⟩
        rw [← hx7] at hp7
        have hsid : sidL 7 j = x7.sid := by rw [hx7]; rfl
        have hhost : x7.host = wn := by rw [hx7]; rfl
        have hlen2 : (x7 :: rest).length ≤ 100 := by simp only [List.length_cons]; omega
        have U1 := hid (unsub_at (wn + 1) hp7 hlen2 RQ7.out)
        rw [hsid, full_unsub, if_neg (by rw [hhost]; omega), show ((wn + 1 : Nat) : Int) = (wn : Int) + 1 from rfl] at U1
        have HSD := hid (And.intro hsid hhost)
        clear S2 hf7 hp7 hk7 r0 r1 r2 r3 r4 r5 K6 O6 RQ6 hx7 hsid hhost
        obtain ⟨r0, r1, r2, r3, r4, r5⟩ := RQ7.out.cells
        go_wp2_with fail
        refine U1.out.mono ?_
        rintro e w8 ⟨rfl, hp8, hk8⟩
        have RQ8 := hid (RQ7.out.kt hk8)
        have K8 := hid (K7.out.trans (hk8.mono tp_tf))
        have O8 := hid (O7.out.kt hk8)
        have U2 := hid (unsub_at wn hp8 hlen2 RQ8.out)
        rw [HSD.out.1, full_unsub, if_pos HSD.out.2] at U2
        clear U1 hp8 hk8 r0 r1 r2 r3 r4 r5 K7 O7 RQ7
        obtain ⟨r0, r1, r2, r3, r4, r5⟩ := RQ8.out.cells
        go_wp2_with fail
        refine U2.out.mono ?_
        rintro e w9 ⟨rfl, hp9, hk9⟩
        have RQ9 := hid (RQ8.out.kt hk9)
        have K9 := hid (K8.out.trans (hk9.mono tp_tf))
        have O9 := hid (O8.out.kt hk9)
        have U3 := hid (unsub_at wn hp9 (show rest.length ≤ 100 by omega) RQ9.out)
        rw [full_none rest _ wn HNO.out] at U3
        clear U2 hp9 hk9 r0 r1 r2 r3 r4 r5 K8 O8 RQ8
        obtain ⟨r0, r1, r2, r3, r4, r5⟩ := RQ9.out.cells
        go_wp2_with fail
        refine U3.out.mono ?_
        rintro e w10 ⟨rfl, hp10, hk10⟩
        have NXT := hid (show FvR N B n w w10 (j + 1) ws (.slice (some ⟨og, 0, none⟩) ws.length oc) from ⟨K9.out.trans (hk10.mono tp_tf), by rw [← HREST.out]; exact hp10, O9.out.kt hk10⟩)
        clear U3 hp10 hk10 r0 r1 r2 r3 r4 r5 K9 O9 RQ9
        go_wp2_with fail
        go_roundw
        case rel => exact ⟨j + 1, by go_num, by omega, NXT⟩
        case measure => simp [intOf]; omega
    have hNw : w.heap.size ≤ N := by rw [HN.out]; exact Nat.le_refl _
    rcases HG.out.grown (hR.out.kt.gr hNw) with ⟨-, h0, -⟩ | ⟨x, rfl, h1, h2, h3, h4, h5⟩
    · omega
    have cg := h4 i (by omega)
    have hwf := h5 (zs.getD i 0) (by rw [List.getD_eq_getElem?_getD, List.getElem?_eq_getElem (by omega)]; exact List.getElem_mem _)
    have hbd := bounds_u8 hwf
    obtain ⟨hh, hhe⟩ : ∃ hh : Nat, zs.getD i 0 = (hh : Int) := ⟨(zs.getD i 0).toNat, by omega⟩
    have hh255 : hh ≤ 255 := by omega
    rw [hhe] at cg
    obtain ⟨xb, xo, xs⟩ := x
    obtain rfl : xs = none := by simpa [Addr.add] using World.cell?_spot (h4 0 (by omega))
    rw [Go.WideShapes.add_plain] at cg
    have hiz0 : (0 : Int) ≤ (i : Int) := by omega
    have hiz : (i : Int) < (hl : Int) := by omega
    have hhi : (hh : Int) ≤ 255 := by omega
    obtain ⟨wn, hwn⟩ : ∃ wn, wn = 16909056 + hh := ⟨_, rfl⟩
    have hwni : (16909056 : Int) + (hh : Int) = (wn : Int) := by omega
    have hwb : wn < 16909312 := by omega
    have HWB := hid hwb
    have HTX := hid (fun W => rtext_in wn (by omega) W)
    obtain ⟨T, hT⟩ : ∃ T : ByteArray, T = ⟨(textL wn).toArray⟩ := ⟨_, rfl⟩
    obtain ⟨CB, hCB⟩ : ∃ CB : ByteArray, CB = ((⟨#[60, 104, 116, 116, 112, 58, 47, 47]⟩ : ByteArray) ++ T) ++ ⟨#[47, 101, 62]⟩ := ⟨_, rfl⟩
    have HCB := hid (show CB = ⟨(cbF wn).toArray⟩ by rw [hCB, hT]; apply ByteArray.ext; simp [cbF, hdH])
    have HCB0 := hid hCB
    have hTs : T.size ≤ 100 := by
      have h1 := cbF_len wn (by omega)
      have h2 : (textL wn).length ≤ (cbF wn).length := by unfold cbF; rw [List.length_append, List.length_append]; omega
      rw [hT, Lib.size_eq]
      show (textL wn).length ≤ 100
      omega
    have HTT := hid hT
    clear h1 h2 h3 h4 h5 hwf hbd hhe hwb hT hCB hNw hwn
    go_wp2_with fail
    refine (HTX.out wr).mono ?_
    rintro e w3 ⟨rfl, g3⟩
    unfold str
    rw [← HTT.out]
    have K3 := hid (hR.out.kt.trans (KT.of_none g3))
    have A3 := hid (hR.out.all.grow g3)
    have O3 := hid (show OwnU w3 N u7 ws from hR.out.own.kt (KT.of_none (T := TP) (N := N) g3))
    have HLW := hid (And.intro hR.out.len hR.out.who)
    clear g3 cg HTX HTT hR
    have nF := heap_alloc_new w3 (.cells #[.string ⟨#[110, 116]⟩, .string ⟨#[117, 112, 110, 112, 58, 101, 118, 101, 110, 116]⟩, .string ⟨#[99, 97, 108, 108, 98, 97, 99, 107]⟩, .string CB] 30)
    have gF := World.grownBy_alloc w3 (.cells #[.string ⟨#[110, 116]⟩, .string ⟨#[117, 112, 110, 112, 58, 101, 118, 101, 110, 116]⟩, .string ⟨#[99, 97, 108, 108, 98, 97, 99, 107]⟩, .string CB] 30) none
    obtain ⟨w4, hw4⟩ : ∃ w4, w4 = w3.alloc (.cells #[.string ⟨#[110, 116]⟩, .string ⟨#[117, 112, 110, 112, 58, 101, 118, 101, 110, 116]⟩, .string ⟨#[99, 97, 108, 108, 98, 97, 99, 107]⟩, .string CB] 30) := ⟨_, rfl⟩
    obtain ⟨fb, hfb⟩ : ∃ fb, fb = w3.heap.size := ⟨_, rfl⟩
    rw [← hw4] at nF gF
    rw [← hfb, HCB.out] at nF
    have nR := heap_alloc_new w4 (.cells #[.string ⟨#[]⟩, .string ⟨#[]⟩, .int .i64 0, .slice (some ⟨fb, 0, none⟩) 2 2, .slice none 0 0, .bool false] 34)
    have gR := World.grownBy_alloc w4 (.cells #[.string ⟨#[]⟩, .string ⟨#[]⟩, .int .i64 0, .slice (some ⟨fb, 0, none⟩) 2 2, .slice none 0 0, .bool false] 34) none
    obtain ⟨w5, hw5⟩ : ∃ w5, w5 = w4.alloc (.cells #[.string ⟨#[]⟩, .string ⟨#[]⟩, .int .i64 0, .slice (some ⟨fb, 0, none⟩) 2 2, .slice none 0 0, .bool false] 34) := ⟨_, rfl⟩
    rw [← hw5] at nR gR
    have hsz4 : w4.heap.size = fb + 1 := by rw [hw4, hfb]; simp
    rw [hsz4] at nR
    have FS := hid (show FsAt w5 (.slice (some ⟨fb, 0, none⟩) 2 2) [(kNt, kEvent), (kCall, cbF wn)] from fs_two (gr_keep gR nF (by simp)))
    have gFR := gr_trans gF gR
    have K5 := hid (K3.out.trans (KT.of_none (T := TF) (N := N) gFR))
    have A5 := hid (A3.out.grow gFR)
    have O5 := hid (show OwnU w5 N u7 ws from O3.out.kt (KT.of_none (T := TP) (N := N) gFR))
    have r0 := (cell_of_block nR 0).trans (show _ = some (Value.string ⟨#[]⟩) from rfl)
    have r1 := (cell_of_block nR 1).trans (show _ = some (Value.string ⟨#[]⟩) from rfl)
    have r2 := (cell_of_block nR 2).trans (show _ = some (Value.int .i64 0) from rfl)
    have r3 := (cell_of_block nR 3).trans (show _ = some (Value.slice (some ⟨fb, 0, none⟩) 2 2) from rfl)
    have r4 := (cell_of_block nR 4).trans (show _ = some (Value.slice none 0 0) from rfl)
    have r5 := (cell_of_block nR 5).trans (show _ = some (Value.bool false) from rfl)
    obtain ⟨E5, hE5, P5⟩ := A5.out
    have hEl : E5.length = ws.length := by have := congrArg List.length hE5; rw [List.length_map, fullL_len] at this; exact this
    have hwl : ws.length ≤ 15 := by have := HLW.out.1; have := HN15.out; omega
    have SUB := hid (subscribe_x N (fun _ => False) B E5 n ⟨#[]⟩ ⟨#[]⟩ 0 _ (.slice none 0 0) false _ wn 1 7 i m w5 P5 FS.out (by simp) (fun f hf => by
      simp only [List.mem_cons, List.not_mem_nil, or_false] at hf
      rcases hf with rfl | rfl
      · simp [kEvent]
      · show (cbF wn).length ≤ 2000
        have := cbF_len wn (by have := HWB.out; omega)
        omega) ⟨_, _, _, rfl⟩ (by omega) (Nat.le_trans (by rw [HN.out]; exact Nat.le_refl _) K5.out.size) (by omega) (by omega) (by omega) (HT.out.kt K5.out))
    rw [hE5, full_new n (fullL ws 0) wn 7 i (by have := HWB.out; omega), fullL_len] at SUB
    have HW4 := hid hw4
    have HW5 := hid hw5
    have HFB := hid hfb
    clear hw4 hw5 hfb hsz4 nF gF nR gR gFR FS P5 hE5 hEl K3 A3 O3
    go_upto_region 15 with fail
    rw [← HCB0.out, ← HFB.out, ← HW4.out, ← HW5.out]
    by_cases hin : i < n
    · have hwi : ws.length = i := by have := HLW.out.1; omega
      rw [if_neg (by
        rintro (h1 | h1)
        · omega
        · rw [fullL_no ws 0 i (by omega) (by omega) (.inr (by omega)), fullL_len] at h1; omega)] at SUB
      have hfa := fullL_app wn ws 0
      rw [show 0 + ws.length = i by omega] at hfa
      have hd1 := decide_eq_false (show ¬ (n : Int) ≤ (i : Int) by omega)
      have hd2 := decide_eq_false (show ¬ n ≤ i by omega)
      have HFA := hid hfa
      have HWI := hid hwi
      clear hfa hwi
      go_wp2_with fail
      refine SUB.out.mono ?_
      rintro e w6 ⟨v6, rfl, hf6, hp6, hk6⟩
      obtain ⟨f6, c6, rfl⟩ := hf6.shape
      have hp6' : PAll w6 N (fun _ => False) B (fullL (ws ++ [wn]) 0) n := by rw [HFA.out]; exact hp6
      have A6 := hid hp6'
      have K6 := hid (K5.out.trans (hk6.mono tp_tf))
      have O6 := hid (O5.out.kt hk6)
      clear SUB hf6 hp6 hp6' hk6 r0 r1 r2 r3 r4 r5 A5 K5 O5 HW4 HW5 HFB
      obtain ⟨i0, hi0, hz0, hz1, hz2⟩ := info_parts infoAddr
      have nB := heap_alloc_new w6 (.cells #[.int .u32 (wn : Int)] 28)
      have gB := World.grownBy_alloc w6 (.cells #[.int .u32 (wn : Int)] 28) none
      have OB := hid (show OwnU (w6.alloc (.cells #[.int .u32 (wn : Int)] 28)) N u7 ws from O6.out.kt (KT.of_none (T := TP) (N := N) gB))
      have AB := hid (A6.out.grow gB)
      have KB := hid (K6.out.trans (KT.of_none (T := TF) (N := N) gB))
      have HSRC := hid (show SrcAt (w6.alloc (.cells #[.int .u32 (wn : Int)] 28)) (some ⟨w6.heap.size, 0, none⟩) [.int .u32 (wn : Int)] from .inr ⟨_, rfl, fun j u hu => by
        match j, hu with
        | 0, hu => obtain rfl := Option.some.inj hu; exact (cell_of_block nB 0).trans rfl⟩)
      have HBS := hid (Nat.le_trans (show N ≤ w6.heap.size by exact Nat.le_trans (by rw [HN.out]; exact Nat.le_refl _) K6.out.size) gB.size)
      clear nB gB
      go_wp2_with (refine wpl_appG rfl (.tmp 68) (.tmp 70) 26 rfl (base := N) (e := 28) (size := 1) (bytes := 4) Tryd.underlying26 hi0 hz0 hz1 hz2 rfl (by decide) (v := u7) (by rfl) OB.out (ad := some ⟨w6.heap.size, 0, none⟩) (m := 1) (c := 1) (news := [.int .u32 (wn : Int)]) (by rfl) rfl HSRC.out (by simp [Value.oneCell']) (by unfold maxLen; omega) (by omega) HBS.out ?_; intro v8 w8 q2 q3 q4; have NXT := hid (show FuR N B n w w8 (i + 1) (ws ++ [wn]) v8 from ⟨KB.out.trans (own_tf OB.out q3), AB.out.own OB.out q3, by unfold OwnU; rw [List.length_append, List.map_append]; exact q2, by rw [List.length_append]; have := HWI.out; have := HLW.out.1; simp only [List.length_cons, List.length_nil]; omega, fun x hx => by
        rcases List.mem_append.1 hx with h | h
        · exact HLW.out.2 x h
        · obtain rfl : x = wn := by simpa using h
          exact HWB.out⟩); clear q2 q3 q4)
      go_roundw
      case rel => exact ⟨i + 1, ws ++ [wn], by go_num, by omega, NXT⟩
      case measure => simp [intOf]; omega
    · have hwi : ws.length = n := by have := HLW.out.1; omega
      rw [if_pos (.inl (by omega))] at SUB
      have hd1 := decide_eq_true (show (n : Int) ≤ (i : Int) by omega)
      have hd2 := decide_eq_true (show n ≤ i by omega)
      have HWI := hid hwi
      clear hwi
      go_wp2_with fail
      refine SUB.out.mono ?_
      rintro e w6 ⟨v6, rfl, hf6, hp6, hk6⟩
      obtain rfl := hf6.empty
      have NXT := hid (show FuR N B n w w6 (i + 1) ws u7 from ⟨K5.out.trans (hk6.mono tp_tf), hp6, O5.out.kt hk6, by have := HWI.out; omega, HLW.out.2⟩)
      clear SUB hf6 hp6 hk6 r0 r1 r2 r3 r4 r5 A5 K5 O5 HW4 HW5 HFB
      go_wp2_with fail
      go_roundw
      case rel => exact ⟨i + 1, ws, by go_num, by omega, NXT⟩
      case measure => simp [intOf]; omega
end Go.Proofs.YtfceodbpkghkaaaDoor
