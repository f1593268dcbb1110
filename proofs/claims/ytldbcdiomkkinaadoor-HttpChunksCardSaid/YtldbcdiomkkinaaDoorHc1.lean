/- HttpChunks: the walk. -/
import Derived.Test.YtldbcdiomkkinaaDoorHb3
import Derived.Test.YtldbcdiomkkinaaDoorHtz
import Derived.Deep.QuietTactic
import Derived.BigQuiet
namespace Go.Proofs.YtldbcdiomkkinaaDoor
open Go.RowKit

theorem i64_andm (n : Int) (j m : Nat) (hm : (BitVec.ofInt 64 (m : Int)).toNat = 2 ^ j - 1) (hj : 2 ^ j ≤ 4294967296) : bits .and .i64 n (m : Int) = n % ((2 ^ j : Nat) : Int) := by
  have key : (BitVec.ofInt 64 n &&& BitVec.ofInt 64 (m : Int)).toNat = (n % ((2 ^ 64 : Nat) : Int)).toNat % 2 ^ j := by
    rw [BitVec.toNat_and, BitVec.toNat_ofInt, hm, Nat.and_two_pow_sub_one_eq_mod]
  have hp : 0 < 2 ^ j := Nat.pow_pos (by decide)
  show IntKind.i64.wrap ((BitVec.ofInt 64 n &&& BitVec.ofInt 64 (m : Int)).toNat : Nat) = _
  rw [key, IntKind.wrap_i64]
  have hlt := Nat.mod_lt (n % ((2 ^ 64 : Nat) : Int)).toNat hp
  have hjle : j ≤ 64 := by
    rcases Nat.lt_or_ge 64 j with h | h
    · have := Nat.pow_le_pow_right (show 0 < 2 by decide) (Nat.le_of_lt h)
      omega
    · exact h
  have hdvd : (2 ^ j) ∣ 2 ^ 64 := Nat.pow_dvd_pow 2 hjle
  have e1 : (((n % ((2 ^ 64 : Nat) : Int)).toNat % 2 ^ j : Nat) : Int) = n % ((2 ^ j : Nat) : Int) := by
    rw [Int.natCast_emod, Int.toNat_of_nonneg (Int.emod_nonneg _ (by decide))]
    exact Int.emod_emod_of_dvd n (Int.natCast_dvd_natCast.2 hdvd)
  rw [e1]
  have := Int.emod_nonneg n (show ((2 ^ j : Nat) : Int) ≠ 0 by omega)
  have := Int.emod_lt_of_pos n (show 0 < ((2 ^ j : Nat) : Int) by omega)
  generalize ((2 ^ j : Nat) : Int) = P at *
  omega
theorem i64_and15 (n : Nat) : bits .and .i64 (n : Int) 15 = ((n % 16 : Nat) : Int) := by
  have := i64_andm (n : Int) 4 15 (by decide) (by decide)
  simpa using this
theorem i64_and12 (n : Int) : bits .and .i64 n 4095 = n % 4096 := i64_andm n 12 4095 (by decide) (by decide)
theorem fdiv_nat (n m : Nat) : (n : Int).fdiv (m : Int) = ((n / m : Nat) : Int) := by
  rw [Int.fdiv_eq_ediv_of_nonneg _ (by omega)]
  simp
theorem enc_hex (k : Nat) : Utf8.encode ((hexC k).toNat : Int) = ⟨#[hexC k]⟩ :=
  (by decide +kernel : ∀ a : Fin 16, Utf8.encode ((hexB.getD a.val 0).toNat : Int) = ⟨#[hexB.getD a.val 0]⟩) ⟨k % 16, Nat.mod_lt _ (by decide)⟩
/-- Whole numbers that came in. -/
def IntsAt (w : World) (a : Option Addr) (n : Nat) : Prop := n = 0 ∨ ∃ b o, a = some ⟨b, o, none⟩ ∧ ∀ i, i < n → ∃ z, w.cell? ⟨b, o + i, none⟩ = some (.int .i64 z)
/-- The loop's relation. -/
def ChkR (w : World) (body : List UInt8) (m : Nat) (v6 v7 v8 : Value) (wr : World) : Prop :=
  ∃ (i at_ : Nat) (ds : List (List UInt8)), i ≤ m + 1 ∧ at_ ≤ body.length ∧ v8 = .int .i64 (i : Int) ∧ v7 = .int .i64 (at_ : Int) ∧ v6 = .string ⟨(headT ++ piecesT ds).toArray⟩ ∧
    ds.flatten = body.take at_ ∧ (∀ d ∈ ds, 0 < d.length) ∧ ds.length ≤ i ∧ (i = m + 1 → at_ = body.length) ∧ w.grownBy wr none
theorem chk_next {body : List UInt8} {at_ k : Nat} {ds : List (List UInt8)} (h1 : ds.flatten = body.take at_) (h2 : ∀ d ∈ ds, 0 < d.length) (hk : 0 < k) (hl : at_ + k ≤ body.length) :
    (ds ++ [(body.drop at_).take k]).flatten = body.take (at_ + k) ∧ (∀ d ∈ ds ++ [(body.drop at_).take k], 0 < d.length) ∧ headT ++ piecesT (ds ++ [(body.drop at_).take k]) = headT ++ piecesT ds ++ (hex4 k ++ [13, 10] ++ (body.drop at_).take k ++ [13, 10]) := by
  have hlen : ((body.drop at_).take k).length = k := by rw [List.length_take, List.length_drop]; omega
  refine ⟨?_, fun d hd => ?_, ?_⟩
  · rw [List.flatten_append, h1, List.take_add]
    simp
  · rcases List.mem_append.1 hd with h | h
    · exact h2 d h
    · rw [List.mem_singleton.1 h, hlen]; exact hk
  · unfold piecesT chunkT
    rw [List.flatMap_append]
    simp [hlen]
theorem hexC_mod (k : Nat) : hexC (k % 16) = hexC k := by unfold hexC; rw [Nat.mod_mod]
theorem Bytes.sub2 {w : World} {b o n c : Nat} {l : List UInt8} (h : Bytes w (.slice (some ⟨b, o, none⟩) n c) l) (k m c' : Nat) (hk : k + m ≤ n) (hm : m ≤ c') (hc' : c' ≤ maxLen) : Bytes w (.slice (some ⟨b, o + k, none⟩) m c') ((l.drop k).take m) := by
  obtain ⟨a', c2, e, h1, h2, h3⟩ := h.sub k m hk
  simp only [Value.slice.injEq] at e
  obtain ⟨rfl, -, rfl⟩ := e
  have hl : ((l.drop k).take m).length = m := by
    obtain ⟨h0, -, -, -⟩ := h.at
    rw [List.length_take, List.length_drop]; omega
  exact ⟨_, c', by rw [hl], by rw [hl]; exact hm, hc', h3⟩
theorem host_pairs {w : World} {g : Nat} (h : w.heap[g]? = some (.cells #[.string ⟨#[72, 111, 115, 116]⟩, .string ⟨#[104]⟩] 40 (0, 0))) : PairsAt w (some ⟨g, 0, none⟩) [(([72, 111, 115, 116] : List UInt8), ([104] : List UInt8))].length (fsN [([72, 111, 115, 116], [104])]) (fsV [([72, 111, 115, 116], [104])]) := by
  refine .inr ⟨g, 0, rfl, fun i hi => ?_⟩
  obtain rfl : i = 0 := by simpa using hi
  exact ⟨(cell_of_block h 0).trans rfl, (cell_of_block h 1).trans rfl⟩
theorem ask_len (hn body : List UInt8) (hl : hn.length ≤ 20) (hb : body.length ≤ 8192) : (askL postL slxL [(hn, [104])] body).length ≤ body.length + 100 := by
  rw [ask_shape]
  have := Lib.itoa_length_le (body.length : Int) (by omega) (by omega)
  unfold hostT clenL
  simp [show firstA.length = 16 from rfl]
  omega
set_option maxRecDepth 20000 in
set_option maxHeartbeats 4000000 in
theorem chunks_walk (body : List UInt8) (v0 : Value) (ca : Option Addr) (m cc : Nat) (mx : Int) (w : World) (hv : Bytes w v0 body) (hc : IntsAt w ca m) (hcc : m ≤ cc) (hm : w.cell? ⟨0, 0, none⟩ = some (.int .i64 mx)) (h10 : P10 w) :
    Calls Tryd.prog 5 #[v0, .slice ca m cc] w fun e w' => e = .returned (.bool true) ∧ w.grownBy w' none := by
  obtain ⟨a1, c1, rfl, hc1, hm1, -⟩ := id hv
  have HV := hid hv
  have HC := hid hc
  have HM := hid hm
  have HT := hid h10
  clear hv hc hm h10
  by_cases hl1 : 8192 < body.length
  · have hb1 : decide ((8192 : Int) < (body.length : Int)) = true := by simp; omega
    go_enter Tryd.func5, Tryd.ntmps5
    go_wp2_with fail
    refine (speaks_http w mx HM.out).mono ?_
    rintro e w1 ⟨rfl, g1⟩
    go_wp2_with fail
    go_ret
    exact ⟨rfl, g1⟩
  · have hb1 : decide ((8192 : Int) < (body.length : Int)) = false := by simp; omega
    by_cases hm30 : 30 < m
    · have hb2 : decide ((30 : Int) < (m : Int)) = true := by simp; omega
      go_enter Tryd.func5, Tryd.ntmps5
      go_wp2_with fail
      refine (speaks_http w mx HM.out).mono ?_
      rintro e w1 ⟨rfl, g1⟩
      go_wp2_with fail
      go_ret
      exact ⟨rfl, g1⟩
    · have hb2 : decide ((30 : Int) < (m : Int)) = false := by simp; omega
      go_enter Tryd.func5, Tryd.ntmps5
      go_wp2_with fail
      refine (speaks_http w mx HM.out).mono ?_
      rintro e w1 ⟨rfl, g1⟩
      have G1 := hid g1
      clear g1
      go_wp2_with fail
      obtain ⟨hx, hhx⟩ : ∃ hx : ByteArray, hx = ⟨#[48, 49, 50, 51, 52, 53, 54, 55, 56, 57, 97, 98, 99, 100, 101, 102]⟩ := ⟨_, rfl⟩
      rw [← hhx]
      have hxs : hx.size = 16 := by rw [hhx]; rfl
      have HXG := hid (show ∀ (i : Nat) (h : i < hx.size), hx[i] = hexC i by
        intro i h
        have e : hx[i] = hx.data.toList.getD i 0 := by
          rw [List.getD_eq_getElem?_getD, List.getElem?_eq_getElem (by rw [← Lib.size_eq]; exact h)]
          rfl
        rw [e, hhx]
        exact (by decide : ∀ a : Fin 16, ([48, 49, 50, 51, 52, 53, 54, 55, 56, 57, 97, 98, 99, 100, 101, 102] : List UInt8).getD a.val 0 = hexC a.val) ⟨i, by rw [hxs] at h; exact h⟩)
      clear hhx
      go_loopw [6, 7, 8] (fun v6 v7 v8 wr => ChkR w1 body m v6 v7 v8 wr) (fun _ _ v8 _ => m + 1 - (intOf v8).toNat)
      case atStart => exact ⟨0, 0, [], by omega, Nat.zero_le _, rfl, rfl, rfl, rfl, by simp, by simp, by omega, gr_refl _ _⟩
      case round =>
        obtain ⟨i, at_, ds, hi, hat, rfl, rfl, rfl, hfl, hpos, hdl, hend, hg⟩ := hrel
        by_cases hi1 : i ≤ m
        · have hi1' : (i : Int) ≤ (m : Int) := by omega
          by_cases him : i < m
          · have him' : (i : Int) < (m : Int) := by omega
            obtain ⟨cb, co, rfl, hcell⟩ : ∃ b o, ca = some ⟨b, o, none⟩ ∧ ∀ i, i < m → ∃ z, w.cell? ⟨b, o + i, none⟩ = some (.int .i64 z) := by
              rcases HC.out with h | h
              · omega
              · exact h
            obtain ⟨z, hz⟩ := hcell i him
            have hzr := (gr_trans G1.out hg).cell hz (by simp)
            have ha12 := i64_and12 z
            obtain ⟨r, hr⟩ : ∃ r : Nat, (r : Int) = z % 4096 := ⟨(z % 4096).toNat, by omega⟩
            rw [← hr] at ha12
            have hr4 : r < 4096 := by omega
            clear hr hcell hz
            obtain ⟨k, hk⟩ : ∃ k, k = min (body.length - at_) r := ⟨_, rfl⟩
            have hmin : min ((body.length : Int) - (at_ : Int)) (r : Int) = (k : Int) := by omega
            have hka : at_ + k ≤ body.length := by omega
            have hkb : k < 65536 := by omega
            have HEND := hid (show i + 1 = m + 1 → at_ + k = body.length from fun h => by omega)
            have HFL := hid hfl
            have HPOS := hid hpos
            have HGR := hid hg
            clear hk hfl hpos hend hg
            by_cases hk0 : k = 0
            · have hkz : ((k : Int) == 0) = true := by simp [hk0]
              go_wp2_with fail
              go_roundw
              case rel => exact ⟨i + 1, at_, ds, by omega, hat, by simp, rfl, rfl, HFL.out, HPOS.out, by omega, fun h => by have := HEND.out (by first | exact h | trivial); omega, HGR.out⟩
              case measure => first | (simp [intOf]; done) | (simp [intOf]; omega)
            · have hkz : ((k : Int) == 0) = false := by simpa using hk0
              obtain ⟨nx1, nx2, nx3⟩ := chk_next HFL.out HPOS.out (show 0 < k by omega) hka
              obtain ⟨T, hT⟩ : ∃ T : ByteArray, T = ⟨(headT ++ piecesT ds).toArray⟩ := ⟨_, rfl⟩
              rw [← hT]
              have hTs : T.size ≤ 20000 := by
                rw [hT, Lib.size_eq]
                have h1 := piecesT_len ds
                have h2 : ds.flatten.length ≤ body.length := by rw [HFL.out, List.length_take]; omega
                show (headT ++ piecesT ds).length ≤ 20000
                rw [List.length_append, h1]
                show 57 + _ ≤ _
                omega
              obtain ⟨d, hd⟩ : ∃ d, d = (body.drop at_).take k := ⟨_, rfl⟩
              have hdl : d.length = k := by rw [hd, List.length_take, List.length_drop]; omega
              rw [← hd] at nx1 nx2 nx3
              obtain ⟨vb, vo, rfl⟩ : ∃ b o, a1 = some ⟨b, o, none⟩ := by
                obtain ⟨a', c', e, -, -, h3⟩ := HV.out
                cases e
                obtain ⟨b, o, e, -⟩ := h3 (by intro e; rw [e] at hka; first | (simp only [List.length_nil] at hka; omega) | (simp at hka; done) | (simp at hka; omega))
                exact ⟨b, o, e⟩
              have HBD := hid (fun W (g : w.grownBy W none) => hd ▸ Bytes.sub2 (HV.out.grown g) at_ k (c1 - at_) hka (by omega) (by omega))
              have HN1 := hid nx1
              have HN2 := hid nx2
              have HTT := hid hT
              have HDL := hid hdl
              have HN3 := hid (show headT ++ piecesT (ds ++ [d]) = headT ++ piecesT ds ++ (hex4 k ++ [13, 10] ++ d ++ [13, 10]) from nx3)
              obtain ⟨q1, hq1⟩ : ∃ q, q = k / 4096 := ⟨_, rfl⟩
              obtain ⟨q2, hq2⟩ : ∃ q, q = k / 256 := ⟨_, rfl⟩
              obtain ⟨q3, hq3⟩ : ∃ q, q = k / 16 := ⟨_, rfl⟩
              have f1 : (k : Int) / 4096 = (q1 : Int) := by rw [hq1]; omega
              have f2 : (k : Int) / 256 = (q2 : Int) := by rw [hq2]; omega
              have f3 : (k : Int) / 16 = (q3 : Int) := by rw [hq3]; omega
              have HHX := hid (show hex4 k = [hexC q1, hexC q2, hexC q3, hexC k] by rw [hq1, hq2, hq3]; rfl)
              have b1 := i64_and15 q1
              have b2 := i64_and15 q2
              have b3 := i64_and15 q3
              have b4 := i64_and15 k
              have l1 : q1 % 16 < hx.size := by rw [hxs]; omega
              have l2 : q2 % 16 < hx.size := by rw [hxs]; omega
              have l3 : q3 % 16 < hx.size := by rw [hxs]; omega
              have l4 : k % 16 < hx.size := by rw [hxs]; omega
              have x1 := HXG.out (q1 % 16) l1
              have x2 := HXG.out (q2 % 16) l2
              have x3 := HXG.out (q3 % 16) l3
              have x4 := HXG.out (k % 16) l4
              rw [hexC_mod] at x1 x2 x3 x4
              have n1 := enc_hex q1
              have n2 := enc_hex q2
              have n3 := enc_hex q3
              have n4 := enc_hex k
              generalize hexC q1 = z1 at *
              generalize hexC q2 = z2 at *
              generalize hexC q3 = z3 at *
              generalize hexC k = z4 at *
              generalize q1 % 16 = j1 at *
              generalize q2 % 16 = j2 at *
              generalize q3 % 16 = j3 at *
              generalize k % 16 = j4 at *
              clear hq1 hq2 hq3 hT hd nx1 nx2 nx3 hdl
              have m1 : (j1 : Int) < (hx.size : Int) := by omega
              have m2 : (j2 : Int) < (hx.size : Int) := by omega
              have m3 : (j3 : Int) < (hx.size : Int) := by omega
              have m4 : (j4 : Int) < (hx.size : Int) := by omega
              clear hxs
              go_wp2_with fail
              go_quiet (fail)
              obtain ⟨Hs, hHs⟩ : ∃ Hs : ByteArray, Hs = ⟨(hex4 k).toArray⟩ := ⟨_, rfl⟩
              have hH4 : Hs.size ≤ 4 := by rw [hHs, Lib.size_eq]; exact Nat.le_refl _
              have HH4 := hid (show ((⟨#[z1]⟩ : ByteArray) ++ (⟨#[z2]⟩ : ByteArray) ++ (⟨#[z3]⟩ : ByteArray) ++ (⟨#[z4]⟩ : ByteArray)) = Hs by
                rw [hHs, HHX.out]
                apply ByteArray.ext
                rw [ByteArray.data_append, ByteArray.data_append, ByteArray.data_append]
                rfl)
              rw [HH4.out]
              have g2 := gr_drewN nq (gr_refl wr none)
              revert g2
              generalize wr.drewN nq = w2
              intro g2
              have HG2 := hid (gr_trans HGR.out g2)
              have HBC := hid (run_b2s (w := w2) Tryd.underlying22 Tryd.underlying5 Tryd.underlying9 (HBD.out w2 (gr_trans G1.out HG2.out)))
              have HSF := hid (show T ++ (Hs ++ (⟨#[13, 10]⟩ : ByteArray) ++ (⟨d.toArray⟩ : ByteArray) ++ (⟨#[13, 10]⟩ : ByteArray)) = ⟨(headT ++ piecesT (ds ++ [d])).toArray⟩ by
                rw [HTT.out, hHs, HN3.out, app_arr, app_arr, app_arr, app_arr])
              have hdl := HDL.out
              have ng0 : ¬ 9223372036854775807 < Hs.size + 2 := by omega
              have ng1 : ¬ 9223372036854775807 < Hs.size + 2 + d.length := by omega
              have ng2 : ¬ 9223372036854775807 < Hs.size + 2 + d.length + 2 := by omega
              have ng3 : ¬ 9223372036854775807 < T.size + (Hs.size + 2 + d.length + 2) := by omega
              have hka' : (at_ : Int) + (k : Int) ≤ (body.length : Int) := by omega
              unfold str at HBC
              clear hHs HH4 g2 f1 f2 f3 b1 b2 b3 b4 l1 l2 l3 l4 x1 x2 x3 x4 n1 n2 n3 n4 m1 m2 m3 m4 hTs hH4 hdl
              go_wp2_with fail
              rw [HBC.out]
              go_simp
              go_wp2_with fail
              rw [HSF.out]
              go_roundw
              case rel => exact ⟨i + 1, at_ + k, ds ++ [d], by omega, hka, by simp, by simp, rfl, HN1.out, HN2.out, by simp; omega, fun h => HEND.out (by first | exact h | trivial), HG2.out⟩
              case measure => first | (simp [intOf]; done) | (simp [intOf]; omega)
          · obtain rfl : i = m := by omega
            have him' : ¬ (i : Int) < (i : Int) := by omega
            obtain ⟨k, hk⟩ : ∃ k, k = body.length - at_ := ⟨_, rfl⟩
            have hmin : (body.length : Int) - (at_ : Int) = (k : Int) := by omega
            have hka : at_ + k ≤ body.length := by omega
            have hkb : k < 65536 := by omega
            have HEND := hid (show i + 1 = i + 1 → at_ + k = body.length from fun h => by omega)
            have HFL := hid hfl
            have HPOS := hid hpos
            have HGR := hid hg
            clear hk hfl hpos hend hg
            by_cases hk0 : k = 0
            · have hkz : ((k : Int) == 0) = true := by simp [hk0]
              go_wp2_with fail
              go_roundw
              case rel => exact ⟨i + 1, at_, ds, by omega, hat, by simp, rfl, rfl, HFL.out, HPOS.out, by omega, fun h => by have := HEND.out (by first | exact h | trivial); omega, HGR.out⟩
              case measure => first | (simp [intOf]; done) | (simp [intOf]; omega)
            · have hkz : ((k : Int) == 0) = false := by simpa using hk0
              obtain ⟨nx1, nx2, nx3⟩ := chk_next HFL.out HPOS.out (show 0 < k by omega) hka
              obtain ⟨T, hT⟩ : ∃ T : ByteArray, T = ⟨(headT ++ piecesT ds).toArray⟩ := ⟨_, rfl⟩
              rw [← hT]
              have hTs : T.size ≤ 20000 := by
                rw [hT, Lib.size_eq]
                have h1 := piecesT_len ds
                have h2 : ds.flatten.length ≤ body.length := by rw [HFL.out, List.length_take]; omega
                show (headT ++ piecesT ds).length ≤ 20000
                rw [List.length_append, h1]
                show 57 + _ ≤ _
                omega
              obtain ⟨d, hd⟩ : ∃ d, d = (body.drop at_).take k := ⟨_, rfl⟩
              have hdl : d.length = k := by rw [hd, List.length_take, List.length_drop]; omega
              rw [← hd] at nx1 nx2 nx3
              obtain ⟨vb, vo, rfl⟩ : ∃ b o, a1 = some ⟨b, o, none⟩ := by
                obtain ⟨a', c', e, -, -, h3⟩ := HV.out
                cases e
                obtain ⟨b, o, e, -⟩ := h3 (by intro e; rw [e] at hka; first | (simp only [List.length_nil] at hka; omega) | (simp at hka; done) | (simp at hka; omega))
                exact ⟨b, o, e⟩
              have HBD := hid (fun W (g : w.grownBy W none) => hd ▸ Bytes.sub2 (HV.out.grown g) at_ k (c1 - at_) hka (by omega) (by omega))
              have HN1 := hid nx1
              have HN2 := hid nx2
              have HTT := hid hT
              have HDL := hid hdl
              have HN3 := hid (show headT ++ piecesT (ds ++ [d]) = headT ++ piecesT ds ++ (hex4 k ++ [13, 10] ++ d ++ [13, 10]) from nx3)
              obtain ⟨q1, hq1⟩ : ∃ q, q = k / 4096 := ⟨_, rfl⟩
              obtain ⟨q2, hq2⟩ : ∃ q, q = k / 256 := ⟨_, rfl⟩
              obtain ⟨q3, hq3⟩ : ∃ q, q = k / 16 := ⟨_, rfl⟩
              have f1 : (k : Int) / 4096 = (q1 : Int) := by rw [hq1]; omega
              have f2 : (k : Int) / 256 = (q2 : Int) := by rw [hq2]; omega
              have f3 : (k : Int) / 16 = (q3 : Int) := by rw [hq3]; omega
              have HHX := hid (show hex4 k = [hexC q1, hexC q2, hexC q3, hexC k] by rw [hq1, hq2, hq3]; rfl)
              have b1 := i64_and15 q1
              have b2 := i64_and15 q2
              have b3 := i64_and15 q3
              have b4 := i64_and15 k
              have l1 : q1 % 16 < hx.size := by rw [hxs]; omega
              have l2 : q2 % 16 < hx.size := by rw [hxs]; omega
              have l3 : q3 % 16 < hx.size := by rw [hxs]; omega
              have l4 : k % 16 < hx.size := by rw [hxs]; omega
              have x1 := HXG.out (q1 % 16) l1
              have x2 := HXG.out (q2 % 16) l2
              have x3 := HXG.out (q3 % 16) l3
              have x4 := HXG.out (k % 16) l4
              rw [hexC_mod] at x1 x2 x3 x4
              have n1 := enc_hex q1
              have n2 := enc_hex q2
              have n3 := enc_hex q3
              have n4 := enc_hex k
              generalize hexC q1 = z1 at *
              generalize hexC q2 = z2 at *
              generalize hexC q3 = z3 at *
              generalize hexC k = z4 at *
              generalize q1 % 16 = j1 at *
              generalize q2 % 16 = j2 at *
              generalize q3 % 16 = j3 at *
              generalize k % 16 = j4 at *
              clear hq1 hq2 hq3 hT hd nx1 nx2 nx3 hdl
              have m1 : (j1 : Int) < (hx.size : Int) := by omega
              have m2 : (j2 : Int) < (hx.size : Int) := by omega
              have m3 : (j3 : Int) < (hx.size : Int) := by omega
              have m4 : (j4 : Int) < (hx.size : Int) := by omega
              clear hxs
              go_wp2_with fail
              go_quiet (fail)
              obtain ⟨Hs, hHs⟩ : ∃ Hs : ByteArray, Hs = ⟨(hex4 k).toArray⟩ := ⟨_, rfl⟩
              have hH4 : Hs.size ≤ 4 := by rw [hHs, Lib.size_eq]; exact Nat.le_refl _
              have HH4 := hid (show ((⟨#[z1]⟩ : ByteArray) ++ (⟨#[z2]⟩ : ByteArray) ++ (⟨#[z3]⟩ : ByteArray) ++ (⟨#[z4]⟩ : ByteArray)) = Hs by
                rw [hHs, HHX.out]
                apply ByteArray.ext
                rw [ByteArray.data_append, ByteArray.data_append, ByteArray.data_append]
                rfl)
              rw [HH4.out]
              have g2 := gr_drewN nq (gr_refl wr none)
              revert g2
              generalize wr.drewN nq = w2
              intro g2
              have HG2 := hid (gr_trans HGR.out g2)
              have HBC := hid (run_b2s (w := w2) Tryd.underlying22 Tryd.underlying5 Tryd.underlying9 (HBD.out w2 (gr_trans G1.out HG2.out)))
              have HSF := hid (show T ++ (Hs ++ (⟨#[13, 10]⟩ : ByteArray) ++ (⟨d.toArray⟩ : ByteArray) ++ (⟨#[13, 10]⟩ : ByteArray)) = ⟨(headT ++ piecesT (ds ++ [d])).toArray⟩ by
                rw [HTT.out, hHs, HN3.out, app_arr, app_arr, app_arr, app_arr])
              have hdl := HDL.out
              have ng0 : ¬ 9223372036854775807 < Hs.size + 2 := by omega
              have ng1 : ¬ 9223372036854775807 < Hs.size + 2 + d.length := by omega
              have ng2 : ¬ 9223372036854775807 < Hs.size + 2 + d.length + 2 := by omega
              have ng3 : ¬ 9223372036854775807 < T.size + (Hs.size + 2 + d.length + 2) := by omega
              have hka' : (at_ : Int) + (k : Int) ≤ (body.length : Int) := by omega
              unfold str at HBC
              clear hHs HH4 g2 f1 f2 f3 b1 b2 b3 b4 l1 l2 l3 l4 x1 x2 x3 x4 n1 n2 n3 n4 m1 m2 m3 m4 hTs hH4 hdl
              go_wp2_with fail
              rw [HBC.out]
              go_simp
              go_wp2_with fail
              rw [HSF.out]
              go_roundw
              case rel => exact ⟨i + 1, at_ + k, ds ++ [d], by omega, hka, by simp, by simp, rfl, HN1.out, HN2.out, by simp; omega, fun h => HEND.out (by first | exact h | trivial), HG2.out⟩
              case measure => first | (simp [intOf]; done) | (simp [intOf]; omega)
        · obtain rfl : i = m + 1 := by omega
          obtain rfl := hend rfl
          rw [List.take_length] at hfl
          have HRD := hid (hfl ▸ chunks_read ds hpos (by rw [hfl]; omega) (by omega))
          have HTL := hid (show (headT ++ piecesT ds).length ≤ 20000 by
            have h1 := piecesT_len ds
            rw [List.length_append, h1, hfl]
            show 57 + _ ≤ _
            omega)
          have HGR := hid (gr_trans G1.out hg)
          have HMR := hid (HGR.out.cell HM.out (by simp))
          have hszw : 0 < wr.heap.size := World.block_lt_of_cell? _ _ HMR.out
          obtain ⟨T, hT⟩ : ∃ T, T = headT ++ piecesT ds := ⟨_, rfl⟩
          rw [show headT ++ (piecesT ds ++ endT) = T ++ endT by rw [hT, List.append_assoc]] at HRD
          rw [← hT] at HTL ⊢
          clear hT hfl hpos hdl hend hg hi1
          go_wp2_with fail
          refine (new_http wr).mono ?_
          rintro e w2 ⟨rfl, hb1', g2⟩
          go_wp2_with fail
          refine (new_http w2).mono ?_
          rintro e w3 ⟨rfl, hb2', g3⟩
          have hz1 := g2.size
          have hz0 := HGR.out.size
          have hlt1 := lt_of_block hb1'
          have hlt2 := lt_of_block hb2'
          obtain ⟨p, hp⟩ : ∃ x, x = wr.heap.size := ⟨_, rfl⟩
          obtain ⟨q, hq⟩ : ∃ x, x = w2.heap.size := ⟨_, rfl⟩
          rw [← hp] at hb1' hlt1 ⊢
          rw [← hq] at hb2' hlt2 ⊢
          have hp0 : p ≠ 0 := by omega
          have hq0 : q ≠ 0 := by omega
          have HP := hid (new_at (gr_keep g3 hb1' (by simp)))
          have HQ := hid (new_at hb2')
          have G3 := hid (gr_trans HGR.out (gr_trans g2 g3))
          have HM3 := hid (G3.out.cell HM.out (by simp))
          have HPQ := hid (show p < q by omega)
          have HPP := hid (show w.heap.size ≤ p by omega)
          have HQQ := hid (show w.heap.size ≤ q by omega)
          clear g2 g3 hb1' hb2' hz1 hz0 hlt1 hlt2 hp hq hszw HMR HGR
          have hng : ¬ 9223372036854775807 < T.length + 5 := by have := HTL.out; omega
          go_wp2_with (refine wpl_s2b rfl 9 22 5 _ rfl Tryd.underlying9 Tryd.underlying22 Tryd.underlying5 ((⟨T.toArray⟩ : ByteArray) ++ ⟨#[48, 13, 10, 13, 10]⟩) rfl (by rw [ByteArray.size_append, Lib.size_eq]; show T.toArray.toList.length + 5 ≤ maxLen; unfold maxLen; have := HTL.out; simp; omega) ?_; intro g cap w4 hg4 hrow g4)
          have hby := hrow.bytes
          rw [show ((⟨T.toArray⟩ : ByteArray) ++ (⟨#[48, 13, 10, 13, 10]⟩ : ByteArray)) = ⟨(T ++ endT).toArray⟩ from app_arr2 T endT] at hby
          have hle : (T ++ endT).length = T.length + 5 := by rw [List.length_append]; rfl
          have HBY := hid (show Bytes w4 (.slice (some ⟨g, 0, none⟩) (T.length + 5) cap) (T ++ endT) by rw [← hle]; exact hby)
          have HP4 := hid (HP.out.grow g4)
          have HQ4 := hid (HQ.out.grow g4)
          have HM4 := hid (g4.cell HM3.out (by simp))
          have G4 := hid (gr_trans G3.out g4)
          clear hby hrow g4 hg4 HP HQ HM3 G3
          go_wp2_with fail
          refine (feed_http p Ps.new w4 mx (T ++ endT) _ HP4.out new_inv HM4.out hp0 HBY.out (by show 0 + (T ++ endT).length ≤ 100000; rw [hle]; have := HTL.out; omega)).mono ?_
          rintro e w5 ⟨v13, rfl, hpa, hst, g5⟩
          rw [HRD.out] at hpa hst
          dsimp only at hpa hst
          have HPA := hid hpa
          have HST := hid hst
          have HQ5 := hid (HQ4.out.kept_ne g5 HP4.out (by have := HPQ.out; omega))
          have HM5 := hid (g5.cell HM4.out (by simpa using Ne.symm hp0))
          have G5 := hid (gr_new G4.out g5 HPP.out)
          obtain ⟨ad13, ac13, e13⟩ := hpa.shape
          have e13' : v13 = .slice ad13 1 ac13 := e13
          subst e13'
          clear e13 hpa hst g5 HP4 HQ4 HM4 G4 HBY hle hng HRD
          have hN := heap_alloc_new w5 (.cells #[.string ⟨#[72, 111, 115, 116]⟩, .string ⟨#[104]⟩] 40)
          have g6 := World.grownBy_alloc w5 (.cells #[.string ⟨#[72, 111, 115, 116]⟩, .string ⟨#[104]⟩] 40) none
          go_wp2_with fail
          revert hN g6
          generalize w5.alloc _ = w6
          intro hN g6
          have HPF := hid (host_pairs hN)
          have HPA6 := hid (HPA.out.grow g6)
          have HST6 := hid (HST.out.grow g6)
          have HQ6 := hid (HQ5.out.grow g6)
          have HM6 := hid (g6.cell HM5.out (by simp))
          have G6 := hid (gr_trans G5.out g6)
          clear hN g6 HPA HST HQ5 HM5 G5
          refine (ask_http postL slxL [([72, 111, 115, 116], [104])] body _ _ _ w6 HPF.out (HV.out.grown G6.out) (by decide) (by decide) (by decide) (by omega) (HT.out.grown G6.out)).mono ?_
          rintro e w7 ⟨v7, rfl, hbo, g7⟩
          have HBO := hid hbo.bytes
          have HPA7 := hid (HPA6.out.grow g7)
          have HST7 := hid (HST6.out.grow g7)
          have HQ7 := hid (HQ6.out.grow g7)
          have HM7 := hid (g7.cell HM6.out (by simp))
          have G7 := hid (gr_trans G6.out g7)
          clear hbo g7 HPA6 HST6 HQ6 HM6 G6 HPF
          go_wp2_with fail
          refine (feed_http q Ps.new w7 mx _ _ HQ7.out new_inv HM7.out hq0 HBO.out (by show 0 + _ ≤ 100000; have := ask_len [72, 111, 115, 116] body (by decide) (by omega); omega)).mono ?_
          rintro e w8 ⟨v14, rfl, hpb, -, g8⟩
          have hrd := ask_read [72, 111, 115, 116] body 0 host_small (by decide) (by decide) (by omega)
          rw [show feedL Ps.new (askL postL slxL [([72, 111, 115, 116], [104])] body) = ([pdA body], Ps.idle body.length) from hrd] at hpb
          dsimp only at hpb
          have HPA8 := HPA7.out.kept_ps g8 HQ7.out
          have HST8 := hid (HST7.out.kept_ne g8 HQ7.out (by have := HPQ.out; omega))
          have G8 := hid (gr_new G7.out g8 HQQ.out)
          obtain ⟨ga, ca', fva, bva, ea, -, hcaa, hcella, -, hboa⟩ := HPA8.get (i := 0) rfl
          obtain ⟨gb, cb', fvb, bvb, eb, -, hcbb, hcellb, -, hbob⟩ := hpb.get (i := 0) rfl
          obtain ⟨xa, xc, rfl, hx1, hx2⟩ := hboa.shape
          obtain ⟨ya, yc, rfl, hy1, hy2⟩ := hbob.shape
          have HQA := hid (fun n => run_b2s (w := w8.drewN n) Tryd.underlying22 Tryd.underlying5 Tryd.underlying9 (hboa.grow (gr_drewN n (gr_refl w8 none))).bytes)
          have HQB := hid (fun n => run_b2s (w := w8.drewN n) Tryd.underlying22 Tryd.underlying5 Tryd.underlying9 (hbob.grow (gr_drewN n (gr_refl w8 none))).bytes)
          have ea' : Value.slice ad13 1 ac13 = .slice (some ⟨ga, 0, none⟩) 1 ca' := ea
          simp only [Value.slice.injEq] at ea'
          obtain ⟨rfl, -, rfl⟩ := ea'
          have eb' : v14 = .slice (some ⟨gb, 0, none⟩) 1 cb' := eb
          subst eb'
          have k0 : w8.cell? ⟨ga, 0, none⟩ = some (.int .i64 0) := hcella 0 _ rfl
          have k5 : w8.cell? ⟨ga, 5, none⟩ = some (.slice xa body.length xc) := hcella 5 _ rfl
          have k6 : w8.cell? ⟨ga, 6, none⟩ = some (.bool true) := hcella 6 _ rfl
          have l5 : w8.cell? ⟨gb, 5, none⟩ = some (.slice ya body.length yc) := hcellb 5 _ rfl
          have hqa : ∀ n, (convert 22 9 (.slice xa body.length xc)).run Tryd.prog (w8.drewN n) = .ok (.string ⟨body.toArray⟩) (w8.drewN n) := HQA.out
          have hqb : ∀ n, (convert 22 9 (.slice ya body.length yc)).run Tryd.prog (w8.drewN n) = .ok (.string ⟨body.toArray⟩) (w8.drewN n) := HQB.out
          clear hpb g8 HPA7 HST7 HQ7 HM7 G7 HBO hrd HPA8 hboa hbob ea eb hcella hcellb hcaa hcbb HQA HQB hx1 hx2 hy1 hy2
          obtain ⟨B, hB⟩ : ∃ B, B = body.toArray := ⟨_, rfl⟩
          obtain ⟨N, hN⟩ : ∃ N, N = body.length := ⟨_, rfl⟩
          rw [← hB] at hqa hqb
          rw [← hN] at hqa hqb k5 l5
          clear hB hN
          have HIDL := hid (fun n => (show Calls Tryd.prog 10 #[.pointer (some ⟨p, 0, none⟩)] (w8.drewN n) fun e w' => e = .returned (.bool true) ∧ w' = w8.drewN n from idle_http p (Ps.idle 0) _ (HST8.out.grow (gr_drewN n (gr_refl w8 none)))))
          go_wp2_with fail
          go_quiet ((go_at_call 10; exact Calls.quiet_of_same (HIDL.out _)))
          go_wp2_with fail
          go_ret
          exact ⟨rfl, gr_drewN _ G8.out⟩
end Go.Proofs.YtldbcdiomkkinaaDoor
