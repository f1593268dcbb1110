/- strings.Replacer: build, of pairs of a byte and a text. -/
import Derived.Test.YtmofnoconhgjmaaGreatDoorRp1
import Derived.Test.YtmofnoconhgjmaaGreatDoorMA
import Derived.Test.YtmofnoconhgjmaaGreatDoorApG
import Derived.RegionTactic
import Derived.Lib.SliceRun
import Derived.Deep.QuietTactic
import Derived.Laws.MakeOwn
import Derived.Laws.Entries
import Derived.BigQuiet
import Derived.Deep.DeepCutAuto
namespace Go.Proofs.YtmofnoconhgjmaaGreatDoor
open Go.RowKit
set_option linter.unusedVariables false
set_option linter.unusedSimpArgs false

abbrev Prs := List (UInt8 × List UInt8)
/-- The texts that a replacer is made of. -/
def rpoL (prs : Prs) : List (List UInt8) := prs.flatMap fun x => [[x.1], x.2]
theorem rpoL_len (prs : Prs) : (rpoL prs).length = prs.length * 2 := by
  induction prs with
  | nil => rfl
  | cons x l ih => unfold rpoL at ih ⊢; rw [List.flatMap_cons, List.length_append, ih, List.length_cons]; simp only [List.length_cons, List.length_nil]; omega
theorem rpoL_get (prs : Prs) : ∀ (i : Nat) x, prs[i]? = some x → (rpoL prs)[i * 2]? = some [x.1] ∧ (rpoL prs)[i * 2 + 1]? = some x.2 := by
  induction prs with
  | nil => intro i x h; simp at h
  | cons y l ih =>
    intro i x h
    cases i with
    | zero =>
      obtain rfl : y = x := by simpa using h
      exact ⟨rfl, rfl⟩
    | succ i =>
      have := ih i x (by simpa using h)
      rw [show (i + 1) * 2 = i * 2 + 2 by omega, show i * 2 + 2 + 1 = i * 2 + 1 + 2 by omega]
      exact this
theorem infoStr : (Tryz.prog.info? 9).map (fun i => (i.zero, i.size, i.bytes)) = some (some (.string ⟨#[]⟩), 1, 16) := by kernel_rfl
theorem run_make_rowN {P : Program} (t e : TypeId) (i : TypeInfo) (z : Value) (ht : P.underlying t = some (.slice e)) (hi : P.info? e = some i) (hz : i.zero = some z)
    (kl kc : IntKind) (n c : Nat) (hnc : n ≤ c) (hbytes : i.bytes * c ≤ 281474976710656) (h63 : c ≤ 9223372036854775807) (w : World) :
    (Instr.makeSlice t (.int kl (n : Int)) (.int kc (c : Int))).run P w = .ok (.slice (some ⟨w.heap.size, 0, none⟩) n c) (w.alloc (.cells (madeCells z.cells (c * i.size)) e)) := by
  have hb : (i.bytes : Int) * (c : Int) ≤ 281474976710656 := by
    have h : ((i.bytes * c : Nat) : Int) ≤ 281474976710656 := by omega
    rwa [Int.natCast_mul] at h
  have hr := run_make (P := P) w t e i z ht hi hz kl kc n c (by omega) (by omega) hb (by omega)
  simp only [Int.toNat_natCast] at hr
  exact hr
/-- The replacer's block. -/
def RpB (w : World) (b : Nat) (d st : Int) (r o : Value) : Prop := w.heap[b]? = some (.cells #[.int .u32 d, .int .i32 st, .int .u32 0, r, o] 280 (0, 0))
/-- Texts in a row, from a place on. -/
def SrAt (w : World) (g o : Nat) (l : List (List UInt8)) : Prop := ∀ j s, l[j]? = some s → w.cell? ⟨g, o + j, none⟩ = some (.string ⟨s.toArray⟩)
/-- The replacements of pairs. -/
def BsC (w : World) (cs : Array Value) (l : Prs) : Prop := cs.size = 257 ∧ ∀ c : UInt8, ((∀ x ∈ l, x.1 ≠ c) ∧ cs[c.toNat]? = some (.slice none 0 0)) ∨ ∃ x ∈ l, x.1 = c ∧ ∃ g cap, cs[c.toNat]? = some (.slice (some ⟨g, 0, none⟩) x.2.length cap) ∧ Row8 w 5 g cap x.2
def keyV (l : Prs) : List Value := l.reverse.map fun x => .string ⟨#[x.1]⟩
/-- A replacer of bytes by texts, made of the pairs from number k on. -/
def BsI (w0 w : World) (rb : Nat) (l : Prs) : Prop := ∃ cs tv, w.heap[rb]? = some (.cells cs 358 (0, 0)) ∧ BsC w cs l ∧ cs[256]? = some tv ∧ w.ownsRow w0.heap.size 9 1 tv l.length (keyV l) ∧ tv.ownBlock ≠ some rb ∧ w0.grownBy w none ∧ w0.heap.size ≤ rb
def BuildPost (w0 : World) (prs : Prs) (e : Ending) (w : World) : Prop := ∃ rb, e = .returned (.iface 359 (.pointer (some ⟨rb, 0, none⟩))) ∧ BsI w0 w rb prs
theorem zero127 (i : Nat) (h : i < 257) : Tryz.zeroCells358[i]? = some (.slice none 0 0) := by
  have h1 : Tryz.zeroCells358 = Array.replicate 257 (.slice none 0 0) := by kernel_rfl
  rw [h1, Array.getElem?_replicate, if_pos h]
theorem own_empty {w : World} {base g n : Nat} {cs : Array Value} (h : w.heap[g]? = some (.cells cs 9 (0, 0))) (hb : base ≤ g) (hc : cs.size = n) (hm : n ≤ maxLen) : w.ownsRow base 9 1 (.slice (some ⟨g, 0, none⟩) 0 n) 0 [] :=
  ⟨rfl, .inr ⟨g, n, cs, rfl, hb, h, Nat.zero_le _, hm, by omega, rfl⟩⟩
theorem bs_start {w W : World} {rb tb n : Nat} {cs : Array Value} (G : w.grownBy W none) (hM : W.heap[tb]? = some (.cells cs 9 (0, 0))) (hN : W.heap[rb]? = some (.cells Tryz.zeroCells358 358 (0, 0))) (hn : cs.size = n) (hm : n ≤ maxLen) (ht : w.heap.size ≤ tb) (hr : w.heap.size ≤ rb) (hne : tb ≠ rb) :
    BsI w (W.setRow rb (Tryz.zeroCells358.toList.take (0 + 0) ++ Tryz.zeroCells358.toList.set 256 (.slice (some ⟨tb, 0, none⟩) 0 n) ++ Tryz.zeroCells358.toList.drop (0 + 0 + (Tryz.zeroCells358.toList.set 256 (.slice (some ⟨tb, 0, none⟩) 0 n)).length)).toArray) rb [] := by
  have hsz : Tryz.zeroCells358.size = 257 := Tryz.zeroCells358_size
  have e1 : (Tryz.zeroCells358.toList.take (0 + 0) ++ Tryz.zeroCells358.toList.set 256 (.slice (some ⟨tb, 0, none⟩) 0 n) ++ Tryz.zeroCells358.toList.drop (0 + 0 + (Tryz.zeroCells358.toList.set 256 (.slice (some ⟨tb, 0, none⟩) 0 n)).length)).toArray = Tryz.zeroCells358.setIfInBounds 256 (.slice (some ⟨tb, 0, none⟩) 0 n) := by
    rw [List.length_set, Nat.add_zero, List.take_zero, List.nil_append, Nat.zero_add, List.drop_length, List.append_nil]
    apply Array.ext'
    rw [Array.toList_setIfInBounds]
  rw [e1]
  refine ⟨_, .slice (some ⟨tb, 0, none⟩) 0 n, setRow_heap _ _ _ _ _ _ hN, ⟨by simp [hsz], fun c => .inl ⟨fun x h => (List.not_mem_nil h).elim, ?_⟩⟩, ?_, ?_, ?_, ?_, hr⟩
  · rw [Array.getElem?_setIfInBounds_ne (by have := c.toNat_lt; omega)]
    exact zero127 _ (by have := c.toNat_lt; omega)
  · rw [Array.getElem?_setIfInBounds_self_of_lt (by omega)]
  · refine own_empty (cs := cs) ?_ ht hn hm
    rw [setRow_other _ _ _ _ hne]
    exact hM
  · simp [Value.ownBlock]; exact hne
  · exact gr_new G ⟨rfl, rfl, rfl, by simp, fun k _ h => setRow_other _ _ _ _ (fun e => h (by rw [e]))⟩ hr
theorem own_row_keep {w w' : World} {base size n : Nat} {row : Option Nat} {e : TypeId} {v : Value} {xs : List Value} (h : w.ownsRow base e size v n xs) (g : w.grownBy w' row) (hr : ∀ k, v.ownBlock = some k → some k ≠ row) : w'.ownsRow base e size v n xs := by
  refine ⟨h.1, ?_⟩
  rcases h.2 with h0 | ⟨b, cap, cur, rfl, hb, hh, r⟩
  · exact .inl h0
  · exact .inr ⟨b, cap, cur, rfl, hb, gr_keep g hh (hr b rfl), r⟩
theorem row8_own {w w' : World} {base size n g c : Nat} {e t : TypeId} {v : Value} {xs : List Value} {l : List UInt8} (h : Row8 w t g c l) (ho : w.ownsRow base e size v n xs) (k : w.grownBy w' v.ownBlock) (hT : t ≠ e) : Row8 w' t g c l := by
  refine h.keep k ?_
  obtain ⟨cs, lo, hi, hg, -⟩ := h
  rcases ho.2 with ⟨rfl, -⟩ | ⟨b, cap, cur, rfl, hb, hh, r⟩
  · simp [Value.ownBlock]
  · intro e'
    have : g = b := by simpa [Value.ownBlock] using e'
    subst this
    rw [hg] at hh
    simp only [Option.some.injEq, Obj.cells.injEq] at hh
    exact hT hh.2.1
theorem row8_ne {w w' : World} {g c rb : Nat} {t T : TypeId} {cs : Array Value} {r : Nat × Nat} {l : List UInt8} (h : Row8 w t g c l) (hb : w.heap[rb]? = some (.cells cs T r)) (k : w.grownBy w' (some rb)) (hT : t ≠ T) : Row8 w' t g c l := by
  refine h.keep k ?_
  obtain ⟨cs', lo, hi, hg, -⟩ := h
  intro e'
  have : g = rb := by simpa using e'
  subst this
  rw [hg] at hb
  simp only [Option.some.injEq, Obj.cells.injEq] at hb
  exact hT hb.2.1
theorem bs_step {w0 wr W1 w3 w4 w5 : World} {rb g5 c5 : Nat} {cs : Array Value} {tv v : Value} {x : UInt8 × List UInt8} {l : Prs} (hno : ∀ y ∈ l, y.1 ≠ x.1) (hC : BsC wr cs l) (hB : wr.heap[rb]? = some (.cells cs 358 (0, 0))) (hown : wr.ownsRow w0.heap.size 9 1 tv l.length (keyV l)) (hne : tv.ownBlock ≠ some rb) (hG : w0.grownBy wr none) (hlo : w0.heap.size ≤ rb)
    (g1 : wr.grownBy W1 none) (hW1 : wr.heap.size < W1.heap.size) (g3 : W1.grownBy w3 tv.ownBlock) (h3 : w3.ownsRow w0.heap.size 9 1 v (l.length + 1) (keyV l ++ [.string ⟨#[x.1]⟩])) (ha : v.ownBlock = tv.ownBlock ∨ v.ownBlock = some W1.heap.size) (g4 : w3.grownBy w4 (some rb)) (g5' : w4.grownBy w5 none)
    (hB5 : w5.heap[rb]? = some (.cells (cs.setIfInBounds 256 v) 358 (0, 0))) (hR : Row8 w5 5 g5 c5 x.2) :
    BsI w0 (w5.setCell ⟨rb, x.1.toNat, none⟩ (.slice (some ⟨g5, 0, none⟩) x.2.length c5)) rb (x :: l) := by
  have hx := x.1.toNat_lt
  have hsz := hC.1
  have g6 : w5.grownBy (w5.setCell ⟨rb, x.1.toNat, none⟩ (.slice (some ⟨g5, 0, none⟩) x.2.length c5)) (some rb) := gr_set (gr_refl _ _)
  have hB1 := gr_keep g1 hB (by simp)
  have hB3 := gr_keep g3 hB1 (fun e => hne e.symm)
  have hvne : v.ownBlock ≠ some rb := by
    rcases ha with h | h
    · rw [h]; exact hne
    · rw [h]; intro e; have := lt_of_block hB; simp at e; omega
  have tr : ∀ {g c : Nat} {y : List UInt8}, Row8 wr 5 g c y → Row8 (w5.setCell ⟨rb, x.1.toNat, none⟩ (.slice (some ⟨g5, 0, none⟩) x.2.length c5)) 5 g c y := fun h =>
    row8_ne ((row8_ne (row8_own (h.keep g1 (by simp)) (own_growG hown g1) g3 (by decide)) hB3 g4 (by decide)).keep g5' (by simp)) hB5 g6 (by decide)
  refine ⟨_, v, heap_set (o := x.1.toNat) hB5, ⟨by simpa using hsz, fun c => ?_⟩, ?_, ?_, hvne, ?_, hlo⟩
  · by_cases hc : x.1 = c
    · subst hc
      refine .inr ⟨x, List.mem_cons_self .., rfl, g5, c5, ?_, row8_ne hR hB5 g6 (by decide)⟩
      rw [Array.getElem?_setIfInBounds_self_of_lt (by simp; omega)]
    · have hcn : x.1.toNat ≠ c.toNat := fun e => hc (UInt8.toNat_inj.1 e)
      rw [Array.getElem?_setIfInBounds_ne hcn, Array.getElem?_setIfInBounds_ne (by have := c.toNat_lt; omega)]
      rcases hC.2 c with ⟨h1, h2⟩ | ⟨y, hy, e, g, cap, h2, hr⟩
      · refine .inl ⟨fun z hz => ?_, h2⟩
        rcases List.mem_cons.1 hz with rfl | hz
        · exact hc
        · exact h1 z hz
      · exact .inr ⟨y, List.mem_cons_of_mem _ hy, e, g, cap, h2, tr hr⟩
  · rw [Array.getElem?_setIfInBounds_ne (by omega), Array.getElem?_setIfInBounds_self_of_lt (by omega)]
  · have hk : keyV (x :: l) = keyV l ++ [.string ⟨#[x.1]⟩] := by unfold keyV; simp
    rw [hk, List.length_cons]
    exact own_row_keep (own_growG (own_row_keep h3 g4 (fun k e => by rw [← e]; exact hvne)) g5') g6 (fun k e => by rw [← e]; exact hvne)
  · refine gr_new (gr_trans (gr_new (gr_trans ?_ (gr_refl w3 none)) g4 hlo) g5') g6 hlo
    rcases hown.2 with ⟨rfl, -⟩ | ⟨b, cap, cur, rfl, hb, -⟩
    · exact gr_trans (gr_trans hG g1) g3
    · exact gr_new (gr_trans hG g1) g3 hb
set_option maxRecDepth 100000 in
set_option maxHeartbeats 4000000 in
theorem build_x (w : World) (b g o c : Nat) (d st : Int) (prs : Prs) (hb : RpB w b d st .nilIface (.slice (some ⟨g, o, none⟩) (rpoL prs).length c)) (hs : SrAt w g o (rpoL prs)) (h2 : 2 ≤ prs.length) (hm : prs.length ≤ 100) (hl : ∀ x ∈ prs, x.2.length ≠ 1 ∧ x.2.length ≤ 1000) (hnd : (prs.map (·.1)).Nodup) :
    Calls Tryz.prog 261 #[.pointer (some ⟨b, 0, none⟩)] w (BuildPost w prs) := by
  have c4 : w.cell? ⟨b, 4, none⟩ = some (.slice (some ⟨g, o, none⟩) (rpoL prs).length c) := cell_of_block hb 4
  have HN0 := hid (rpoL_len prs)
  obtain ⟨N, hN⟩ : ∃ N, N = (rpoL prs).length := ⟨_, rfl⟩
  rw [← hN] at c4 HN0
  have HN := hid hN
  have HS := hid hs
  have HL := hid hl
  have HM := hid hm
  have h2' : 4 ≤ N := by rw [HN0.out]; omega
  have hm' : N ≤ 200 := by rw [HN0.out]; omega
  have hn2 : decide (N = 2) = false := by simp; omega
  have hn3 : ((N : Int) == 2) = false := by simp; omega
  clear hN hs hl hb h2 hm
  go_enter Tryz.func261, Tryz.ntmps261
  go_wp2_with fail
  clear c4 hn2 hn3
  go_loop [4, 5] (fun v4 v5 => ∃ k q : Nat, v5 = .int .i64 (q : Int) ∧ Hid (q = k * 2) ∧ q ≤ N ∧ v4 = .bool (decide (k = 0))) (fun _ v5 => N - (intOf v5).toNat)
  case atStart => exact ⟨0, 0, rfl, hid rfl, Nat.zero_le _, rfl⟩
  case round =>
    obtain ⟨k, q, rfl, hq, hqN, rfl⟩ := hrel
    by_cases hlt : q < N
    · have hkp : k < prs.length := by have := hq.out; have := HN0.out; omega
      obtain ⟨x, hx⟩ : ∃ x, prs[k]? = some x := ⟨_, List.getElem?_eq_getElem hkp⟩
      have p0 := HS.out _ _ (rpoL_get prs k x hx).1
      have p1 := HS.out _ _ (rpoL_get prs k x hx).2
      rw [← hq.out] at p0 p1
      have hxl := HL.out x (List.mem_of_getElem? hx)
      have hq0 : (0 : Int) ≤ (q : Int) := by omega
      have hq1 : (q : Int) < (N : Int) := by omega
      have hq2 : (q : Int) + 2 ≤ 202 := by omega
      have hq3 : (q : Int) + 1 < (N : Int) := by have := hq.out; have := HN0.out; omega
      have h1 : ((⟨x.2.toArray⟩ : ByteArray).size == 1) = false := by rw [Lib.size_eq]; simpa using hxl.1
      have h1' : ¬ (⟨x.2.toArray⟩ : ByteArray).size = 1 := by rw [Lib.size_eq]; simpa using hxl.1
      have h1'' : (((⟨x.2.toArray⟩ : ByteArray).size : Int) != 1) = true := by simp; rw [Lib.size_eq]; have := hxl.1; simp; omega
      clear hxl hx
      generalize (⟨x.2.toArray⟩ : ByteArray) = S2 at *
      go_wp2_with fail
      go_round
      case rel => exact ⟨k + 1, q + 2, by go_num, hid (by have := hq.out; omega), by omega, rfl⟩
      case measure => simp [intOf]; omega
    · obtain rfl : N = q := by omega
      have hk0 : decide (k = 0) = false := by have := hq.out; simp; omega
      rw [hk0]
      clear hk0 hqN hlt
      have hN2 : (N : Int) / 2 = (prs.length : Int) := by have := HN0.out; omega
      obtain ⟨i0, hi, hz0, hz1, hz2⟩ := info_parts infoStr
      have hmk : ∀ W : World, (Instr.makeSlice 41 (.int .i64 0) (.int .i64 (prs.length : Int))).run Tryz.prog W = .ok (.slice (some ⟨W.heap.size, 0, none⟩) 0 prs.length) (W.alloc (.cells (madeCells #[.string ⟨#[]⟩] prs.length) 9)) := fun W => by
        have := run_make_rowN (P := Tryz.prog) 41 9 i0 _ Tryz.underlying41 hi hz0 .i64 .i64 0 prs.length (Nat.zero_le _) (by rw [hz2]; have := HM.out; omega) (by have := HM.out; omega) W
        rw [hz1, Nat.mul_one] at this
        exact this
      clear hi hz0 hz1 hz2
      obtain ⟨tb, htb⟩ : ∃ tb, tb = w.heap.size := ⟨_, rfl⟩
      obtain ⟨rb, hrb⟩ : ∃ rb, rb = w.heap.size + 1 := ⟨_, rfl⟩
      have GM := hid (gr_alloc (gr_refl w none) (.cells (madeCells #[.string ⟨#[]⟩] prs.length) 9))
      have GN := hid (gr_alloc GM.out (.cells Tryz.zeroCells358 358))
      have NM := hid (gr_keep (World.grownBy_alloc (w.alloc (.cells (madeCells #[.string ⟨#[]⟩] prs.length) 9)) (.cells Tryz.zeroCells358 358) none) (heap_alloc_new w (.cells (madeCells #[.string ⟨#[]⟩] prs.length) 9)) (by simp))
      have NN := heap_alloc_new (w.alloc (.cells (madeCells #[.string ⟨#[]⟩] prs.length) 9)) (.cells Tryz.zeroCells358 358)
      rw [World.size_alloc] at NN
      have hst := run_storeCells_at (P := Tryz.prog) (w.heap.size + 1) 0 358 (Tryz.zeroCells358.toList.set 256 (.slice (some ⟨w.heap.size, 0, none⟩) 0 prs.length)) 0 _ _ NN (by simp) (by
        intro v hv
        obtain ⟨j, hj⟩ := List.getElem?_of_mem hv
        have hjl := (List.getElem?_eq_some_iff.1 hj).1
        rw [List.length_set, Array.length_toList, Tryz.zeroCells358_size] at hjl
        rw [List.getElem?_set] at hj
        split at hj
        · split at hj
          · cases hj; rfl
          · cases hj
        · rw [Array.getElem?_toList, zero127 j hjl] at hj
          cases hj; rfl)
      have HNN := hid NN
      have HS0 := hid (bs_start GN.out NM.out NN (size_madeCells _ _) (by unfold maxLen; have := HM.out; omega) (Nat.le_refl _) (Nat.le_succ _) (by omega))
      clear NN
      go_wp2_with fail
      rw [← hrb]
      have HRB := hid hrb
      clear hst hrb htb hmk hN2
      go_loopw [12] (fun v12 wr => ∃ (z : Int) (k : Nat), v12 = .int .i64 z ∧ Hid (z = (k : Int) * 2 - 2) ∧ k ≤ prs.length ∧ BsI w wr rb (prs.drop k)) (fun v12 _ => ((intOf v12) + 2).toNat)
      case atStart => exact ⟨_, prs.length, rfl, hid (by have := HN0.out; omega), Nat.le_refl _, by rw [List.drop_length]; have := HS0.out; rw [← HRB.out] at this; exact this⟩
      case round =>
        obtain ⟨z, k, rfl, hz, hk, hI⟩ := hrel
        by_cases hk0 : k = 0
        · have hz0 : z < 0 := by have := hz.out; omega
          have HI := hid (show BsI w wr rb prs by rw [hk0] at hI; exact hI)
          clear hk0 hI hk
          go_wp2_with fail
          go_ret
          exact ⟨rb, rfl, HI.out⟩
        · obtain ⟨j, rfl⟩ : ∃ j, k = j + 1 := ⟨k - 1, by omega⟩
          have hzq := hz.out
          obtain ⟨q, rfl⟩ : ∃ q : Nat, z = (q : Int) := ⟨z.toNat, by omega⟩
          have HQ := hid (show q = j * 2 by omega)
          obtain ⟨x, hx⟩ : ∃ x, prs[j]? = some x := ⟨_, List.getElem?_eq_getElem (by omega)⟩
          have p0 := HS.out _ _ (rpoL_get prs j x hx).1
          have p1 := HS.out _ _ (rpoL_get prs j x hx).2
          rw [← HQ.out] at p0 p1
          have HXL := hid (HL.out x (List.mem_of_getElem? hx))
          have hq0 : (0 : Int) ≤ (q : Int) := by omega
          have hq1 : (q : Int) < (N : Int) := by have := HQ.out; have := HN0.out; omega
          have hq3 : (q : Int) + 1 < (N : Int) := by have := HQ.out; have := HN0.out; omega
          have HDR := hid (show prs.drop j = x :: prs.drop (j + 1) by rw [List.drop_eq_getElem_cons (by omega)]; rw [List.getElem?_eq_getElem (by omega)] at hx; rw [Option.some.inj hx])
          have HNO := hid (show ∀ y ∈ prs.drop (j + 1), y.1 ≠ x.1 from fun y hy e => by
            have h1 : (prs.drop j).map (·.1) = x.1 :: (prs.drop (j + 1)).map (·.1) := by rw [HDR.out]; rfl
            have h2 : ((prs.drop j).map (·.1)).Nodup := by rw [List.map_drop]; exact hnd.drop
            rw [h1] at h2
            exact (List.nodup_cons.1 h2).1 (List.mem_map.2 ⟨y, hy, e⟩))
          obtain ⟨cs, tv, hB, hC, ht, hown, hne, hG, hlo⟩ := hI
          have HC := hid hC
          have hcx : wr.cell? ⟨rb, x.1.toNat, none⟩ = some (.slice none 0 0) := by
            rw [cell_of_block hB]
            rcases hC.2 x.1 with ⟨-, h⟩ | ⟨y, hy, e, -⟩
            · exact h
            · exact absurd e (HNO.out y hy)
          have hct : wr.cell? ⟨rb, 256, none⟩ = some tv := by rw [cell_of_block hB]; exact ht
          have HCX := hid ((cell_of_block hB x.1.toNat).symm.trans hcx)
          have p0' := hG.cell p0 (by simp)
          have p1' := hG.cell p1 (by simp)
          have hfr := free_of_block hB
          have hxr : (x.1.toNat : Int) < 256 := by have := x.1.toNat_lt; omega
          have HB := hid hB
          have HOWN := hid hown
          have HG := hid hG
          have HNE := hid hne
          have HLO := hid hlo
          have HT := hid ht
          have hix : (⟨#[x.1]⟩ : ByteArray)[0]'(by show 0 < 1; decide) = x.1 := rfl
          have hnn := fun W : World => Lib.run_eql_slice_nil (P := Tryz.prog) W 30 5 none 0 0 0 0 Tryz.underlying30
          have GA := hid (gr_alloc (gr_refl wr none) (.cells #[.int .u8 (x.1.toNat : Int)] 5))
          have GB := hid (gr_alloc GA.out (.cells #[.string ⟨#[x.1]⟩] 9))
          have HBY := hid (show Bytes (wr.alloc (.cells #[.int .u8 (x.1.toNat : Int)] 5)) (.slice (some ⟨wr.heap.size, 0, none⟩) 1 1) [x.1] from ⟨_, 1, rfl, Nat.le_refl _, by decide, fun _ => ⟨_, 0, rfl, fun i hi => by
            obtain rfl : i = 0 := by simp at hi; exact hi
            exact cell_of_block (heap_alloc_new wr _) 0⟩⟩)
          have HSR := hid (show SrcAt ((wr.alloc (.cells #[.int .u8 (x.1.toNat : Int)] 5)).alloc (.cells #[.string ⟨#[x.1]⟩] 9)) (some ⟨wr.heap.size + 1, 0, none⟩) [.string ⟨#[x.1]⟩] from .inr ⟨_, rfl, fun i u hi => by
            have h1 := cell_of_block (heap_alloc_new (wr.alloc (.cells #[.int .u8 (x.1.toNat : Int)] 5)) (.cells #[.string ⟨#[x.1]⟩] 9)) i
            rw [World.size_alloc] at h1
            rw [Go.WideShapes.add_plain, Nat.zero_add, h1, ← hi]
            simp⟩)
          have hlen : (prs.drop (j + 1)).length + 1 = (prs.drop j).length := by rw [HDR.out]; rfl
          have HLEN := hid hlen
          have HLM := hid (show (prs.drop (j + 1)).length ≤ 100 by rw [List.length_drop]; have := HM.out; omega)
          obtain ⟨L, hL⟩ : ∃ L, L = (prs.drop (j + 1)).length := ⟨_, rfl⟩
          rw [← hL] at HOWN HLM HLEN
          have HLL := hid hL
          obtain ⟨ta, tc, rfl⟩ := own_shapeG HOWN.out
          obtain ⟨i1, hi, hz0, hz1, hz2⟩ := info_parts infoStr
          have HI1 := hid (And.intro hi (And.intro hz0 (And.intro hz1 hz2)))
          clear hx hz hzq hC hB hown hG hne hlo ht hk0 p0 p1 HS0 HNN hL hlen hi hz0 hz1 hz2
          go_upto_region 34 with (first | (refine wpl_b2s rfl 30 9 5 _ rfl Tryz.underlying30 Tryz.underlying5 Tryz.underlying9 _ [x.1] rfl HBY.out ?_; unfold str) | (at_builtin; refine wpl_appG rfl _ _ 41 rfl (base := w.heap.size) (size := 1) (bytes := 16) Tryz.underlying41 HI1.out.1 HI1.out.2.1 HI1.out.2.2.1 HI1.out.2.2.2 rfl (by decide) rfl (own_growG HOWN.out GB.out) (m := 1) rfl rfl HSR.out (by simp; rfl) (by have := HLM.out; unfold maxLen; omega) (by have := HLM.out; omega) (Nat.le_trans HG.out.size GB.out.size) ?_; intro v3 w3 hown3 g3 hat3; obtain ⟨ta3, tc3, rfl⟩ := own_shapeG hown3; have HOW3 := hid hown3; have HG3 := hid g3; have HA3 := hid hat3; clear hown3 g3 hat3; have HB3 := hid (gr_keep HG3.out (gr_keep GB.out HB.out (by simp)) (fun e => HNE.out e.symm)); have c3 := (cell_of_block HB3.out 256).trans HT.out; have f3 := free_of_block HB3.out 256))
          have HW4 := hid (show w3.grownBy (w3.setCell ⟨rb, 256, none⟩ (.slice ta3 (L + 1) tc3)) (some rb) from gr_set (gr_refl _ _))
          have HB4 := hid (heap_set (o := 256) (v := .slice ta3 (L + 1) tc3) HB3.out)
          generalize w3.setCell ⟨rb, 256, none⟩ (.slice ta3 (L + 1) tc3) = w4 at *
          have hxs : (⟨x.2.toArray⟩ : ByteArray).size = x.2.length := by rw [Lib.size_eq]
          clear c3 f3 hcx hct p0' p1'
          go_wp2_with (refine wpl_s2b rfl 9 30 5 _ rfl Tryz.underlying9 Tryz.underlying30 Tryz.underlying5 ⟨x.2.toArray⟩ rfl (by rw [hxs]; unfold maxLen; have := HXL.out; omega) ?_; intro g5 c5 w5 hg5 hrow5 g45; have HB5 := hid (gr_keep g45 HB4.out (by simp)); have HR5 := hid hrow5; have HG5 := hid g45; have HL5 := hid hg5; clear g45 hrow5 hg5; have c6 : w5.cell? ⟨rb, x.1.toNat, none⟩ = some (.slice none 0 0) := ((cell_of_block HB5.out _).trans (Array.getElem?_setIfInBounds_ne (by have := x.1.toNat_lt; omega))).trans HCX.out; have f6 := free_of_block HB5.out x.1.toNat)
          have HFIN := hid (bs_step HNO.out HC.out HB.out (by rw [← HLL.out]; exact HOWN.out) HNE.out HG.out HLO.out GB.out (by simp; omega) HG3.out (by rw [← HLL.out]; exact HOW3.out) HA3.out HW4.out HG5.out HB5.out HR5.out)
          rw [← HDR.out] at HFIN
          refine ⟨⟨(q : Int) - 2, j, rfl, hid (by have := HQ.out; omega), by omega, HFIN.out⟩, by simp [intOf]; omega⟩
end Go.Proofs.YtmofnoconhgjmaaGreatDoor
