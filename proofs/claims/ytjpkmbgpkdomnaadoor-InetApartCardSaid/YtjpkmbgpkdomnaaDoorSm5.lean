/- octet.Pairs' contract; sum.Sum of one part. -/
import Derived.Test.YtjpkmbgpkdomnaaDoorSm4
import Derived.RangeFuncFrom
namespace Go.Proofs.YtjpkmbgpkdomnaaDoor
open Go.RowKit Go.Shelf
attribute [local go_sem] Oper.semAt_some

set_option maxRecDepth 100000 in
set_option maxHeartbeats 1000000 in
theorem pairs1_nil_in (F : Fence) (n : Nat) (h83 : F.fn 83) (hro : F.round = none) (l Bs : Nat) (a : Option Addr) (c : Nat) (J : List (Nat × Int) → World → Prop) (W : World) (hBs : W.cell? ⟨Bs, 0, none⟩ = some (.slice a 0 c)) (h0 : J [] W) :
    CallsIn F n Tryd.prog 83 #[.func (.yield l) #[] #[], .pointer (some ⟨Bs, 0, none⟩)] W fun e W' => (∃ v, e = .returned v) ∧ J [] W' := by
  refine callsIn_of_wp Tryd.func83 rfl h83 ?_ hro
  simp only [Tryd.ntmps83, List.size_toArray, List.length_cons, List.length_nil, Nat.reduceAdd, Nat.reduceSub, Array.replicate_succ, Array.replicate_zero, List.push_toArray, List.append_toArray, List.nil_append, List.cons_append]
  gi_wp2
  gi_loopw [3] (fun i wr => i = .int .i64 0 ∧ J [] wr ∧ wr = W) (fun _ _ => 0)
  case atStart => exact ⟨rfl, h0, rfl⟩
  case round =>
    obtain ⟨rfl, hJs, rfl⟩ := hrel
    gi_wp2
    go_end0
    exact ⟨⟨_, rfl⟩, hJs⟩
theorem pairs_in (F : Fence) (n : Nat) (h70 : F.fn 70) (hro : F.round = none) (a : Option Addr) (len cap : Nat) (w : World) :
    CallsIn F n Tryd.prog 70 #[.slice a len cap] w fun e w' => e = .returned (.func (.func 83) #[] #[.pointer (some ⟨w.heap.size, 0, none⟩)]) ∧ w' = w.alloc (.cells #[.slice a len cap] 45) := by
  refine callsIn_of_wp Tryd.func70 rfl h70 ?_ hro
  simp only [Tryd.ntmps70, List.size_toArray, List.length_cons, List.length_nil, Nat.reduceAdd, Nat.reduceSub, Array.replicate_succ, Array.replicate_zero, List.push_toArray, List.append_toArray, List.nil_append, List.cons_append]
  gi_wp2
  go_ret
  exact ⟨rfl, rfl⟩
/-- The numbers, as they come. -/
def zOf (bs : List UInt8) (k : Nat) : Int := ((prL bs).getD k 0 : Nat)
theorem zOf_at (bs : List UInt8) (k : Nat) (h : 2 * k < bs.length) : zOf bs k = 256 * ((bs.getD (2 * k) 0).toNat : Int) + ((bs.getD (2 * k + 1) 0).toNat : Int) := by
  unfold zOf; rw [prL_at bs k h]; omega
theorem pairs_stops (F : Fence) (n : Nat) (h83 : F.fn 83) (hro : F.round = none) (hn : 1 ≤ n) (Bs N T : Nat) (v : Value) (bs : List UInt8) (hl : bs.length ≤ 100000) (w : World) (hN : N ≤ w.heap.size) (hBs : Bs < N) (hBT : Bs ≠ T)
    (hbox : w.cell? ⟨Bs, 0, none⟩ = some v) (hv : Bytes w v bs) (hfar : ∀ b o n c, v = .slice (some ⟨b, o, none⟩) n c → 0 < n → b < N ∧ b ≠ T) :
    SeqStopsK F n Tryd.prog 83 #[.pointer (some ⟨Bs, 0, none⟩)] (fun x : Nat × Int => #[Value.int .i64 (x.1 : Int), Value.int .u16 x.2]) (KB N T) (fun ys => ys = upto (fun j => (j, zOf bs j)) ((bs.length + 1) / 2))
      (fun pre => ∃ k, k ≤ (bs.length + 1) / 2 ∧ pre = upto (fun j => (j, zOf bs j)) k) ((bs.length + 1) / 2) w := fun l J Jx W hW _ _ hY h0 => by
  have hb2 := (hW.cell (p := ⟨Bs, 0, none⟩) (by show Bs < w.heap.size; omega)).trans hbox
  obtain ⟨a, c, rfl, h1, h2, h3⟩ := hv
  by_cases hz : bs = []
  · subst hz
    exact (pairs1_nil_in F n h83 hro l Bs a c J W hb2 h0).mono fun e W' ⟨he, hj⟩ => ⟨he, .inl ⟨_, rfl, hj⟩⟩
  · obtain ⟨b, o, rfl, hc⟩ := h3 hz
    obtain ⟨f1, f2⟩ := hfar b o _ c rfl (List.length_pos_iff.2 hz)
    exact pairs1_in F n h83 hro hn l Bs N T b o c bs hl f1 f2 hBs hBT (zOf bs) (zOf_at bs) J Jx hY W hb2 (fun j hj => (hW.cell (p := ⟨b, o + j, none⟩) (by show b < w.heap.size; omega)).trans (hc j hj)) h0
/-- The sum of what has come. -/
def sumI (xs : List (Nat × Int)) : Int := (xs.map (·.2)).foldl (· + ·) 0
theorem sumI_snoc (xs : List (Nat × Int)) (x : Nat × Int) : sumI (xs ++ [x]) = sumI xs + x.2 := by
  unfold sumI; rw [List.map_append, List.foldl_append]; rfl
theorem sumI_upto (bs : List UInt8) : ∀ k, k ≤ (prL bs).length → sumI (upto (fun j => (j, zOf bs j)) k) = (tot ((prL bs).take k) : Nat)
  | 0, _ => by simp [sumI, upto, tot]
  | k + 1, h => by
    rw [upto_succ, sumI_snoc, sumI_upto bs k (by omega), tot_take (prL bs) k (by omega)]
    show ((tot ((prL bs).take k) : Nat) : Int) + zOf bs k = ((tot ((prL bs).take k) + (prL bs).getD k 0 : Nat) : Int)
    unfold zOf; omega
theorem sumI_all (bs : List UInt8) : sumI (upto (fun j => (j, zOf bs j)) ((bs.length + 1) / 2)) = (tot (prL bs) : Nat) := by
  rw [← prL_len, sumI_upto bs _ (Nat.le_refl _), List.take_length]
theorem u16_not (r : Nat) (h : r ≤ 65535) : bits .xor .u16 IntKind.u16.max (r : Int) = ((65535 - r : Nat) : Int) := by
  have h1 := u16_xor_nat 65535 r (by omega) (by omega)
  rw [show (IntKind.u16.max) = ((65535 : Nat) : Int) from rfl, h1]
  congr 1
  apply Nat.eq_of_testBit_eq
  intro i
  have h2 := Nat.testBit_two_pow_sub_succ (n := 16) (x := r) (by omega) i
  rw [show 65535 - r = 2 ^ 16 - (r + 1) by omega, h2, Nat.testBit_xor, show 65535 = 2 ^ 16 - 1 from rfl, Nat.testBit_two_pow_sub_one]
  by_cases hi : i < 16
  · simp [hi]
  · have : r.testBit i = false := Nat.testBit_lt_two_pow (Nat.lt_of_lt_of_le (show r < 2 ^ 16 by omega) (Nat.pow_le_pow_right (by omega) (by omega)))
    simp [hi, this]
def M64 : Int := 18446744073709551616
theorem acc_step (s x : Int) : IntKind.u64.wrap (s % M64 + IntKind.u64.wrap x) = (s + x) % M64 := by
  unfold M64; simp [IntKind.wrap, IntKind.bits, IntKind.signed]
set_option maxRecDepth 100000 in
set_option maxHeartbeats 4000000 in
theorem sum_one (b o c : Nat) (l : List UInt8) (v : Value) (w : World) (hcell : w.cell? ⟨b, o, none⟩ = some v) (hb : Bytes w v l) (hl : l.length ≤ 100000) :
    Calls Tryd.prog 55 #[.slice (some ⟨b, o, none⟩) 1 c] w fun e w' => e = .returned (.int .u16 (sum16 l)) ∧ w.grownBy w' none := by
  have g0 := World.grownBy_alloc w (.cells #[.int .u64 0] 22) none
  have hj := hid (join_one b o c l v (w.alloc (.cells #[.int .u64 0] 22)) (g0.cell hcell (by simp)) (hb.grown g0) (by omega))
  clear hcell hb
  refine (callsIn_wide (n := 3)).1 ?_
  refine callsIn_of_wp_marks Tryd.func55 rfl trivial ?_ rfl
  simp only [Tryd.ntmps55, List.size_toArray, List.length_cons, List.length_nil, Nat.reduceAdd, Nat.reduceSub, Array.replicate_succ, Array.replicate_zero, List.push_toArray, List.append_toArray, List.nil_append, List.cons_append]
  gi_wp2_with (first
    | (refine ⟨trivial, ?_⟩; gi_at_call 54; refine (callsIn_wide.2 hj.out).mono ?_; rintro e w1 ⟨u, rfl, hu, g1⟩; obtain ⟨ua, uc, rfl, u1, u2, u3⟩ := hu)
    | (refine ⟨trivial, ?_⟩; gi_at_call 70; refine (pairs_in _ _ trivial rfl _ _ _ _).mono ?_; rintro e w2 ⟨rfl, rfl⟩))
  have hT1 : w1.heap[w.heap.size]? = some (.cells #[.int .u64 0] 22 (0, 0)) := gr_keep g1 (heap_alloc_new w _) (by simp)
  have hlt1 := lt_of_block hT1
  have hB1 : Below w.heap.size w w1 := gr_below (gr_trans g0 g1)
  obtain ⟨W0, hW0⟩ : ∃ W0, w1.alloc (.cells #[.slice ua l.length uc] 45) = W0 := ⟨_, rfl⟩
  have gW0 : w1.grownBy W0 none := by rw [← hW0]; exact World.grownBy_alloc w1 _ none
  have hsz : W0.heap.size = w1.heap.size + 1 := by rw [← hW0]; simp
  have hT0 := gr_keep gW0 hT1 (by simp)
  have hBox : W0.heap[w1.heap.size]? = some (.cells #[.slice ua l.length uc] 45 (0, 0)) := by rw [← hW0]; exact heap_alloc_new w1 _
  have hu0 : Bytes W0 (.slice ua l.length uc) l := (show Bytes w1 (.slice ua l.length uc) l from ⟨ua, uc, rfl, u1, u2, u3⟩).grown gW0
  have hB0 : Below w.heap.size w W0 := gr_below (gr_trans (gr_trans g0 g1) gW0)
  have hfar : ∀ b o n c, (Value.slice ua l.length uc) = .slice (some ⟨b, o, none⟩) n c → 0 < n → b < W0.heap.size ∧ b ≠ w.heap.size := fun b o n c e hn => by
    simp only [Value.slice.injEq] at e
    obtain ⟨rfl, rfl, rfl⟩ := e
    obtain ⟨b', o', e2, hc⟩ := hu0.cellAt hn
    simp only [Option.some.injEq, Addr.mk.injEq, and_true] at e2
    obtain ⟨rfl, rfl⟩ := e2
    have h0 := hc 0 hn
    refine ⟨World.block_lt_of_cell? _ _ h0, fun e => ?_⟩
    subst e
    rw [cell_of_block hT0] at h0
    cases o with
    | zero => simp at h0
    | succ o => simp at h0
  clear u3
  rw [hW0]
  refine wpIn_rangeFunc_ownF rfl (by omega) (gf := 83) (lb := #[.pointer (some ⟨w1.heap.size, 0, none⟩)]) rfl trivial (enters_of Tryd.func83 (by kernel_rfl) rfl)
    (pairs_stops _ _ trivial rfl (by omega) w1.heap.size W0.heap.size w.heap.size (.slice ua l.length uc) l hl W0 (Nat.le_refl _) (by omega) (by omega) ((cell_of_block hBox 0).trans rfl) hu0 hfar) KB.trans (kb_b (Nat.le_refl _)) (Below.refl _ _) (fun _ => rfl)
    (fun pre W => (W.cell? ⟨w.heap.size, 0, none⟩ = some (.int .u64 (sumI pre % M64)) ∧ W.frozen? ⟨w.heap.size, 0, none⟩ = false) ∧ Below w.heap.size w W)
    (fun _ _ _ => False)
    (OwnFrom.and (Own.from (fun s A B row hs hg hr => ⟨cell_kept hs.1 hg hr, (frozen_kept hs.1 hg hr).trans hs.2⟩) _) (ownFrom_below (Nat.le_refl _) (by omega)))
    (fun _ _ _ _ _ hs _ _ => hs)
    ⟨⟨(cell_of_block hT0 0).trans rfl, free_of_block hT0 0⟩, hB0⟩
    (fun x => { tmps := #[.slice (some ⟨b, o, none⟩) 1 c, undef, .int .u16 0, .pointer (some ⟨w.heap.size, 0, none⟩), undef, .int .u16 x.2, .slice (some ⟨b, o, none⟩) 1 c, .slice ua l.length uc, .func (.func 83) #[] #[.pointer (some ⟨w1.heap.size, 0, none⟩)], .int .i64 (x.1 : Int), .int .u16 x.2, undef, undef, undef, undef, undef, undef, undef], defers := [] }) ?assign ?body ?done ?stop
  case assign =>
    intro l x W K hK
    gi_wp2
    exact hK
  case body =>
    rintro l pre x W ⟨⟨hc, hf⟩, hB⟩ _
    gi_wp2
    exact ⟨KeepsOthers.setCell _ _ _, fun i _ ht => Below.heap_setCell _ _ _ _ ht, ⟨by rw [sumI_snoc, ← acc_step]; exact World.cell?_setCell_same' _ _ _ (by rw [hc]; rfl), by rw [World.frozen?_setCell]; exact hf⟩, hB.setCell (p := ⟨w.heap.size, 0, none⟩) (Nat.le_refl _) _⟩
  case done =>
    rintro D ys W hD rfl ⟨⟨hc, _⟩, hB⟩ hK
    have htb : tot (prL l) ≤ 65535 * (prL l).length := tot_bd _ (prL_bd l)
    have hpl := prL_len l
    have htt : tot (prL l) < 1099511627776 := by omega
    rw [sumI_all, show ((tot (prL l) : Nat) : Int) % M64 = (tot (prL l) : Nat) by unfold M64; omega] at hc
    have hs : sum16 l = 65535 - rnd (tot (prL l)) := rfl
    have hr := rnd_le (tot (prL l))
    have hfo := hid (fold_any (tot (prL l)) htt W)
    generalize tot (prL l) = t at *
    clear htb hpl htt
    gi_wp2_with (refine ⟨trivial, ?_⟩; gi_at_call 71; refine (callsIn_wide.2 hfo.out).mono ?_; rintro e w2 ⟨rfl, rfl⟩)
    refine ⟨by simp, .inl ⟨_, _, rfl, run_takeDeferred hK, ?_⟩⟩
    exact ⟨_, results_tmp rfl _ _ _, by
      show Ending.returned (.int .u16 (bits .xor .u16 IntKind.u16.max (rnd t : Nat))) = _
      rw [u16_not _ hr], gr_of_below (hB.trans (belowK_b (w := w) (Nat.le_refl _) W D _ _ (by omega) hK rfl rfl))⟩
  case stop =>
    rintro D c pre W _ _ h _
    exact h.elim
end Go.Proofs.YtjpkmbgpkdomnaaDoor
