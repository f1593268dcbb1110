/- strings.Replacer: sync.Once lays what build gives; NewReplacer. -/
import Derived.Test.YtmofnoconhgjmaaGreatDoorRp2
namespace Go.Proofs.YtmofnoconhgjmaaGreatDoor
open Go.RowKit
set_option linter.unusedVariables false
set_option linter.unusedSimpArgs false

theorem RpB.cells {w : World} {b : Nat} {d st : Int} {r o : Value} (h : RpB w b d st r o) : w.cell? ⟨b, 0, none⟩ = some (.int .u32 d) ∧ w.cell? ⟨b, 1, none⟩ = some (.int .i32 st) ∧ w.cell? ⟨b, 3, none⟩ = some r ∧ w.cell? ⟨b, 4, none⟩ = some o :=
  ⟨cell_of_block h 0, cell_of_block h 1, cell_of_block h 3, cell_of_block h 4⟩
/-- What a replacer has when it is laid. -/
def RpOk (w : World) (b : Nat) (prs : Prs) : Prop := ∃ rb base, RpB w b 1 0 (.iface 359 (.pointer (some ⟨rb, 0, none⟩))) (.slice none 0 0) ∧ rb ≠ b ∧ ∃ cs tv, w.heap[rb]? = some (.cells cs 358 (0, 0)) ∧ BsC w cs prs ∧ cs[256]? = some tv ∧ w.ownsRow base 9 1 tv prs.length (keyV prs)
def OnceMid (w : World) (b : Nat) (prs : Prs) (st : Int) (e : Ending) (w' : World) : Prop := e = .returned (.tuple #[]) ∧ w.grownBy w' (some b) ∧ ∃ rb, RpB w' b 0 st (.iface 359 (.pointer (some ⟨rb, 0, none⟩))) (.slice none 0 0) ∧ w.heap.size ≤ rb ∧ ∃ cs tv, w'.heap[rb]? = some (.cells cs 358 (0, 0)) ∧ BsC w' cs prs ∧ cs[256]? = some tv ∧ w'.ownsRow w.heap.size 9 1 tv prs.length (keyV prs)
/-- What is told of a replacer's rows is kept by a write to a block of another type. -/
theorem bsc_keep {w w' : World} {b : Nat} {T : TypeId} {cs' cs : Array Value} {r : Nat × Nat} {prs : Prs} (h : BsC w cs prs) (hb : w.heap[b]? = some (.cells cs' T r)) (g : w.grownBy w' (some b)) (hT : 5 ≠ T) : BsC w' cs prs := by
  refine ⟨h.1, fun c => ?_⟩
  rcases h.2 c with h1 | ⟨y, hy, e, g', cap, h2, hr⟩
  · exact .inl h1
  · exact .inr ⟨y, hy, e, g', cap, h2, row8_ne hr hb g hT⟩
theorem own_ne {w w' : World} {b base size n : Nat} {e T : TypeId} {v : Value} {xs : List Value} {cs' : Array Value} {r : Nat × Nat} (h : w.ownsRow base e size v n xs) (hb : w.heap[b]? = some (.cells cs' T r)) (g : w.grownBy w' (some b)) (hT : e ≠ T) : w'.ownsRow base e size v n xs := by
  refine ⟨h.1, ?_⟩
  rcases h.2 with h0 | ⟨k, cap, cur, rfl, hk, hh, r'⟩
  · exact .inl h0
  · refine .inr ⟨k, cap, cur, rfl, hk, gr_keep g hh (fun e' => ?_), r'⟩
    have : k = b := by simpa using e'
    subst this
    rw [hh] at hb
    simp only [Option.some.injEq, Obj.cells.injEq] at hb
    exact hT hb.2.1
theorem blk_keep {w w' : World} {b k : Nat} {cs' cs : Array Value} {T T' : TypeId} {r r' : Nat × Nat} (h : w.heap[k]? = some (.cells cs T' r')) (hb : w.heap[b]? = some (.cells cs' T r)) (g : w.grownBy w' (some b)) (hT : T' ≠ T) : w'.heap[k]? = some (.cells cs T' r') := by
  refine gr_keep g h (fun e' => ?_)
  have : k = b := by simpa using e'
  subst this
  rw [h] at hb
  simp only [Option.some.injEq, Obj.cells.injEq] at hb
  exact hT hb.2.1
set_option maxRecDepth 100000 in
set_option maxHeartbeats 4000000 in
theorem build_once (w : World) (b g o c : Nat) (st : Int) (prs : Prs) (hb : RpB w b 0 st .nilIface (.slice (some ⟨g, o, none⟩) (rpoL prs).length c)) (hs : SrAt w g o (rpoL prs)) (h2 : 2 ≤ prs.length) (hm : prs.length ≤ 100) (hl : ∀ x ∈ prs, x.2.length ≠ 1 ∧ x.2.length ≤ 1000) (hnd : (prs.map (·.1)).Nodup) :
    Calls Tryz.prog 197 #[.pointer (some ⟨b, 0, none⟩)] w (OnceMid w b prs st) := by
  have HC := hid (build_x w b g o c 0 st prs hb hs h2 hm hl hnd)
  have HB := hid hb
  clear hs hl hnd hb
  go_enter Tryz.func197, Tryz.ntmps197
  go_wp2_with fail
  refine HC.out.mono ?_
  rintro e w1 ⟨rb, rfl, cs, tv, h1, hC, ht, hown, hne, hg, hlo⟩
  have HB1 := hid (gr_keep hg HB.out (by simp))
  obtain ⟨-, -, k3, k4⟩ := RpB.cells HB1.out
  have z3 := free_of_block HB1.out 3
  have z4 := free_of_block HB1.out 4
  have G1 := hid (gr_none (row := some b) hg)
  have F1 := hid (gr_set (o := 4) (v := .slice none 0 0) (gr_set (o := 3) (v := .iface 359 (.pointer (some ⟨rb, 0, none⟩))) (gr_refl w1 (some b))))
  have HB3 := hid (heap_set (o := 4) (v := .slice none 0 0) (heap_set (o := 3) (v := .iface 359 (.pointer (some ⟨rb, 0, none⟩))) HB1.out))
  have HX := hid (And.intro h1 (And.intro hC (And.intro ht hown)))
  have HLO := hid hlo
  clear hg h1 hC ht hown hne hlo
  go_wp2
  go_end0
  refine ⟨rfl, gr_trans G1.out F1.out, rb, HB3.out, HLO.out, cs, tv, blk_keep HX.out.1 HB1.out F1.out (by decide), bsc_keep HX.out.2.1 HB1.out F1.out (by decide), HX.out.2.2.1, own_ne HX.out.2.2.2 HB1.out F1.out (by decide)⟩
def OncePost (w : World) (b : Nat) (prs : Prs) (e : Ending) (w' : World) : Prop := e = .returned (.tuple #[]) ∧ w.grownBy w' (some b) ∧ RpOk w' b prs
/-- One more cell of the replacer's block is written. -/
theorem mid_ok {w w2 w3 : World} {b : Nat} {prs : Prs} {st : Int} {e : Ending} (h : OnceMid w b prs st e w2) (g : w2.grownBy w3 (some b)) (hB : ∀ r o, RpB w2 b 0 st r o → RpB w3 b 1 0 r o) : w.grownBy w3 (some b) ∧ RpOk w3 b prs := by
  obtain ⟨-, h1, rb, h2, h3, cs, tv, h4, h5, h6, h7⟩ := h
  have hne : rb ≠ b := by
    rintro rfl
    have := h2.symm.trans h4
    simp only [Option.some.injEq, Obj.cells.injEq] at this
    exact absurd this.2.1 (by decide)
  exact ⟨gr_trans h1 g, rb, w.heap.size, hB _ _ h2, hne, cs, tv, blk_keep h4 h2 g (by decide), bsc_keep h5 h2 g (by decide), h6, own_ne h7 h2 g (by decide)⟩
theorem load_zero (a : Addr) (w : World) (hc : w.cell? a = some (.int .u32 0)) : Calls Tryz.prog 259 #[.pointer (some a)] w fun e w' => e = .returned (.bool false) ∧ w = w' := by
  have hld := run_call_load (P := Tryz.prog) Tryz.func295 (by kernel_rfl) (by kernel_rfl) (by kernel_rfl) .u32 (by kernel_rfl) hc
  go_enter Tryz.func259, Tryz.ntmps259
  go_wp2
  go_ret
  exact ⟨rfl, rfl⟩
set_option maxRecDepth 100000 in
set_option maxHeartbeats 4000000 in
theorem slow_any (w : World) (b g o c : Nat) (prs : Prs) (hb : RpB w b 0 0 .nilIface (.slice (some ⟨g, o, none⟩) (rpoL prs).length c)) (hs : SrAt w g o (rpoL prs)) (hgb : g ≠ b) (h2 : 2 ≤ prs.length) (hm : prs.length ≤ 100) (hl : ∀ x ∈ prs, x.2.length ≠ 1 ∧ x.2.length ≤ 1000) (hnd : (prs.map (·.1)).Nodup) :
    Calls Tryz.prog 260 #[.pointer (some ⟨b, 0, none⟩), .func (.func 197) #[.pointer (some ⟨b, 0, none⟩)] #[]] w (OncePost w b prs) := by
  obtain ⟨k0, k1, k3, k4⟩ := RpB.cells hb
  have z0 := free_of_block hb 0
  have z1 := free_of_block hb 1
  have B1 : RpB (w.setCell ⟨b, 1, none⟩ (.int .i32 1)) b 0 1 .nilIface (.slice (some ⟨g, o, none⟩) (rpoL prs).length c) := heap_set (o := 1) hb
  have GW := hid (show w.grownBy (w.setCell ⟨b, 1, none⟩ (.int .i32 1)) (some b) from gr_set (gr_refl _ _))
  have CALL := hid (build_once _ b g o c 1 prs B1 (fun j s hj => by rw [World.cell?_setCell_other _ _ _ _ (by intro e; exact hgb (congrArg Addr.block e).symm)]; exact hs j s hj) h2 hm hl hnd)
  have LD := hid (load_zero ⟨b, 0, none⟩ _ (RpB.cells B1).1)
  have hnot : ∀ (x : Bool) (w : World), (Op.unary .not (.bool x)).run Tryz.prog w = .ok (.bool (!x)) w := fun _ _ => rfl
  have HB := hid hb
  clear hs hl hnd hb B1 k3 k4
  go_enter_defers Tryz.func260, Tryz.ntmps260
  go_wp2_with (go_at_call 296; refine (lock_free ⟨b, 1, none⟩ _ (by go_simp) (by go_simp)).mono ?_; rintro e w' ⟨rfl, rfl⟩)
  go_wp2_with fail
  refine LD.out.mono ?_
  rintro e w' ⟨rfl, rfl⟩
  go_wp2_with fail
  refine CALL.out.mono ?_
  rintro e w2 hmid
  have HM := hid hmid
  obtain ⟨rfl, -, rb, hB2, -⟩ := hmid
  obtain ⟨q0, q1, q3, q4⟩ := RpB.cells hB2
  have y0 := free_of_block hB2 0
  have y1 := free_of_block hB2 1
  clear LD CALL k0 k1 z0 z1
  go_wp2
  refine leaves_cons (f := 298) (args := #[.pointer (some ⟨b, 0, none⟩), .bool true]) (by simp) (by simp [go_sem]) ?_
  refine (store_deferred ⟨b, 0, none⟩ (.int .u32 0) .returning _ q0 y0).mono ?_
  rintro e u' w'' ⟨rfl, rfl, rfl⟩
  refine leaves_cons (f := 297) (args := #[.pointer (some ⟨b, 1, none⟩)]) (by simp [settle]) (by simp [go_sem]) ?_
  have B3 : RpB (w2.drew.setCell ⟨b, 0, none⟩ (.int .u32 1)) b 1 1 _ _ := heap_set (o := 0) (w := w2.drew) hB2
  refine (unlock_deferred ⟨b, 1, none⟩ _ _ (RpB.cells B3).2.1 (free_of_block B3 1)).mono ?_
  rintro e u' w'' ⟨rfl, rfl, rfl⟩
  have HF := mid_ok HM.out (gr_set (o := 1) (v := .int .i32 0) (gr_set (o := 0) (v := .int .u32 1) (gr_drew (gr_refl w2 (some b))))) (fun r o h => by
    have h1 : RpB (w2.drew.setCell ⟨b, 0, none⟩ (.int .u32 1)) b 1 1 r o := heap_set (o := 0) (w := w2.drew) h
    exact heap_set (o := 1) h1)
  have HF2 := hid (show OncePost w b prs (.returned (.tuple #[])) _ from ⟨rfl, gr_trans GW.out HF.1, HF.2⟩)
  simp [Leaves, settle, results, Tryz.results260]
  exact HF2.out
theorem do_first (w : World) (b g o c : Nat) (prs : Prs) (hb : RpB w b 0 0 .nilIface (.slice (some ⟨g, o, none⟩) (rpoL prs).length c)) (hs : SrAt w g o (rpoL prs)) (hgb : g ≠ b) (h2 : 2 ≤ prs.length) (hm : prs.length ≤ 100) (hl : ∀ x ∈ prs, x.2.length ≠ 1 ∧ x.2.length ≤ 1000) (hnd : (prs.map (·.1)).Nodup) :
    Calls Tryz.prog 196 #[.pointer (some ⟨b, 0, none⟩), .func (.func 197) #[.pointer (some ⟨b, 0, none⟩)] #[]] w (OncePost w b prs) := by
  have LD := hid (load_zero ⟨b, 0, none⟩ _ (RpB.cells hb).1)
  have SL := hid (slow_any w b g o c prs hb hs hgb h2 hm hl hnd)
  have hnot : ∀ (x : Bool) (w : World), (Op.unary .not (.bool x)).run Tryz.prog w = .ok (.bool (!x)) w := fun _ _ => rfl
  clear hb hs hgb hl hnd
  go_enter Tryz.func196, Tryz.ntmps196
  go_wp2_with fail
  refine LD.out.mono ?_
  rintro e w' ⟨rfl, rfl⟩
  go_wp2_with fail
  refine SL.out.mono ?_
  rintro e w2 hp
  have HP := hid hp
  obtain ⟨rfl, -⟩ := hp
  go_wp2
  go_end0
  exact HP.out
end Go.Proofs.YtmofnoconhgjmaaGreatDoor
