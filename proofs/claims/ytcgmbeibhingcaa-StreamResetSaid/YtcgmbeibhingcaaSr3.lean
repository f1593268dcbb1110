/- The walk of StreamReset. -/
import Derived.Test.YtcgmbeibhingcaaSr2
namespace Go.Proofs.Ytcgmbeibhingcaa
open Go.RowKit

theorem phase_at (b : Nat) (c : Cn) (w : World) (q : Int) (h : ConnAt w b c) (hq : c.phase = q) :
    Calls Try.prog 10 #[.pointer (some ⟨b, 0, none⟩)] w fun e w' => e = .returned (.int .i64 q) ∧ w = w' := hq ▸ phase_any b c w h
structure SrInv (w wr : World) (b : Nat) : Prop where
  conn : ∃ c : Cn, ConnAt wr b c ∧ c.phase = 4 ∧ c.unread = .slice none 0 0
  gr : w.grownBy wr none
  hb : w.heap.size ≤ b
set_option maxHeartbeats 4000000 in
theorem reset_walk (own sq : Int) (a : Option Addr) (len cap : Nat) (ops : Nat → OpD) (w : World) (hs : ScriptAt w a len ops) (hlen : len ≤ 9223372036854775807) :
    Calls Try.prog 5 #[.int .u32 own, .int .u32 sq, .slice a len cap] w fun e w' => e = .returned (.bool true) ∧ w.grownBy w' none := by
  go_enter Try.func5, Try.ntmps5
  go_wp2_with fail
  refine (speaks_true w).mono ?_
  rintro e w1 ⟨rfl, g1⟩
  go_wp2_with fail
  have hs1 : ScriptAt w1 a len ops := by
    rcases hs with h0 | ⟨b, o, rfl, h⟩
    · exact .inl h0
    · exact .inr ⟨b, o, rfl, fun i hi => (h i hi).grown g1⟩
  refine (great_any w1 a len cap ops hs1).mono ?_
  rintro e w2 ⟨r, rfl, g2⟩
  cases r
  · go_wp2_with fail
    refine (accept_any w2 5 80 99 0 2 100 0 own 0 none none 0 0 0 0 (by omega) (by omega)).mono ?_
    rintro e w3 ⟨b, g, rfl, hg, hgs, hbs, h3, g3⟩
    go_wp2_with fail
    refine (take_rst b _ _ _ _ _ _ _ _ _ _ _ _ _ _ _ h3 rfl).mono ?_
    rintro e w4 ⟨rfl, h4, g4⟩
    obtain ⟨c3, ec3⟩ : ∃ c3, (accCn 80 5 own 99 100).set 0 = c3 := ⟨_, rfl⟩
    have e100 : IntKind.u32.wrap (c3.other + c3.seen) = 100 := by subst ec3; show IntKind.u32.wrap (99 + 1) = 100; decide
    have hp3 : c3.phase = 1 := by subst ec3; rfl
    have hu3 : c3.unread = .slice none 0 0 := by subst ec3; rfl
    rw [ec3, e100] at h4
    clear ec3 h3 hg
    obtain ⟨c4, hc4, hp4, h4⟩ : ∃ c4, (if sq = 100 then c3.gone else c3) = c4 ∧ c4.phase = (if sq = 100 then 4 else 1) ∧ ConnAt w4 b c4 := ⟨_, rfl, by split <;> first | rfl | exact hp3, h4⟩
    have hu4 : c4.unread = .slice none 0 0 := by subst hc4; split <;> exact hu3
    have e4 : IntKind.u32.wrap (c4.other + c4.seen) = 100 := by subst hc4; split <;> exact e100
    clear hc4 e100 hp3 hu3
    have gw4 : w.grownBy w4 none := gr_new (gr_trans (gr_trans g1 g2) g3) g4 (by have := g1.size; have := g2.size; omega)
    have hsz : w.heap.size ≤ b := by have := g1.size; have := g2.size; omega
    clear g1 g2 g3 g4 hgs hbs hs1
    -- what the second RST leaves
    have K5 : Hid (Calls Try.prog 13 #[.pointer (some ⟨b, 0, none⟩), .agg #[.int .u16 5, .int .u16 80, .int .u32 100, .int .u32 0, .int .u8 4, .int .u16 0, .int .u16 0, .slice none 0 0, .slice none 0 0], .int .u64 1] w4 fun e w' =>
        e = .returned (.slice none 0 0) ∧ SrInv w w' b) := by
      by_cases hsq : sq = 100
      · rw [if_pos hsq] at hp4
        refine (take_over b c4 w4 5 80 100 0 4 0 0 1 none none 0 0 0 0 h4 (by simp [overB, hp4])).mono ?_
        rintro e w' ⟨rfl, g⟩
        exact ⟨rfl, ⟨c4, h4.keep g (by simp), hp4, hu4⟩, gr_trans gw4 g, hsz⟩
      · rw [if_neg hsq] at hp4
        refine (take_rst b c4 w4 5 80 100 0 0 0 1 none none 0 0 0 0 h4 hp4).mono ?_
        rintro e w' ⟨rfl, h5, g⟩
        rw [e4, if_pos rfl] at h5
        exact ⟨rfl, ⟨_, h5, rfl, hu4⟩, gr_new gw4 g hsz, hsz⟩
    obtain ⟨pv, hpv, hqv⟩ : ∃ pv : Int, c4.phase = pv ∧ ((pv == 4) == (sq == 100)) = true := by
      refine ⟨_, rfl, ?_⟩
      rw [hp4]
      by_cases hsq : sq = 100
      · rw [if_pos hsq, hsq]; rfl
      · rw [if_neg hsq, (by simpa using hsq : (sq == 100) = false)]; rfl
    clear hp4
    go_wp2_with fail
    refine (phase_at b _ _ pv h4 hpv).mono ?_
    rintro e w5 ⟨rfl, rfl⟩
    clear hpv
    go_wp2_with fail
    refine K5.out.mono ?_
    rintro e w5 ⟨rfl, h5⟩
    clear h4 gw4
    go_wp2_with fail
    go_loopw [44] (fun vk wr => ∃ k : Nat, vk = .int .i64 k ∧ k ≤ len ∧ SrInv w wr b) (fun vk _ => len - (intOf vk).toNat)
    case atStart => exact ⟨0, rfl, Nat.zero_le _, h5⟩
    case round =>
      clear h5
      obtain ⟨k, rfl, hk, hinv⟩ := hrel
      obtain ⟨c, hc, hcp, hcu⟩ := hinv.conn
      have gw := hinv.gr
      have hinvb := hinv.hb
      have hov : overB c = true := by simp [overB, hcp]
      have hph : (c.phase != 2) = true := by simp [hcp]
      clear hinv
      by_cases hkl : k < len
      · rcases hs with h0 | ⟨bb, o, rfl, hops⟩
        · omega
        have ho := (hops k hkl).grown gw
        have c0 := ho.c0
        have c1 := ho.c1
        have c2 := ho.c2
        have c3 := ho.c3
        have c4 := ho.c4
        have c5 := ho.c5
        have c6 := ho.c6
        generalize ops k = d at *
        clear ho hops
        have hcA : ∀ o : Obj, ConnAt (wr.alloc o) b c := fun o => hc.keep (World.grownBy_alloc wr o none) (by simp)
        have HcA := hid hcA
        clear hcA
        go_wp2_with fail
        refine (take_over b c _ _ _ _ _ _ _ _ _ _ _ _ _ _ _ (HcA.out _) hov).mono ?_
        rintro e w6 ⟨rfl, g6⟩
        have h6 := (HcA.out _).keep g6 (by simp)
        go_wp2_with fail
        refine (tick_idle b c _ _ h6 (.inl hov)).mono ?_
        rintro e w7 ⟨rfl, rfl⟩
        have d6 : ∀ o : Nat, w6.cell? ⟨wr.heap.size, o, none⟩ = (#[.int .i64 d.kind, .int .u64 d.tick, .int .u8 d.flags, .int .i32 d.seq, .int .i32 d.ack, .int .u16 d.window, .slice d.da d.dn d.dc] : Array Value)[o]? := fun o => cell_of_block (t := 47) (gr_keep g6 (heap_alloc_new wr _) (by simp)) o
        have d66 := d6 6
        clear d6
        go_wp2_with fail
        refine (send_over b c _ _ _ _ h6 hov).mono ?_
        rintro e w7 ⟨rfl, rfl⟩
        go_wp2_with fail
        refine (flush_not b c _ _ h6 hph).mono ?_
        rintro e w7 ⟨rfl, g7⟩
        have h7 := h6.keep g7 (by simp)
        have hbb := hinvb
        go_wp2_with fail
        go_roundw
        case rel => exact ⟨k + 1, by go_num, by omega, ⟨c, h7, hcp, hcu⟩, gr_trans (gr_trans (gr_alloc gw _) g6) g7, hbb⟩
        case measure => simp [intOf]; omega
      · go_wp2_with fail
        refine (phase_at b _ _ 4 hc hcp).mono ?_
        rintro e w6 ⟨rfl, rfl⟩
        go_wp2_with fail
        refine (read_nil b _ _ hc hcu).mono ?_
        rintro e w6 ⟨rfl, g6⟩
        go_wp2
        go_ret
        exact ⟨rfl, gr_new gw g6 hinvb⟩
  · go_wp2
    go_ret
    exact ⟨rfl, gr_trans g1 g2⟩
end Go.Proofs.Ytcgmbeibhingcaa
