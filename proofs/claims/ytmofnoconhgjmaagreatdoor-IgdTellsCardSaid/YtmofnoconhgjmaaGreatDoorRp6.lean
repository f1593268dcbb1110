/- strings.NewReplacer(..).Replace(..); xml.Escape. -/
import Derived.Test.YtmofnoconhgjmaaGreatDoorRp5
namespace Go.Proofs.YtmofnoconhgjmaaGreatDoor
open Go.RowKit
set_option linter.unusedVariables false
set_option linter.unusedSimpArgs false

set_option maxRecDepth 100000 in
set_option maxHeartbeats 4000000 in
/-- A replacer that has not been asked yet. -/
theorem rp_replace (w : World) (b g o c : Nat) (prs : Prs) (s : List UInt8) (hb : RpB w b 0 0 .nilIface (.slice (some ⟨g, o, none⟩) (rpoL prs).length c)) (hs : SrAt w g o (rpoL prs)) (hgb : g ≠ b) (h2 : 2 ≤ prs.length) (hm : prs.length ≤ 100) (hl : ∀ x ∈ prs, 2 ≤ x.2.length ∧ x.2.length ≤ 1000) (hnd : (prs.map (·.1)).Nodup) (hsl : s.length ≤ 100000) :
    Calls Tryz.prog 126 #[.pointer (some ⟨b, 0, none⟩), .string ⟨s.toArray⟩] w fun e w' => e = .returned (.string ⟨(repL prs s).toArray⟩) ∧ w.grownBy w' (some b) := by
  have hmf : ∀ (fn : Fn) (first cap : Array Value) (w : World), (Instr.makeFunc fn first cap).run Tryz.prog w = .ok (.func fn first cap) w := fun _ _ _ _ => rfl
  have DO := hid (do_first w b g o c prs hb hs hgb h2 hm (fun x hx => ⟨by have := hl x hx; omega, (hl x hx).2⟩) hnd)
  have HL := hid hl
  have HND := hid hnd
  have HM := hid hm
  have HSL := hid hsl
  have hlt := lt_of_block hb
  have hc0 := cell_of_block hb 0
  clear hb hs hl hnd
  go_enter Tryz.func126, Tryz.ntmps126
  go_wp2_with fail
  refine DO.out.mono ?_
  rintro e w1 ⟨rfl, g1, rb, base, hB, hne, cs, tv, hr1, hr2, hr3, hr4⟩
  have BSR := hid (bs_replace w1 rb base prs s cs tv hr1 hr2 hr3 hr4 HND.out HL.out HM.out HSL.out)
  obtain ⟨k0, k1, k3, k4⟩ := RpB.cells hB
  have G1 := hid g1
  clear DO g1 hr1 hr2 hr3 hr4 hB hc0
  go_wp2_with fail
  refine BSR.out.mono ?_
  rintro e w2 ⟨rfl, g2⟩
  have G2 := hid (gr_trans G1.out (gr_none g2))
  clear BSR g2
  go_wp2
  go_ret
  exact ⟨rfl, G2.out⟩
def rpoV (prs : Prs) : List Value := (rpoL prs).map fun x => .string ⟨x.toArray⟩
def NewPost (w : World) (prs : Prs) (e : Ending) (w' : World) : Prop := ∃ b g c, e = .returned (.pointer (some ⟨b, 0, none⟩)) ∧ RpB w' b 0 0 .nilIface (.slice (some ⟨g, 0, none⟩) (rpoL prs).length c) ∧ SrAt w' g 0 (rpoL prs) ∧ g ≠ b ∧ w.grownBy w' none ∧ w.heap.size ≤ b
set_option maxRecDepth 100000 in
set_option maxHeartbeats 4000000 in
theorem new_rep (w : World) (a : Option Addr) (c : Nat) (prs : Prs) (hs : SrcAt w a (rpoV prs)) (h2 : 2 ≤ prs.length) (hm : prs.length ≤ 100) :
    Calls Tryz.prog 125 #[.slice a (rpoL prs).length c] w (NewPost w prs) := by
  have HN0 := hid (rpoL_len prs)
  have HS := hid hs
  obtain ⟨N, hN⟩ : ∃ N, N = (rpoL prs).length := ⟨_, rfl⟩
  have HVL := hid (show (rpoV prs).length = N * 1 by unfold rpoV; rw [List.length_map, hN, Nat.mul_one])
  rw [← hN] at HN0
  have HN := hid hN
  rw [← hN]
  have hr : ((N : Int) % 2 == 1) = false := by have := HN0.out; simp; omega
  have HB := hid (show 4 ≤ N ∧ N ≤ 200 by have := HN0.out; omega)
  have hN1 : N ≤ 200 := HB.out.2
  obtain ⟨i1, hi, hz0, hz1, hz2⟩ := info_parts infoStr
  have HI1 := hid (And.intro hi (And.intro hz0 (And.intro hz1 hz2)))
  have HONE := hid (show ∀ u ∈ rpoV prs, u.oneCell' = true from fun u hu => by obtain ⟨x, -, rfl⟩ := List.mem_map.1 hu; rfl)
  clear hs hN h2 hm hi hz0 hz1 hz2
  go_enter Tryz.func125, Tryz.ntmps125
  go_wp2_with (at_builtin; refine wpl_appG rfl _ _ 41 rfl (base := w.heap.size) (size := 1) (bytes := 16) (n := 0) (cs := []) Tryz.underlying41 HI1.out.1 HI1.out.2.1 HI1.out.2.2.1 HI1.out.2.2.2 rfl (by decide) rfl (World.ownsRow_nil w w.heap.size _ _) (m := N) rfl HVL.out HS.out HONE.out (by have := HB.out; unfold maxLen; omega) (by have := HB.out; omega) (Nat.le_refl _) ?_; intro v3 w3 hown3 g3 hat3; have HOW3 := hid hown3; obtain ⟨ta3, tc3, rfl⟩ := own_shapeG hown3; have HG3 := hid g3; clear hown3 g3 hat3)
  have HG4 := hid (show w.grownBy w3 none from HG3.out)
  rw [Nat.zero_add, List.nil_append] at HOW3
  have hw := HOW3.out
  rcases hw.2 with ⟨-, h0⟩ | ⟨g, cap, cur, e, hgb, hh, -⟩
  · exact absurd h0 (by have := HB.out; omega)
  · simp only [Value.slice.injEq] at e
    obtain ⟨rfl, -, rfl⟩ := e
    go_ret
    refine ⟨w3.heap.size, g, tc3, rfl, ?_, ?_, by have := lt_of_block hh; omega, gr_alloc HG4.out _, HG4.out.size⟩
    · rw [← HN.out]
      exact heap_alloc_new w3 _
    · intro j x hj
      have h1 := hw.cells (g := g) rfl j (.string ⟨x.toArray⟩) (by unfold rpoV; rw [List.getElem?_map, hj]; rfl)
      rw [Go.WideShapes.add_plain] at h1
      exact (gr_alloc (gr_refl w3 none) _).cell h1 (by simp)
/-- How a text stands in an element. -/
def escP : Prs := [(38, [38, 97, 109, 112, 59]), (60, [38, 108, 116, 59]), (62, [38, 103, 116, 59]), (34, [38, 113, 117, 111, 116, 59])]
set_option maxRecDepth 100000 in
set_option maxHeartbeats 4000000 in
theorem escape_x (w : World) (s : List UInt8) (hs : s.length ≤ 100000) : Calls Tryz.prog 77 #[.string ⟨s.toArray⟩] w fun e w' => e = .returned (.string ⟨(repL escP s).toArray⟩) ∧ w.grownBy w' none := by
  have G1 := hid (gr_alloc (gr_refl w none) (.cells #[.string ⟨#[38]⟩, .string ⟨#[38, 97, 109, 112, 59]⟩, .string ⟨#[60]⟩, .string ⟨#[38, 108, 116, 59]⟩, .string ⟨#[62]⟩, .string ⟨#[38, 103, 116, 59]⟩, .string ⟨#[34]⟩, .string ⟨#[38, 113, 117, 111, 116, 59]⟩] 9))
  have N1 := heap_alloc_new w (.cells #[.string ⟨#[38]⟩, .string ⟨#[38, 97, 109, 112, 59]⟩, .string ⟨#[60]⟩, .string ⟨#[38, 108, 116, 59]⟩, .string ⟨#[62]⟩, .string ⟨#[38, 103, 116, 59]⟩, .string ⟨#[34]⟩, .string ⟨#[38, 113, 117, 111, 116, 59]⟩] 9)
  have NR := hid (new_rep _ (some ⟨w.heap.size, 0, none⟩) 8 escP (.inr ⟨_, rfl, fun j u hj => by
    rw [Go.WideShapes.add_plain, Nat.zero_add, cell_of_block N1 j, ← hj]
    simp [rpoV, rpoL, escP]⟩) (by decide) (by decide))
  rw [show (rpoL escP).length = 8 from rfl] at NR
  have RR := hid (fun (W : World) (b g c : Nat) (h1 : RpB W b 0 0 .nilIface (.slice (some ⟨g, 0, none⟩) (rpoL escP).length c)) (h2 : SrAt W g 0 (rpoL escP)) (h3 : g ≠ b) => rp_replace W b g 0 c escP s h1 h2 h3 (by decide) (by decide) (by decide) (by decide) hs)
  clear N1 hs
  go_enter Tryz.func77, Tryz.ntmps77
  go_wp2_with fail
  refine NR.out.mono ?_
  rintro e w2 ⟨b, g, c, rfl, h1, h2, h3, g2, hlo⟩
  have CALL := hid (RR.out w2 b g c h1 h2 h3)
  have G2 := hid (gr_trans G1.out g2)
  have HLO := hid (Nat.le_trans G1.out.size hlo)
  clear h1 h2 h3 g2 hlo RR NR
  go_wp2_with fail
  refine CALL.out.mono ?_
  rintro e w3 ⟨rfl, g3⟩
  have G3 := hid (gr_new G2.out g3 HLO.out)
  clear g3 CALL
  go_wp2
  go_ret
  exact ⟨rfl, G3.out⟩
end Go.Proofs.YtmofnoconhgjmaaGreatDoor
