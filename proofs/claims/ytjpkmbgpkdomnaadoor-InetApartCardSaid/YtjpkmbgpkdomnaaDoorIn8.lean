/- The walk of InetTexts. -/
import Derived.Test.YtjpkmbgpkdomnaaDoorIn7
namespace Go.Proofs.YtjpkmbgpkdomnaaDoor
open Go.RowKit

def ex1 : List UInt8 := [49, 57, 50, 46, 49, 54, 56, 46, 48, 49, 46, 49]
def ex2 : List UInt8 := [49, 57, 50, 46, 49, 54, 56, 46, 49, 46, 49]
theorem ex1_no : parseB ⟨ex1.toArray⟩ = (0, false) := by rw [parse_same]; decide
theorem ex2_is : textL 3232235777 = ex2 := (text_prs ex2 3232235777 (by decide)).2.symm
abbrev MaxCell (m : Int) (w : World) : Prop := w.cell? ⟨1, 0, none⟩ = some (.int .i64 m)
set_option maxHeartbeats 1000000 in
theorem ispeaks_true (m : Int) (w : World) (hm : Hid (MaxCell m w)) (h10 : Hid (P10 w)) :
    Calls Tryd.prog 23 #[] w fun e w' => e = .returned (.bool true) ∧ w.grownBy w' none := by
  have hp := parse_in ⟨ex1.toArray⟩ m w hm.out h10.out
  rw [ex1_no] at hp
  have ht := fun w h => text_in 3232235777 (by omega) w h
  rw [ex2_is] at ht
  have Hp := hid hp
  have Ht := hid ht
  clear hp ht
  go_enter Tryd.func23, Tryd.ntmps23
  go_wp2_with fail
  refine Hp.out.mono ?_
  rintro e w1 ⟨rfl, g1⟩
  go_wp2_with fail
  refine (Ht.out w1 (h10.out.grown g1)).mono ?_
  rintro e w2 ⟨rfl, g2⟩
  unfold str
  go_wp2
  go_ret
  exact ⟨rfl, gr_trans g1 g2⟩
set_option maxHeartbeats 2000000 in
theorem inet_texts_walk (a : Nat) (ha : a < 4294967296) (s : ByteArray) (m : Int) (w : World) (hm : Hid (MaxCell m w)) (h10 : Hid (P10 w)) :
    Calls Tryd.prog 4 #[.int .u32 a, .string s] w fun e w' => e = .returned (.bool true) ∧ w.grownBy w' none := by
  have hsp := hid (ispeaks_true m w hm h10)
  by_cases h1 : 1000 < s.size
  · clear ha
    go_enter Tryd.func4, Tryd.ntmps4
    go_wp2_with fail
    refine hsp.out.mono ?_
    rintro e w1 ⟨rfl, g1⟩
    go_wp2
    go_ret
    exact ⟨rfl, g1⟩
  have hp := hid (fun W h k => parse_in s m W h k)
  have hr := hid (fun W => rparse_in s W (by omega))
  have ht := hid (fun W k => text_in a ha W k)
  have hrt := hid (fun W => rtext_in a ha W)
  have hb := fun W h k => parse_in ⟨(textL a).toArray⟩ m W h k
  rw [parse_same, show (ByteArray.mk (textL a).toArray).data.toList = textL a from rfl, prs_text a ha] at hb
  rw [parse_same] at hp
  have Hb := hid hb
  generalize prsR s.data.toList = r at *
  obtain ⟨x, ok⟩ := r
  simp only [] at hp hr
  generalize textL a = l at *
  have h2 : s.size ≤ 1000 := by omega
  clear hb ha h1
  go_enter Tryd.func4, Tryd.ntmps4
  go_wp2_with fail
  refine hsp.out.mono ?_
  rintro e w1 ⟨rfl, g1⟩
  go_wp2_with fail
  refine (hp.out w1 (g1.cell hm.out (by simp)) (h10.out.grown g1)).mono ?_
  rintro e w2 ⟨rfl, g2⟩
  have G2 := gr_trans g1 g2
  clear g1 g2
  go_wp2_with fail
  refine (hr.out w2).mono ?_
  rintro e w3 ⟨rfl, rfl⟩
  go_wp2_with fail
  refine (ht.out w2 (h10.out.grown G2)).mono ?_
  rintro e w3 ⟨rfl, g3⟩
  have G3 := gr_trans G2 g3
  clear G2 g3
  unfold str
  go_wp2_with fail
  refine (Hb.out w3 (G3.cell hm.out (by simp)) (h10.out.grown G3)).mono ?_
  rintro e w4 ⟨rfl, g4⟩
  have G4 := gr_trans G3 g4
  clear G3 g4
  go_wp2_with fail
  refine (ht.out w4 (h10.out.grown G4)).mono ?_
  rintro e w5 ⟨rfl, g5⟩
  unfold str
  go_wp2_with fail
  refine (hrt.out w5).mono ?_
  rintro e w6 ⟨rfl, g6⟩
  unfold str
  go_wp2
  go_ret
  exact ⟨rfl, gr_trans (gr_trans G4 g5) g6⟩
end Go.Proofs.YtjpkmbgpkdomnaaDoor
