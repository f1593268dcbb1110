/- Texts of one proof, put together: Spa, Spb, Soap1, Spc, Spd. -/
import Derived.Test.YtmofnoconhgjmaaGreatDoorMU
import Derived.Test.YtmofnoconhgjmaaGreatDoorMV
import Derived.Test.YtmofnoconhgjmaaGreatDoorMR
import Derived.Test.YtmofnoconhgjmaaGreatDoorStrs
/- soap.Fault's closure. -/
namespace Go.Proofs.YtmofnoconhgjmaaGreatDoor
open Go.RowKit
set_option linter.unusedVariables false
set_option linter.unusedSimpArgs false

theorem gr_grow (w : World) (k : Nat) (os : Array Obj) : w.grownBy (Go.Sort.grow (w.drewN k) os) none := by
  refine ⟨rfl, rfl, rfl, ?_, fun i hi _ => ?_⟩
  · simp [Go.Sort.grow, World.drewN]
  · simp [Go.Sort.grow, World.drewN, Array.getElem?_append_left hi]
theorem itoa_p (n : Nat) (w : World) (hn : n ≤ 1000000) (h : P10 w) : Calls Tryz.prog 67 #[.int .i64 (n : Int)] w fun e w' => e = .returned (.string ⟨(Lib.itoa (n : Int)).toArray⟩) ∧ w.grownBy w' none := by
  refine (Tryz.strconv_Itoa (n : Int) (by omega) (by omega) w h).mono ?_
  rintro e w' ⟨rfl, k, os, rfl⟩
  exact ⟨rfl, gr_grow w k os⟩
theorem fo_cons {w : World} {X : Nat → Prop} {b o : Nat} {s n tx : Bs} {ats : List At} {kids next : Fo} {aa ka : Option Addr} {ac kc : Nat} (c0 : w.cell? ⟨b, o, none⟩ = some (.string ⟨s.toArray⟩)) (c1 : w.cell? ⟨b, o + 1, none⟩ = some (.string ⟨n.toArray⟩)) (c2 : w.cell? ⟨b, o + 2, none⟩ = some (.slice aa ats.length ac)) (c3 : w.cell? ⟨b, o + 3, none⟩ = some (.string ⟨tx.toArray⟩)) (c4 : w.cell? ⟨b, o + 4, none⟩ = some (.slice ka kids.len kc))
    (ha : AtsAt w X (.slice aa ats.length ac) ats) (hk : KidV w X (.slice ka kids.len kc) kids) (hn : FoAt w X next b (o + 5)) : FoAt w X (.cons s n ats tx kids next) b o := by
  obtain ⟨a', c', q', hk'⟩ := hk
  simp only [Value.slice.injEq] at q'
  obtain ⟨rfl, -, rfl⟩ := q'
  exact ⟨⟨c0, c1, c3⟩, ⟨_, c2, ha⟩, ⟨_, _, c4, hk'⟩, hn⟩
theorem ats_nil (w : World) (X : Nat → Prop) : AtsAt w X (.slice none 0 0) [] := ⟨none, 0, rfl, fun i hi => by simp at hi⟩
theorem kid_nil (w : World) (X : Nat → Prop) : KidV w X (.slice none 0 0) .nil := ⟨none, 0, rfl, fun hl => by simp [Fo.len] at hl⟩
theorem smE_fault {num words : Bs} (h1 : num.length ≤ 9000) (h2 : words.length ≤ 9000) : SmE (faultE num words) ∧ (faultE num words).cnt ≤ 200 := by
  refine ⟨⟨⟨by simp [faultE, Fo.len], by simp [faultE], by simp [faultE], by simp [faultE, nFault], by simp [faultE, sEnv], fun i hi => by simp [faultE] at hi⟩, ?_⟩, by simp [faultE, El.cnt, Fo.cnt]⟩
  simp [faultE, SmF, SmB, Fo.len, sCtl, h1, h2]
def obL (s n t : ByteArray) (kv : Value) : Obj := .cells #[.string s, .string n, .slice none 0 0, .string t, kv] 25
theorem obL_cells {w : World} {b : Nat} {s n t : ByteArray} {kv : Value} (h : w.heap[b]? = some (obL s n t kv)) : w.cell? ⟨b, 0, none⟩ = some (.string s) ∧ w.cell? ⟨b, 1, none⟩ = some (.string n) ∧ w.cell? ⟨b, 2, none⟩ = some (.slice none 0 0) ∧ w.cell? ⟨b, 3, none⟩ = some (.string t) ∧ w.cell? ⟨b, 4, none⟩ = some kv :=
  ⟨cell_of_block h 0, cell_of_block h 1, cell_of_block h 2, cell_of_block h 3, cell_of_block h 4⟩
theorem obL_set {w : World} {b : Nat} {s n t : ByteArray} {kv kv' : Value} (h : w.heap[b]? = some (obL s n t kv)) : (w.setCell ⟨b, 4, none⟩ kv').heap[b]? = some (obL s n t kv') := heap_set (o := 4) h
def obK2 (num words : ByteArray) : Obj := .cells #[.string ⟨#[117, 114, 110, 58, 115, 99, 104, 101, 109, 97, 115, 45, 117, 112, 110, 112, 45, 111, 114, 103, 58, 99, 111, 110, 116, 114, 111, 108, 45, 49, 45, 48]⟩, .string ⟨#[101, 114, 114, 111, 114, 67, 111, 100, 101]⟩, .slice none 0 0, .string num, .slice none 0 0, .string ⟨#[117, 114, 110, 58, 115, 99, 104, 101, 109, 97, 115, 45, 117, 112, 110, 112, 45, 111, 114, 103, 58, 99, 111, 110, 116, 114, 111, 108, 45, 49, 45, 48]⟩, .string ⟨#[101, 114, 114, 111, 114, 68, 101, 115, 99, 114, 105, 112, 116, 105, 111, 110]⟩, .slice none 0 0, .string words, .slice none 0 0] 25
set_option maxRecDepth 100000 in
set_option maxHeartbeats 20000000 in
theorem fault1_any (w : World) (cb n : Nat) (words : Bs) (m : Int) (hcb : w.cell? ⟨cb, 0, none⟩ = some (.int .i64 (n : Int))) (hn : n ≤ 1000000) (h10 : P10 w) (hm : w.cell? ⟨0, 0, none⟩ = some (.int .i64 m)) (hw : words.length ≤ 9000) :
    Calls Tryz.prog 65 #[.string ⟨words.toArray⟩, .pointer (some ⟨cb, 0, none⟩)] w (WritePost w (sealE (faultE (Lib.itoa (n : Int)) words))) := by
  have HM := hid hm
  have HP := hid h10
  clear hm h10
  go_enter Tryz.func65, Tryz.ntmps65
  go_wp2_with fail
  refine (leaf_any w _ _ _).mono ?_
  rintro e w1 ⟨rfl, g1⟩
  have c1 := g1.cell hcb (by simp)
  have g2 := World.grownBy_alloc w1 (obL ⟨#[117, 114, 110, 58, 115, 99, 104, 101, 109, 97, 115, 45, 117, 112, 110, 112, 45, 111, 114, 103, 58, 99, 111, 110, 116, 114, 111, 108, 45, 49, 45, 48]⟩ ⟨#[85, 80, 110, 80, 69, 114, 114, 111, 114]⟩ ⟨#[]⟩ (.slice none 0 0)) none
  have n2 := heap_alloc_new w1 (obL ⟨#[117, 114, 110, 58, 115, 99, 104, 101, 109, 97, 115, 45, 117, 112, 110, 112, 45, 111, 114, 103, 58, 99, 111, 110, 116, 114, 111, 108, 45, 49, 45, 48]⟩ ⟨#[85, 80, 110, 80, 69, 114, 114, 111, 114]⟩ ⟨#[]⟩ (.slice none 0 0))
  obtain ⟨w2, hw2⟩ : ∃ x, x = w1.alloc (obL ⟨#[117, 114, 110, 58, 115, 99, 104, 101, 109, 97, 115, 45, 117, 112, 110, 112, 45, 111, 114, 103, 58, 99, 111, 110, 116, 114, 111, 108, 45, 49, 45, 48]⟩ ⟨#[85, 80, 110, 80, 69, 114, 114, 111, 114]⟩ ⟨#[]⟩ (.slice none 0 0)) := ⟨_, rfl⟩
  obtain ⟨b5, hb5⟩ : ∃ x, x = w1.heap.size := ⟨_, rfl⟩
  rw [← hw2] at g2 n2
  rw [← hb5] at n2
  have c2 := g2.cell c1 (by simp)
  have G2 := hid (gr_trans g1 g2)
  have N2 := hid n2
  have HLB5 := hid (show w.heap.size ≤ b5 by rw [hb5]; exact g1.size)
  have HW2 := hid hw2
  have HB5 := hid hb5
  clear c1 g1 g2 n2 hw2 hb5
  go_upto_region 2 with fail
  unfold obL at HW2
  rw [← HW2.out, ← HB5.out]
  clear HW2 HB5
  go_wp2_with fail
  refine (itoa_p n w2 hn (HP.out.grown G2.out)).mono ?_
  rintro e w3 ⟨rfl, g3⟩
  go_wp2_with fail
  refine (leaf_any w3 _ _ _).mono ?_
  rintro e w4 ⟨rfl, g4⟩
  go_wp2_with fail
  refine (leaf_any w4 _ _ _).mono ?_
  rintro e w5 ⟨rfl, g5⟩
  have HNL := hid (show (Lib.itoa (n : Int)).length ≤ 9000 from Nat.le_trans (Lib.itoa_length_le (n : Int) (by omega) (by omega)) (by decide))
  generalize Lib.itoa (n : Int) = num at *
  have g25 := gr_trans g3 (gr_trans g4 g5)
  have N5 := hid (gr_keep g25 N2.out (by simp))
  have g6 := World.grownBy_alloc w5 (.cells #[.string ⟨#[117, 114, 110, 58, 115, 99, 104, 101, 109, 97, 115, 45, 117, 112, 110, 112, 45, 111, 114, 103, 58, 99, 111, 110, 116, 114, 111, 108, 45, 49, 45, 48]⟩, .string ⟨#[101, 114, 114, 111, 114, 67, 111, 100, 101]⟩, .slice none 0 0, .string ⟨num.toArray⟩, .slice none 0 0, .string ⟨#[117, 114, 110, 58, 115, 99, 104, 101, 109, 97, 115, 45, 117, 112, 110, 112, 45, 111, 114, 103, 58, 99, 111, 110, 116, 114, 111, 108, 45, 49, 45, 48]⟩, .string ⟨#[101, 114, 114, 111, 114, 68, 101, 115, 99, 114, 105, 112, 116, 105, 111, 110]⟩, .slice none 0 0, .string ⟨words.toArray⟩, .slice none 0 0] 25) none
  have n6 := heap_alloc_new w5 (.cells #[.string ⟨#[117, 114, 110, 58, 115, 99, 104, 101, 109, 97, 115, 45, 117, 112, 110, 112, 45, 111, 114, 103, 58, 99, 111, 110, 116, 114, 111, 108, 45, 49, 45, 48]⟩, .string ⟨#[101, 114, 114, 111, 114, 67, 111, 100, 101]⟩, .slice none 0 0, .string ⟨num.toArray⟩, .slice none 0 0, .string ⟨#[117, 114, 110, 58, 115, 99, 104, 101, 109, 97, 115, 45, 117, 112, 110, 112, 45, 111, 114, 103, 58, 99, 111, 110, 116, 114, 111, 108, 45, 49, 45, 48]⟩, .string ⟨#[101, 114, 114, 111, 114, 68, 101, 115, 99, 114, 105, 112, 116, 105, 111, 110]⟩, .slice none 0 0, .string ⟨words.toArray⟩, .slice none 0 0] 25)
  have z6 : w5.heap.size < (w5.alloc (.cells #[.string ⟨#[117, 114, 110, 58, 115, 99, 104, 101, 109, 97, 115, 45, 117, 112, 110, 112, 45, 111, 114, 103, 58, 99, 111, 110, 116, 114, 111, 108, 45, 49, 45, 48]⟩, .string ⟨#[101, 114, 114, 111, 114, 67, 111, 100, 101]⟩, .slice none 0 0, .string ⟨num.toArray⟩, .slice none 0 0, .string ⟨#[117, 114, 110, 58, 115, 99, 104, 101, 109, 97, 115, 45, 117, 112, 110, 112, 45, 111, 114, 103, 58, 99, 111, 110, 116, 114, 111, 108, 45, 49, 45, 48]⟩, .string ⟨#[101, 114, 114, 111, 114, 68, 101, 115, 99, 114, 105, 112, 116, 105, 111, 110]⟩, .slice none 0 0, .string ⟨words.toArray⟩, .slice none 0 0] 25)).heap.size := by simp
  obtain ⟨w6, hw6⟩ : ∃ x, x = w5.alloc (.cells #[.string ⟨#[117, 114, 110, 58, 115, 99, 104, 101, 109, 97, 115, 45, 117, 112, 110, 112, 45, 111, 114, 103, 58, 99, 111, 110, 116, 114, 111, 108, 45, 49, 45, 48]⟩, .string ⟨#[101, 114, 114, 111, 114, 67, 111, 100, 101]⟩, .slice none 0 0, .string ⟨num.toArray⟩, .slice none 0 0, .string ⟨#[117, 114, 110, 58, 115, 99, 104, 101, 109, 97, 115, 45, 117, 112, 110, 112, 45, 111, 114, 103, 58, 99, 111, 110, 116, 114, 111, 108, 45, 49, 45, 48]⟩, .string ⟨#[101, 114, 114, 111, 114, 68, 101, 115, 99, 114, 105, 112, 116, 105, 111, 110]⟩, .slice none 0 0, .string ⟨words.toArray⟩, .slice none 0 0] 25) := ⟨_, rfl⟩
  obtain ⟨k2, hk2⟩ : ∃ x, x = w5.heap.size := ⟨_, rfl⟩
  rw [← hw6] at g6 n6 z6
  rw [← hk2] at n6 z6
  have N6 := hid (gr_keep g6 N5.out (by simp))
  have K6 := hid n6
  have q4 : (w5.alloc (.cells #[.string ⟨#[117, 114, 110, 58, 115, 99, 104, 101, 109, 97, 115, 45, 117, 112, 110, 112, 45, 111, 114, 103, 58, 99, 111, 110, 116, 114, 111, 108, 45, 49, 45, 48]⟩, .string ⟨#[101, 114, 114, 111, 114, 67, 111, 100, 101]⟩, .slice none 0 0, .string ⟨num.toArray⟩, .slice none 0 0, .string ⟨#[117, 114, 110, 58, 115, 99, 104, 101, 109, 97, 115, 45, 117, 112, 110, 112, 45, 111, 114, 103, 58, 99, 111, 110, 116, 114, 111, 108, 45, 49, 45, 48]⟩, .string ⟨#[101, 114, 114, 111, 114, 68, 101, 115, 99, 114, 105, 112, 116, 105, 111, 110]⟩, .slice none 0 0, .string ⟨words.toArray⟩, .slice none 0 0] 25)).cell? ⟨b5, 4, none⟩ = some (.slice none 0 0) := by rw [← hw6]; exact (obL_cells N6.out).2.2.2.2
  have y4 : (w5.alloc (.cells #[.string ⟨#[117, 114, 110, 58, 115, 99, 104, 101, 109, 97, 115, 45, 117, 112, 110, 112, 45, 111, 114, 103, 58, 99, 111, 110, 116, 114, 111, 108, 45, 49, 45, 48]⟩, .string ⟨#[101, 114, 114, 111, 114, 67, 111, 100, 101]⟩, .slice none 0 0, .string ⟨num.toArray⟩, .slice none 0 0, .string ⟨#[117, 114, 110, 58, 115, 99, 104, 101, 109, 97, 115, 45, 117, 112, 110, 112, 45, 111, 114, 103, 58, 99, 111, 110, 116, 114, 111, 108, 45, 49, 45, 48]⟩, .string ⟨#[101, 114, 114, 111, 114, 68, 101, 115, 99, 114, 105, 112, 116, 105, 111, 110]⟩, .slice none 0 0, .string ⟨words.toArray⟩, .slice none 0 0] 25)).frozen? ⟨b5, 4, none⟩ = false := by rw [← hw6]; exact free_of_block N6.out 4
  have HB52 := hid (show b5 < k2 by have := lt_of_block N5.out; omega)
  have G7 := hid (gr_set_new (b := b5) (o := 4) (v := .slice (some ⟨k2, 0, none⟩) 2 2) (gr_trans G2.out (gr_trans g25 g6)) HLB5.out)
  obtain ⟨w7, hw7⟩ : ∃ x, x = w6.setCell ⟨b5, 4, none⟩ (.slice (some ⟨k2, 0, none⟩) 2 2) := ⟨_, rfl⟩
  have N7 := hid (show w7.heap[b5]? = some (.cells #[.string ⟨#[117, 114, 110, 58, 115, 99, 104, 101, 109, 97, 115, 45, 117, 112, 110, 112, 45, 111, 114, 103, 58, 99, 111, 110, 116, 114, 111, 108, 45, 49, 45, 48]⟩, .string ⟨#[85, 80, 110, 80, 69, 114, 114, 111, 114]⟩, .slice none 0 0, .string ⟨#[]⟩, .slice (some ⟨k2, 0, none⟩) 2 2] 25) by rw [hw7]; exact obL_set N6.out)
  have K7 := hid (show w7.heap[k2]? = some (.cells #[.string ⟨#[117, 114, 110, 58, 115, 99, 104, 101, 109, 97, 115, 45, 117, 112, 110, 112, 45, 111, 114, 103, 58, 99, 111, 110, 116, 114, 111, 108, 45, 49, 45, 48]⟩, .string ⟨#[101, 114, 114, 111, 114, 67, 111, 100, 101]⟩, .slice none 0 0, .string ⟨num.toArray⟩, .slice none 0 0, .string ⟨#[117, 114, 110, 58, 115, 99, 104, 101, 109, 97, 115, 45, 117, 112, 110, 112, 45, 111, 114, 103, 58, 99, 111, 110, 116, 114, 111, 108, 45, 49, 45, 48]⟩, .string ⟨#[101, 114, 114, 111, 114, 68, 101, 115, 99, 114, 105, 112, 116, 105, 111, 110]⟩, .slice none 0 0, .string ⟨words.toArray⟩, .slice none 0 0] 25) by rw [hw7]; exact (heap_set_other (by have := HB52.out; omega)).trans K6.out)
  rw [← hw7] at G7
  have HW7 := hid (show w7 = (w5.alloc (.cells #[.string ⟨#[117, 114, 110, 58, 115, 99, 104, 101, 109, 97, 115, 45, 117, 112, 110, 112, 45, 111, 114, 103, 58, 99, 111, 110, 116, 114, 111, 108, 45, 49, 45, 48]⟩, .string ⟨#[101, 114, 114, 111, 114, 67, 111, 100, 101]⟩, .slice none 0 0, .string ⟨num.toArray⟩, .slice none 0 0, .string ⟨#[117, 114, 110, 58, 115, 99, 104, 101, 109, 97, 115, 45, 117, 112, 110, 112, 45, 111, 114, 103, 58, 99, 111, 110, 116, 114, 111, 108, 45, 49, 45, 48]⟩, .string ⟨#[101, 114, 114, 111, 114, 68, 101, 115, 99, 114, 105, 112, 116, 105, 111, 110]⟩, .slice none 0 0, .string ⟨words.toArray⟩, .slice none 0 0] 25)).setCell ⟨b5, 4, none⟩ (.slice (some ⟨k2, 0, none⟩) 2 2) by rw [hw7, hw6])
  have HK2 := hid hk2
  clear g3 g4 g5 g25 g6 n6 z6 hw6 hw7 hk2 N5 N2 G2 N6 K6
  go_upto_region 3 with fail
  rw [← HK2.out, ← HW7.out]
  clear HW7 HK2 q4 y4
  go_wp2_with fail
  refine (leaf_any w7 _ _ _).mono ?_
  rintro e w8 ⟨rfl, g8⟩
  have g9 := World.grownBy_alloc w8 (.cells #[.string ⟨#[]⟩, .string ⟨#[100, 101, 116, 97, 105, 108]⟩, .slice none 0 0, .string ⟨#[]⟩, .slice none 0 0] 25) none
  have n9 := heap_alloc_new w8 (.cells #[.string ⟨#[]⟩, .string ⟨#[100, 101, 116, 97, 105, 108]⟩, .slice none 0 0, .string ⟨#[]⟩, .slice none 0 0] 25)
  obtain ⟨w9, hw9⟩ : ∃ x, x = w8.alloc (.cells #[.string ⟨#[]⟩, .string ⟨#[100, 101, 116, 97, 105, 108]⟩, .slice none 0 0, .string ⟨#[]⟩, .slice none 0 0] 25) := ⟨_, rfl⟩
  obtain ⟨b6, hb6⟩ : ∃ x, x = w8.heap.size := ⟨_, rfl⟩
  rw [← hw9] at g9 n9
  rw [← hb6] at n9
  have g79 := gr_trans g8 g9
  have N9 := hid (gr_keep g79 N7.out (by simp))
  have K9 := hid (gr_keep g79 K7.out (by simp))
  have D9 := hid n9
  have G9 := hid (gr_trans G7.out g79)
  have HLB6 := hid (show w.heap.size ≤ b6 by rw [hb6]; exact (gr_trans G7.out g8).size)
  have HK6 := hid (show k2 < b6 by have := lt_of_block (gr_keep g8 K7.out (by simp)); omega)
  have HW9 := hid hw9
  have HB6 := hid hb6
  clear g8 g9 n9 hw9 hb6 g79 N7 K7 G7
  go_upto_region 4 with fail
  rw [← HW9.out, ← HB6.out]
  clear HW9 HB6
  obtain ⟨s0, s1, s2, s3, s4⟩ := obL_cells N9.out
  have g10 := World.grownBy_alloc w9 (.cells #[.string ⟨#[117, 114, 110, 58, 115, 99, 104, 101, 109, 97, 115, 45, 117, 112, 110, 112, 45, 111, 114, 103, 58, 99, 111, 110, 116, 114, 111, 108, 45, 49, 45, 48]⟩, .string ⟨#[85, 80, 110, 80, 69, 114, 114, 111, 114]⟩, .slice none 0 0, .string ⟨#[]⟩, .slice (some ⟨k2, 0, none⟩) 2 2] 25) none
  have n10 := heap_alloc_new w9 (.cells #[.string ⟨#[117, 114, 110, 58, 115, 99, 104, 101, 109, 97, 115, 45, 117, 112, 110, 112, 45, 111, 114, 103, 58, 99, 111, 110, 116, 114, 111, 108, 45, 49, 45, 48]⟩, .string ⟨#[85, 80, 110, 80, 69, 114, 114, 111, 114]⟩, .slice none 0 0, .string ⟨#[]⟩, .slice (some ⟨k2, 0, none⟩) 2 2] 25)
  obtain ⟨w10, hw10⟩ : ∃ x, x = w9.alloc (.cells #[.string ⟨#[117, 114, 110, 58, 115, 99, 104, 101, 109, 97, 115, 45, 117, 112, 110, 112, 45, 111, 114, 103, 58, 99, 111, 110, 116, 114, 111, 108, 45, 49, 45, 48]⟩, .string ⟨#[85, 80, 110, 80, 69, 114, 114, 111, 114]⟩, .slice none 0 0, .string ⟨#[]⟩, .slice (some ⟨k2, 0, none⟩) 2 2] 25) := ⟨_, rfl⟩
  obtain ⟨d1, hd1⟩ : ∃ x, x = w9.heap.size := ⟨_, rfl⟩
  rw [← hw10] at g10 n10
  rw [← hd1] at n10
  have D10 := hid (gr_keep g10 D9.out (by simp))
  have q4 : (w9.alloc (.cells #[.string ⟨#[117, 114, 110, 58, 115, 99, 104, 101, 109, 97, 115, 45, 117, 112, 110, 112, 45, 111, 114, 103, 58, 99, 111, 110, 116, 114, 111, 108, 45, 49, 45, 48]⟩, .string ⟨#[85, 80, 110, 80, 69, 114, 114, 111, 114]⟩, .slice none 0 0, .string ⟨#[]⟩, .slice (some ⟨k2, 0, none⟩) 2 2] 25)).cell? ⟨b6, 4, none⟩ = some (.slice none 0 0) := by rw [← hw10]; exact (obL_cells D10.out).2.2.2.2
  have y4 : (w9.alloc (.cells #[.string ⟨#[117, 114, 110, 58, 115, 99, 104, 101, 109, 97, 115, 45, 117, 112, 110, 112, 45, 111, 114, 103, 58, 99, 111, 110, 116, 114, 111, 108, 45, 49, 45, 48]⟩, .string ⟨#[85, 80, 110, 80, 69, 114, 114, 111, 114]⟩, .slice none 0 0, .string ⟨#[]⟩, .slice (some ⟨k2, 0, none⟩) 2 2] 25)).frozen? ⟨b6, 4, none⟩ = false := by rw [← hw10]; exact free_of_block D10.out 4
  have HB6D := hid (show b6 < d1 by have := lt_of_block D9.out; omega)
  obtain ⟨w11, hw11⟩ : ∃ x, x = w10.setCell ⟨b6, 4, none⟩ (.slice (some ⟨d1, 0, none⟩) 1 1) := ⟨_, rfl⟩
  have G11 := hid (show w.grownBy w11 none by rw [hw11]; exact gr_set_new (gr_trans G9.out g10) HLB6.out)
  have D11 := hid (show w11.heap[b6]? = some (.cells #[.string ⟨#[]⟩, .string ⟨#[100, 101, 116, 97, 105, 108]⟩, .slice none 0 0, .string ⟨#[]⟩, .slice (some ⟨d1, 0, none⟩) 1 1] 25) by rw [hw11]; exact obL_set D10.out)
  have K11 := hid (show w11.heap[k2]? = some (.cells #[.string ⟨#[117, 114, 110, 58, 115, 99, 104, 101, 109, 97, 115, 45, 117, 112, 110, 112, 45, 111, 114, 103, 58, 99, 111, 110, 116, 114, 111, 108, 45, 49, 45, 48]⟩, .string ⟨#[101, 114, 114, 111, 114, 67, 111, 100, 101]⟩, .slice none 0 0, .string ⟨num.toArray⟩, .slice none 0 0, .string ⟨#[117, 114, 110, 58, 115, 99, 104, 101, 109, 97, 115, 45, 117, 112, 110, 112, 45, 111, 114, 103, 58, 99, 111, 110, 116, 114, 111, 108, 45, 49, 45, 48]⟩, .string ⟨#[101, 114, 114, 111, 114, 68, 101, 115, 99, 114, 105, 112, 116, 105, 111, 110]⟩, .slice none 0 0, .string ⟨words.toArray⟩, .slice none 0 0] 25) by rw [hw11]; exact (heap_set_other (by have := HK6.out; omega)).trans (gr_keep g10 K9.out (by simp)))
  have U11 := hid (show w11.heap[d1]? = some (.cells #[.string ⟨#[117, 114, 110, 58, 115, 99, 104, 101, 109, 97, 115, 45, 117, 112, 110, 112, 45, 111, 114, 103, 58, 99, 111, 110, 116, 114, 111, 108, 45, 49, 45, 48]⟩, .string ⟨#[85, 80, 110, 80, 69, 114, 114, 111, 114]⟩, .slice none 0 0, .string ⟨#[]⟩, .slice (some ⟨k2, 0, none⟩) 2 2] 25) by rw [hw11]; exact (heap_set_other (by have := HB6D.out; omega)).trans n10)
  have HW11 := hid (show w11 = (w9.alloc (.cells #[.string ⟨#[117, 114, 110, 58, 115, 99, 104, 101, 109, 97, 115, 45, 117, 112, 110, 112, 45, 111, 114, 103, 58, 99, 111, 110, 116, 114, 111, 108, 45, 49, 45, 48]⟩, .string ⟨#[85, 80, 110, 80, 69, 114, 114, 111, 114]⟩, .slice none 0 0, .string ⟨#[]⟩, .slice (some ⟨k2, 0, none⟩) 2 2] 25)).setCell ⟨b6, 4, none⟩ (.slice (some ⟨d1, 0, none⟩) 1 1) by rw [hw11, hw10])
  have HD1 := hid hd1
  clear g10 n10 hw10 hw11 hd1 N9 K9 D9 D10 G9
  go_upto_region 5 with fail
  rw [← HD1.out, ← HW11.out]
  clear HW11 HD1 q4 y4 s0 s1 s2 s3 s4
  go_wp2_with fail
  refine (leaf_any w11 _ _ _).mono ?_
  rintro e w12 ⟨rfl, g12⟩
  have g13 := World.grownBy_alloc w12 (.cells #[.string ⟨#[104, 116, 116, 112, 58, 47, 47, 115, 99, 104, 101, 109, 97, 115, 46, 120, 109, 108, 115, 111, 97, 112, 46, 111, 114, 103, 47, 115, 111, 97, 112, 47, 101, 110, 118, 101, 108, 111, 112, 101, 47]⟩, .string ⟨#[70, 97, 117, 108, 116]⟩, .slice none 0 0, .string ⟨#[]⟩, .slice none 0 0] 25) none
  have n13 := heap_alloc_new w12 (.cells #[.string ⟨#[104, 116, 116, 112, 58, 47, 47, 115, 99, 104, 101, 109, 97, 115, 46, 120, 109, 108, 115, 111, 97, 112, 46, 111, 114, 103, 47, 115, 111, 97, 112, 47, 101, 110, 118, 101, 108, 111, 112, 101, 47]⟩, .string ⟨#[70, 97, 117, 108, 116]⟩, .slice none 0 0, .string ⟨#[]⟩, .slice none 0 0] 25)
  obtain ⟨w0, hw13⟩ : ∃ x, x = w12.alloc (.cells #[.string ⟨#[104, 116, 116, 112, 58, 47, 47, 115, 99, 104, 101, 109, 97, 115, 46, 120, 109, 108, 115, 111, 97, 112, 46, 111, 114, 103, 47, 115, 111, 97, 112, 47, 101, 110, 118, 101, 108, 111, 112, 101, 47]⟩, .string ⟨#[70, 97, 117, 108, 116]⟩, .slice none 0 0, .string ⟨#[]⟩, .slice none 0 0] 25) := ⟨_, rfl⟩
  obtain ⟨b7, hb7⟩ : ∃ x, x = w12.heap.size := ⟨_, rfl⟩
  rw [← hw13] at g13 n13
  rw [← hb7] at n13
  have g11 := gr_trans g12 g13
  have D13 := hid (gr_keep g11 D11.out (by simp))
  have K13 := hid (gr_keep g11 K11.out (by simp))
  have U13 := hid (gr_keep g11 U11.out (by simp))
  have F13 := hid n13
  have G13 := hid (gr_trans G11.out g11)
  have HLB7 := hid (show w.heap.size ≤ b7 by rw [hb7]; exact (gr_trans G11.out g12).size)
  have HK7 := hid (show k2 < b7 ∧ d1 < b7 from ⟨by have := lt_of_block (gr_keep g12 K11.out (by simp)); omega, by have := lt_of_block (gr_keep g12 U11.out (by simp)); omega⟩)
  have HW13 := hid hw13
  have HB7 := hid hb7
  clear g12 g13 g11 n13 hw13 hb7 D11 K11 U11 G11
  go_upto_region 6 with fail
  rw [← HW13.out, ← HB7.out]
  clear HW13 HB7
  obtain ⟨f0, f1, f2, f3, f4⟩ := obL_cells D13.out
  refine wp_region_spec3 5 6 none (by kernel_rfl) (by kernel_rfl) (by kernel_rfl) (by kernel_rfl) (by kernel_rfl) (by kernel_rfl) [some 21, some 22, some 23, some 24, some 25] (by kernel_rfl) _ (fun u => (by simp only [fill, List.zipIdx_cons, List.zipIdx_nil, List.foldl_cons, List.foldl_nil, Act.put, List.setIfInBounds_toArray, List.set_cons_zero, List.set_cons_succ, Nat.zero_add, Nat.reduceAdd]; exact rfl)) (by kernel_rfl)
    (all_succ (all_succ (all_succ (all_succ (all_succ (all_zero _) (fun u v => by kernel_rfl)) (fun u v => by kernel_rfl)) (fun u v => by kernel_rfl)) (fun u v => by kernel_rfl)) (fun u v => by kernel_rfl))
    (fun ri v w => match ri with | 0 => v = .agg #[.string ⟨#[]⟩, .string ⟨#[102, 97, 117, 108, 116, 99, 111, 100, 101]⟩, .slice none 0 0, .string ⟨#[115, 58, 67, 108, 105, 101, 110, 116]⟩, .slice none 0 0] | 1 => v = .agg #[.string ⟨#[]⟩, .string ⟨#[102, 97, 117, 108, 116, 115, 116, 114, 105, 110, 103]⟩, .slice none 0 0, .string ⟨#[85, 80, 110, 80, 69, 114, 114, 111, 114]⟩, .slice none 0 0] | 2 => v = .agg #[.string ⟨#[]⟩, .string ⟨#[100, 101, 116, 97, 105, 108]⟩, .slice none 0 0, .string ⟨#[]⟩, .slice (some ⟨d1, 0, none⟩) 1 1] | 3 => ∃ k3, v = .slice (some ⟨k3, 0, none⟩) 3 3 ∧ w0.heap.size ≤ k3 ∧ w.heap[k3]? = some (.cells #[.string ⟨#[]⟩, .string ⟨#[102, 97, 117, 108, 116, 99, 111, 100, 101]⟩, .slice none 0 0, .string ⟨#[115, 58, 67, 108, 105, 101, 110, 116]⟩, .slice none 0 0, .string ⟨#[]⟩, .string ⟨#[102, 97, 117, 108, 116, 115, 116, 114, 105, 110, 103]⟩, .slice none 0 0, .string ⟨#[85, 80, 110, 80, 69, 114, 114, 111, 114]⟩, .slice none 0 0, .string ⟨#[]⟩, .string ⟨#[100, 101, 116, 97, 105, 108]⟩, .slice none 0 0, .string ⟨#[]⟩, .slice (some ⟨d1, 0, none⟩) 1 1] 25 (0, 0)) | 4 => v = .pointer (some ⟨b7, 4, none⟩) | _ => True)
    (all_succ (all_succ (all_succ (all_succ (all_succ (all_zero _) ?qm0) ?qm1) ?qm2) ?qm3) ?qm4)
    [[], [], [], [0, 1, 2], []] (by kernel_rfl)
    ⟨?qo0, ?qo1, ?qo2, ?qo3, ?qo4, trivial⟩ ?qdone
  case qm0 => intro v w w' h g; first | exact h | (obtain ⟨k3, e, h1, h2⟩ := h; exact ⟨k3, e, h1, gr_keep g h2 (by simp)⟩)
  case qm1 => intro v w w' h g; first | exact h | (obtain ⟨k3, e, h1, h2⟩ := h; exact ⟨k3, e, h1, gr_keep g h2 (by simp)⟩)
  case qm2 => intro v w w' h g; first | exact h | (obtain ⟨k3, e, h1, h2⟩ := h; exact ⟨k3, e, h1, gr_keep g h2 (by simp)⟩)
  case qm3 => intro v w w' h g; first | exact h | (obtain ⟨k3, e, h1, h2⟩ := h; exact ⟨k3, e, h1, gr_keep g h2 (by simp)⟩)
  case qm4 => intro v w w' h g; first | exact h | (obtain ⟨k3, e, h1, h2⟩ := h; exact ⟨k3, e, h1, gr_keep g h2 (by simp)⟩)
  case qo0 =>
    intro u w g hd K hK
    replace g : w0.grownBy w (none) := g
    clear hd
    simp only [Act.put, List.setIfInBounds_toArray, List.set_cons_zero, List.set_cons_succ] at hK
    go_simp
    refine (leaf_any w _ _ _).mono ?_
    rintro e w' ⟨rfl, g'⟩
    exact hK _ _ rfl g'
  case qo1 =>
    intro u w g hd K hK
    replace g : w0.grownBy w (none) := g
    clear hd
    simp only [Act.put, List.setIfInBounds_toArray, List.set_cons_zero, List.set_cons_succ] at hK
    go_simp
    refine (leaf_any w _ _ _).mono ?_
    rintro e w' ⟨rfl, g'⟩
    exact hK _ _ rfl g'
  case qo2 =>
    intro u w g hd K hK
    replace g : w0.grownBy w (none) := g
    clear hd
    simp only [Act.put, List.setIfInBounds_toArray, List.set_cons_zero, List.set_cons_succ] at hK
    have c0 := g.cell f0 (by simp)
    have c1 := g.cell f1 (by simp)
    have c2 := g.cell f2 (by simp)
    have c3 := g.cell f3 (by simp)
    have c4 := g.cell f4 (by simp)
    go_simp
    exact hK _ _ rfl (gr_refl _ _)
  case qo3 =>
    intro u w g hd K hK
    replace g : w0.grownBy w (none) := g
    have h0 : (u 0) = .agg #[.string ⟨#[]⟩, .string ⟨#[102, 97, 117, 108, 116, 99, 111, 100, 101]⟩, .slice none 0 0, .string ⟨#[115, 58, 67, 108, 105, 101, 110, 116]⟩, .slice none 0 0] := hd 0 (by simp)
    have h1 : (u 1) = .agg #[.string ⟨#[]⟩, .string ⟨#[102, 97, 117, 108, 116, 115, 116, 114, 105, 110, 103]⟩, .slice none 0 0, .string ⟨#[85, 80, 110, 80, 69, 114, 114, 111, 114]⟩, .slice none 0 0] := hd 1 (by simp)
    have h2 : (u 2) = .agg #[.string ⟨#[]⟩, .string ⟨#[100, 101, 116, 97, 105, 108]⟩, .slice none 0 0, .string ⟨#[]⟩, .slice (some ⟨d1, 0, none⟩) 1 1] := hd 2 (by simp)
    clear hd
    simp only [Act.put, List.setIfInBounds_toArray, List.set_cons_zero, List.set_cons_succ] at hK
    simp only [h0, h1, h2] at hK ⊢
    go_simp
    exact hK _ _ ⟨_, rfl, g.size, heap_alloc_new w _⟩ (gr_alloc (gr_refl _ _) _)
  case qo4 =>
    intro u w g hd K hK
    replace g : w0.grownBy w (none) := g
    clear hd
    simp only [Act.put, List.setIfInBounds_toArray, List.set_cons_zero, List.set_cons_succ] at hK
    go_simp
    exact hK _ _ rfl (gr_refl _ _)
  intro u w hS g
  have s0 : (u 0) = .agg #[.string ⟨#[]⟩, .string ⟨#[102, 97, 117, 108, 116, 99, 111, 100, 101]⟩, .slice none 0 0, .string ⟨#[115, 58, 67, 108, 105, 101, 110, 116]⟩, .slice none 0 0] := hS 0 (by decide)
  have s1 : (u 1) = .agg #[.string ⟨#[]⟩, .string ⟨#[102, 97, 117, 108, 116, 115, 116, 114, 105, 110, 103]⟩, .slice none 0 0, .string ⟨#[85, 80, 110, 80, 69, 114, 114, 111, 114]⟩, .slice none 0 0] := hS 1 (by decide)
  have s2 : (u 2) = .agg #[.string ⟨#[]⟩, .string ⟨#[100, 101, 116, 97, 105, 108]⟩, .slice none 0 0, .string ⟨#[]⟩, .slice (some ⟨d1, 0, none⟩) 1 1] := hS 2 (by decide)
  have s3 : ∃ k3, (u 3) = .slice (some ⟨k3, 0, none⟩) 3 3 ∧ w0.heap.size ≤ k3 ∧ w.heap[k3]? = some (.cells #[.string ⟨#[]⟩, .string ⟨#[102, 97, 117, 108, 116, 99, 111, 100, 101]⟩, .slice none 0 0, .string ⟨#[115, 58, 67, 108, 105, 101, 110, 116]⟩, .slice none 0 0, .string ⟨#[]⟩, .string ⟨#[102, 97, 117, 108, 116, 115, 116, 114, 105, 110, 103]⟩, .slice none 0 0, .string ⟨#[85, 80, 110, 80, 69, 114, 114, 111, 114]⟩, .slice none 0 0, .string ⟨#[]⟩, .string ⟨#[100, 101, 116, 97, 105, 108]⟩, .slice none 0 0, .string ⟨#[]⟩, .slice (some ⟨d1, 0, none⟩) 1 1] 25 (0, 0)) := hS 3 (by decide)
  have s4 : (u 4) = .pointer (some ⟨b7, 4, none⟩) := hS 4 (by decide)
  clear hS
  obtain ⟨k3, e3, hk3, hb3⟩ := s3
  have GY := hid g
  have HK3 := hid hk3
  have HB3 := hid hb3
  clear s0 s1 s2 g hk3 hb3
  generalize u 0 = y0 at *
  generalize u 1 = y1 at *
  generalize u 2 = y2 at *
  generalize u 3 = y3 at *
  generalize u 4 = y4 at *
  obtain rfl := e3
  obtain rfl := s4
  have DW := hid (gr_keep GY.out D13.out (by simp))
  have KW := hid (gr_keep GY.out K13.out (by simp))
  have UW := hid (gr_keep GY.out U13.out (by simp))
  have FW := hid (gr_keep GY.out F13.out (by simp))
  have GW := hid (gr_trans G13.out GY.out)
  have HK3' := hid (show b7 < k3 by have := lt_of_block F13.out; have := HK3.out; omega)
  have q4 := (obL_cells FW.out).2.2.2.2
  have y4 := free_of_block FW.out 4
  clear GY D13 K13 U13 F13 G13 HK3 f0 f1 f2 f3 f4
  obtain ⟨wz, hwz⟩ : ∃ x, x = w.setCell ⟨b7, 4, none⟩ (.slice (some ⟨k3, 0, none⟩) 3 3) := ⟨_, rfl⟩
  have FZ := hid (show wz.heap[b7]? = some (.cells #[.string ⟨#[104, 116, 116, 112, 58, 47, 47, 115, 99, 104, 101, 109, 97, 115, 46, 120, 109, 108, 115, 111, 97, 112, 46, 111, 114, 103, 47, 115, 111, 97, 112, 47, 101, 110, 118, 101, 108, 111, 112, 101, 47]⟩, .string ⟨#[70, 97, 117, 108, 116]⟩, .slice none 0 0, .string ⟨#[]⟩, .slice (some ⟨k3, 0, none⟩) 3 3] 25) by rw [hwz]; exact obL_set FW.out)
  have KZ := hid (show wz.heap[k2]? = some (.cells #[.string ⟨#[117, 114, 110, 58, 115, 99, 104, 101, 109, 97, 115, 45, 117, 112, 110, 112, 45, 111, 114, 103, 58, 99, 111, 110, 116, 114, 111, 108, 45, 49, 45, 48]⟩, .string ⟨#[101, 114, 114, 111, 114, 67, 111, 100, 101]⟩, .slice none 0 0, .string ⟨num.toArray⟩, .slice none 0 0, .string ⟨#[117, 114, 110, 58, 115, 99, 104, 101, 109, 97, 115, 45, 117, 112, 110, 112, 45, 111, 114, 103, 58, 99, 111, 110, 116, 114, 111, 108, 45, 49, 45, 48]⟩, .string ⟨#[101, 114, 114, 111, 114, 68, 101, 115, 99, 114, 105, 112, 116, 105, 111, 110]⟩, .slice none 0 0, .string ⟨words.toArray⟩, .slice none 0 0] 25) by rw [hwz]; exact (heap_set_other (by have := HK7.out.1; omega)).trans KW.out)
  have UZ := hid (show wz.heap[d1]? = some (.cells #[.string ⟨#[117, 114, 110, 58, 115, 99, 104, 101, 109, 97, 115, 45, 117, 112, 110, 112, 45, 111, 114, 103, 58, 99, 111, 110, 116, 114, 111, 108, 45, 49, 45, 48]⟩, .string ⟨#[85, 80, 110, 80, 69, 114, 114, 111, 114]⟩, .slice none 0 0, .string ⟨#[]⟩, .slice (some ⟨k2, 0, none⟩) 2 2] 25) by rw [hwz]; exact (heap_set_other (by have := HK7.out.2; omega)).trans UW.out)
  have TZ := hid ((show wz.heap[k3]? = w.heap[k3]? by rw [hwz]; exact heap_set_other (by have := HK3'.out; omega)).trans HB3.out)
  have GZ := hid (gr_set_new (b := b7) (o := 4) (v := .slice (some ⟨k3, 0, none⟩) 3 3) GW.out HLB7.out)
  rw [← hwz] at GZ
  have HWZ := hid hwz
  clear hwz DW KW UW FW GW HB3
  go_upto_region 7 with fail
  rw [← HWZ.out]
  clear HWZ q4 y4
  obtain ⟨s0, s1, s2, s3, s4⟩ := obL_cells FZ.out
  have F2 : FoAt wz noX (.cons sCtl [101, 114, 114, 111, 114, 67, 111, 100, 101] [] num .nil (.cons sCtl [101, 114, 114, 111, 114, 68, 101, 115, 99, 114, 105, 112, 116, 105, 111, 110] [] words .nil .nil)) k2 0 :=
    fo_cons (cell_of_block KZ.out 0) (cell_of_block KZ.out 1) (cell_of_block KZ.out 2) (cell_of_block KZ.out 3) (cell_of_block KZ.out 4) (ats_nil _ _) (kid_nil _ _)
      (fo_cons (cell_of_block KZ.out 5) (cell_of_block KZ.out 6) (cell_of_block KZ.out 7) (cell_of_block KZ.out 8) (cell_of_block KZ.out 9) (ats_nil _ _) (kid_nil _ _) trivial)
  have K2' : KidV wz noX (.slice (some ⟨k2, 0, none⟩) 2 2) (.cons sCtl [101, 114, 114, 111, 114, 67, 111, 100, 101] [] num .nil (.cons sCtl [101, 114, 114, 111, 114, 68, 101, 115, 99, 114, 105, 112, 116, 105, 111, 110] [] words .nil .nil)) := ⟨_, 2, rfl, fun _ => ⟨k2, 0, rfl, fun h => h, F2⟩⟩
  have F1 : FoAt wz noX (.cons sCtl [85, 80, 110, 80, 69, 114, 114, 111, 114] [] [] (.cons sCtl [101, 114, 114, 111, 114, 67, 111, 100, 101] [] num .nil (.cons sCtl [101, 114, 114, 111, 114, 68, 101, 115, 99, 114, 105, 112, 116, 105, 111, 110] [] words .nil .nil)) .nil) d1 0 :=
    fo_cons (cell_of_block UZ.out 0) (cell_of_block UZ.out 1) (cell_of_block UZ.out 2) (cell_of_block UZ.out 3) (cell_of_block UZ.out 4) (ats_nil _ _) K2' trivial
  have K1' : KidV wz noX (.slice (some ⟨d1, 0, none⟩) 1 1) (.cons sCtl [85, 80, 110, 80, 69, 114, 114, 111, 114] [] [] (.cons sCtl [101, 114, 114, 111, 114, 67, 111, 100, 101] [] num .nil (.cons sCtl [101, 114, 114, 111, 114, 68, 101, 115, 99, 114, 105, 112, 116, 105, 111, 110] [] words .nil .nil)) .nil) := ⟨_, 1, rfl, fun _ => ⟨d1, 0, rfl, fun h => h, F1⟩⟩
  have F3 : FoAt wz noX (faultE num words).kids k3 0 :=
    fo_cons (cell_of_block TZ.out 0) (cell_of_block TZ.out 1) (cell_of_block TZ.out 2) (cell_of_block TZ.out 3) (cell_of_block TZ.out 4) (ats_nil _ _) (kid_nil _ _)
      (fo_cons (cell_of_block TZ.out 5) (cell_of_block TZ.out 6) (cell_of_block TZ.out 7) (cell_of_block TZ.out 8) (cell_of_block TZ.out 9) (ats_nil _ _) (kid_nil _ _)
        (fo_cons (cell_of_block TZ.out 10) (cell_of_block TZ.out 11) (cell_of_block TZ.out 12) (cell_of_block TZ.out 13) (cell_of_block TZ.out 14) (ats_nil _ _) K1' trivial))
  obtain ⟨hs1, hs2⟩ := smE_fault HNL.out hw
  have SL := hid (seal_any wz (.agg #[.string ⟨#[104, 116, 116, 112, 58, 47, 47, 115, 99, 104, 101, 109, 97, 115, 46, 120, 109, 108, 115, 111, 97, 112, 46, 111, 114, 103, 47, 115, 111, 97, 112, 47, 101, 110, 118, 101, 108, 111, 112, 101, 47]⟩, .string ⟨#[70, 97, 117, 108, 116]⟩, .slice none 0 0, .string ⟨#[]⟩, .slice (some ⟨k3, 0, none⟩) 3 3]) (faultE num words) m ⟨_, _, rfl, ats_nil _ _, _, 3, rfl, fun _ => ⟨k3, 0, rfl, fun h => h, F3⟩⟩ (GZ.out.cell HM.out (by simp)) hs1 hs2)
  generalize faultE num words = E at *
  clear F2 K2' F1 K1' F3 hs1 hs2
  go_wp2_with fail
  refine SL.out.mono ?_
  rintro e9 w9 ⟨g9, v9, k9, rfl, h9⟩
  have G9 := hid (gr_trans GZ.out g9)
  have H9 := hid h9
  clear h9 g9 GZ SL s0 s1 s2 s3 s4
  rcases H9.out with ⟨hk, rfl⟩ | ⟨-, hby, -⟩
  · have HK := hid hk
    clear hk
    go_wp2_with fail
    go_ret2
    exact ⟨G9.out, .slice none 0 0, k9, rfl, .inl ⟨HK.out, rfl⟩⟩
  · obtain ⟨a9, c9, rfl, -⟩ := hby
    go_wp2_with fail
    go_ret2
    exact ⟨G9.out, _, _, rfl, H9.out⟩
end Go.Proofs.YtmofnoconhgjmaaGreatDoor
/- soap.Fault. -/
namespace Go.Proofs.YtmofnoconhgjmaaGreatDoor
open Go.RowKit
set_option linter.unusedVariables false
set_option linter.unusedSimpArgs false

def FltOk (w' : World) (v : Value) (e : El) : Prop := Bytes w' v (textE (sealE e)) ∧ (textE (sealE e)).length ≤ 8192 ∧ (∀ y ∈ flatE 0 (sealE e), OkX y.1 y.2) ∧ (flatE 0 (sealE e)).length ≤ 64
def FaultQ (w : World) (n : Nat) (e : Ending) (w' : World) : Prop := w.grownBy w' none ∧ ∃ v, e = .returned v ∧ (v = .slice none 0 0 ∨ ∃ ws, FltOk w' v (faultE (Lib.itoa (n : Int)) ws))
theorem FltOk.grow {w w' : World} {v : Value} {e : El} (h : FltOk w v e) (g : w.grownBy w' none) : FltOk w' v e := ⟨h.1.grown g, h.2⟩
set_option maxRecDepth 100000 in
set_option maxHeartbeats 20000000 in
theorem fault_any (w : World) (n : Nat) (words : Bs) (m : Int) (hn : n ≤ 1000000) (h10 : P10 w) (hm : w.cell? ⟨0, 0, none⟩ = some (.int .i64 m)) (hw : words.length ≤ 9000) :
    Calls Tryz.prog 32 #[.int .i64 (n : Int), .string ⟨words.toArray⟩] w (FaultQ w n) := by
  have g1 := gr_alloc (gr_refl w none) (.cells #[.int .i64 (n : Int)] 3)
  have n1 := heap_alloc_new w (.cells #[.int .i64 (n : Int)] 3)
  obtain ⟨w1, hw1⟩ : ∃ x, x = w.alloc (.cells #[.int .i64 (n : Int)] 3) := ⟨_, rfl⟩
  obtain ⟨cb, hcb⟩ : ∃ x, x = w.heap.size := ⟨_, rfl⟩
  rw [← hw1] at g1 n1
  rw [← hcb] at n1
  have HF1 := hid (fault1_any w1 cb n words m (cell_of_block n1 0) hn (h10.grown g1) (g1.cell hm (by simp)) hw)
  have HF2 := hid (fun W (g : w1.grownBy W none) => fault1_any W cb n [69, 114, 114, 111, 114] m (g.cell (cell_of_block n1 0) (by simp)) hn ((h10.grown g1).grown g) (g.cell (g1.cell hm (by simp)) (by simp)) (by decide))
  have G1 := hid g1
  have HW1 := hid hw1
  have HCB := hid hcb
  have HLW := hid (show (⟨words.toArray⟩ : ByteArray).size = words.length by rw [Lib.size_eq])
  clear g1 n1 hw1 hcb h10 hm
  go_enter Tryz.func32, Tryz.ntmps32
  go_upto_region 1 with fail
  rw [← HW1.out, ← HCB.out]
  clear HW1 HCB
  go_wp2_with fail
  refine HF1.out.mono ?_
  rintro e2 w2 ⟨g2, v2, k2, rfl, h2⟩
  have HS2 := hid (HF2.out w2 g2)
  have G2 := hid (gr_trans G1.out g2)
  have H2 := hid h2
  clear h2 g2 HF1 HF2 G1
  rcases H2.out with ⟨hk, rfl⟩ | ⟨rfl, hby, hr⟩
  · have e1 : (k2 == 0) = false := beq_eq_false_iff_ne.2 hk
    have e2 : (k2 != 0) = true := by rw [bne, e1]; rfl
    have hk' : ¬ k2 = 0 := hk
    clear hk
    go_wp2_with fail
    refine HS2.out.mono ?_
    rintro e3 w3 ⟨g3, v3, k3, rfl, h3⟩
    have G3 := hid (gr_trans G2.out g3)
    have H3 := hid h3
    clear h3 g3 G2 HS2
    rcases H3.out with ⟨hk, rfl⟩ | ⟨rfl, hby, hr⟩
    · clear hk
      go_wp2_with fail
      go_ret
      exact ⟨G3.out, .slice none 0 0, rfl, .inl rfl⟩
    · have HR := hid (show FltOk w3 v3 (faultE (Lib.itoa (n : Int)) [69, 114, 114, 111, 114]) from ⟨hby, hr⟩)
      obtain ⟨a3, c3, rfl, -⟩ := hby
      clear hr
      go_wp2_with fail
      go_ret
      exact ⟨G3.out, _, rfl, .inr ⟨_, HR.out⟩⟩
  · have HR2 := hid (show FltOk w2 v2 (faultE (Lib.itoa (n : Int)) words) from ⟨hby, hr⟩)
    obtain ⟨a2, c2, rfl, -⟩ := hby
    clear hr
    by_cases h200 : 200 < words.length
    · have h2' : (200 : Int) < (words.length : Int) := by omega
      clear h200
      go_wp2_with fail
      refine HS2.out.mono ?_
      rintro e3 w3 ⟨g3, v3, k3, rfl, h3⟩
      have G3 := hid (gr_trans G2.out g3)
      have H3 := hid h3
      clear h3 g3 G2 HS2
      rcases H3.out with ⟨hk, rfl⟩ | ⟨rfl, hby, hr⟩
      · clear hk
        go_wp2_with fail
        go_ret
        exact ⟨G3.out, .slice none 0 0, rfl, .inl rfl⟩
      · have HR := hid (show FltOk w3 v3 (faultE (Lib.itoa (n : Int)) [69, 114, 114, 111, 114]) from ⟨hby, hr⟩)
        obtain ⟨a3, c3, rfl, -⟩ := hby
        clear hr
        go_wp2_with fail
        go_ret
        exact ⟨G3.out, _, rfl, .inr ⟨_, HR.out⟩⟩
    · have h2' : ¬ (200 : Int) < (words.length : Int) := by omega
      clear h200
      go_wp2_with fail
      go_ret
      exact ⟨G2.out, _, rfl, .inr ⟨_, HR2.out⟩⟩
end Go.Proofs.YtmofnoconhgjmaaGreatDoor
/- soap.Header: what it computes. -/
namespace Go.Proofs.YtmofnoconhgjmaaGreatDoor
open Go.RowKit

def hdr0 (s : List UInt8) : List UInt8 := Lib.trimPrefix s [34]
def hdr1 (s : List UInt8) : List UInt8 := Lib.trimSuffix (hdr0 s) [34]
def hdrC (s : List UInt8) : List UInt8 × List UInt8 × Bool := cutB (hdr1 s) 35
def hdrOk (s : List UInt8) : Bool :=
  Lib.hasPrefix s [34] && Lib.hasSuffix (hdr0 s) [34] && (hdrC s).2.2 && !(hdrC s).1.isEmpty && !(hdrC s).2.1.isEmpty && !decide (0 ≤ Lib.indexByte (hdr1 s) 34) && !decide (0 ≤ Lib.indexByte (hdrC s).2.1 35)
def hdr (s : List UInt8) : List UInt8 × List UInt8 × Bool := if hdrOk s then ((hdrC s).1, (hdrC s).2.1, true) else ([], [], false)
theorem trimPrefix_le (s p : List UInt8) : (Lib.trimPrefix s p).length ≤ s.length := by unfold Lib.trimPrefix; split <;> simp
theorem trimSuffix_le (s p : List UInt8) : (Lib.trimSuffix s p).length ≤ s.length := by unfold Lib.trimSuffix; split <;> simp
theorem str_isEmpty (l : List UInt8) : (ByteArray.mk l.toArray).toList = l := by rw [Lib.toList_data]
set_option maxHeartbeats 1000000 in
theorem header_any (s : ByteArray) (w : World) (hs : s.size ≤ 9223372036854775806) :
    Calls Tryz.prog 62 #[.string s] w fun e w' =>
      e = .returned (.tuple #[str (hdr s.data.toList).1, str (hdr s.data.toList).2.1, .bool (hdr s.data.toList).2.2]) ∧ w.grownBy w' none := by
  obtain ⟨l, hl⟩ : ∃ l, l = s.data.toList := ⟨_, rfl⟩
  have hsz : l.length ≤ 9223372036854775806 := by rw [hl, ← Lib.size_eq]; exact hs
  have e0 := trimPrefix_le l [34]
  have e1 := trimSuffix_le (hdr0 l) [34]
  have z1 : (hdr1 l).length ≤ 9223372036854775806 := by unfold hdr1; unfold hdr0 at e1 ⊢; omega
  have z0 : (hdr0 l).length ≤ 9223372036854775806 := by unfold hdr0; omega
  rw [← hl]
  have Hl := hid hl
  clear hl e0 e1
  unfold hdr hdrOk
  generalize hb0 : Lib.hasPrefix l [34] = b0
  generalize hb1 : Lib.hasSuffix (hdr0 l) [34] = b1
  generalize hC : hdrC l = C
  generalize hi1 : decide (0 ≤ Lib.indexByte (hdr1 l) 34) = i1
  generalize hi2 : decide (0 ≤ Lib.indexByte C.2.1 35) = i2
  have B0 := hid hb0
  have B1 := hid hb1
  have HC := hid hC
  have I1 := hid hi1
  have I2 := hid hi2
  clear hb0 hb1 hC hi1 hi2
  go_enter Tryz.func62, Tryz.ntmps62
  go_wp2_with fail
  refine (Tryz.strings_CutPrefix s ⟨#[34]⟩ w).mono ?_
  rintro e w' ⟨rfl, hw⟩
  rw [hw, ← Hl.out]
  rw [show (Lib.hasPrefix l (ByteArray.mk #[34]).data.toList) = b0 from B0.out, show Lib.trimPrefix l (ByteArray.mk #[34]).data.toList = hdr0 l from rfl]
  clear hw w'
  go_wp2_with fail
  refine (Tryz.strings_CutSuffix ⟨(hdr0 l).toArray⟩ ⟨#[34]⟩ w (by rw [Lib.size_eq]; simp; omega)).mono ?_
  rintro e w' ⟨rfl, hw⟩
  rw [hw]
  rw [show (Lib.hasSuffix (ByteArray.mk (hdr0 l).toArray).data.toList (ByteArray.mk #[34]).data.toList) = b1 from B1.out, show Lib.trimSuffix (ByteArray.mk (hdr0 l).toArray).data.toList (ByteArray.mk #[34]).data.toList = hdr1 l from rfl]
  clear hw w'
  go_wp2_with fail
  refine (cut_one ⟨(hdr1 l).toArray⟩ 35 w (by rw [Lib.size_eq]; simp; omega)).mono ?_
  rintro e w1 ⟨rfl, g⟩
  rw [show cutB (ByteArray.mk (hdr1 l).toArray).data.toList 35 = C from HC.out]
  obtain ⟨c1, c2, c3⟩ := C
  simp only []
  unfold str
  cases b0 <;> cases b1 <;> cases c3 <;> rcases c1 with _ | ⟨x1, c1⟩ <;> rcases c2 with _ | ⟨x2, c2⟩
  all_goals try (go_wp2_with fail; go_ret3; exact ⟨by first | (simp; done) | (simp; rfl) | (simp; exact ⟨rfl, rfl⟩), g⟩)
  go_wp2_with fail
  refine (Tryz.strings_Contains_one ⟨(hdr1 l).toArray⟩ 34 w1).mono ?_
  rintro e w2 ⟨rfl, hw⟩
  rw [hw]
  rw [show decide (0 ≤ Lib.indexByte (ByteArray.mk (hdr1 l).toArray).data.toList 34) = i1 from I1.out]
  clear hw w2
  cases i1
  · go_wp2_with fail
    refine (Tryz.strings_Contains_one ⟨(x2 :: c2).toArray⟩ 35 w1).mono ?_
    rintro e w2 ⟨rfl, hw⟩
    rw [hw]
    rw [show decide (0 ≤ Lib.indexByte (ByteArray.mk (x2 :: c2).toArray).data.toList 35) = i2 from I2.out]
    clear hw w2
    cases i2
    · go_wp2
      go_ret3
      exact ⟨by first | (simp; done) | (simp; rfl) | (simp; exact ⟨rfl, rfl⟩), g⟩
    · go_wp2
      go_ret3
      exact ⟨by first | (simp; done) | (simp; rfl) | (simp; exact ⟨rfl, rfl⟩), g⟩
  · go_wp2
    go_ret3
    exact ⟨by first | (simp; done) | (simp; rfl) | (simp; exact ⟨rfl, rfl⟩), g⟩
end Go.Proofs.YtmofnoconhgjmaaGreatDoor
/- hearthlaw18: speaks, great. -/
namespace Go.Proofs.YtmofnoconhgjmaaGreatDoor
open Go.RowKit
set_option linter.unusedVariables false
set_option linter.unusedSimpArgs false

theorem soap_speaks (w : World) : Calls Tryz.prog 27 #[] w fun e w' => e = .returned (.bool true) ∧ w.grownBy w' none := by
  have hc : hdr [34, 117, 114, 110, 58, 115, 35, 71, 101, 116, 34] = ([117, 114, 110, 58, 115], [71, 101, 116], true) := by decide
  go_enter Tryz.func27, Tryz.ntmps27
  go_wp2_with fail
  refine (header_any ⟨#[34, 117, 114, 110, 58, 115, 35, 71, 101, 116, 34]⟩ w (by decide)).mono ?_
  rintro e w1 ⟨rfl, g1⟩
  rw [show (ByteArray.mk #[34, 117, 114, 110, 58, 115, 35, 71, 101, 116, 34]).data.toList = [34, 117, 114, 110, 58, 115, 35, 71, 101, 116, 34] from rfl, hc]
  unfold str
  clear hc
  go_wp2
  go_ret
  exact ⟨rfl, g1⟩
/-- great is false only of calls that are small. -/
def SgQ (w : World) (c : Ca) (e : Ending) (w' : World) : Prop := w.grownBy w' none ∧ ∃ b, e = .returned (.bool b) ∧ (b = false → SmC c)
set_option maxHeartbeats 4000000 in
theorem soap_great (w : World) (va : Value) (c : Ca) (ha : ArgsAt w va c.2.2) (h1 : c.1.length ≤ 9223372036854775807) (h2 : c.2.1.length ≤ 9223372036854775807) (h3 : c.2.2.length ≤ 9223372036854775807) :
    Calls Tryz.prog 28 #[.agg #[.string ⟨c.1.toArray⟩, .string ⟨c.2.1.toArray⟩, va]] w (SgQ w c) := by
  obtain ⟨ss, sa, xs⟩ := c
  dsimp only at ha h1 h2 h3 ⊢
  obtain ⟨ga, gc, rfl, hpa⟩ := ha
  have g1 := gr_alloc (gr_refl w none) (.cells #[.string ⟨ss.toArray⟩, .string ⟨sa.toArray⟩, .slice ga xs.length gc] 59)
  have HPA := hid (hpa.grown g1)
  have G1 := hid g1
  clear hpa g1
  by_cases hl : 40 < xs.length
  · have hl' : (40 : Int) < (xs.length : Int) := by omega
    clear hl
    go_enter Tryz.func28, Tryz.ntmps28
    go_wp2
    go_ret
    exact ⟨by (repeat (first | exact gr_refl _ _ | assumption | refine gr_drew ?_ | refine gr_drewN _ ?_ | refine gr_alloc ?_ _ | refine gr_set ?_ | refine gr_set_new ?_ (by first | omega | (simp; omega)))), _, rfl, fun h => by cases h⟩
  by_cases hs : 3000 < ss.length
  · have hl' : ¬ (40 : Int) < (xs.length : Int) := by omega
    have hs' : (3000 : Int) < (ss.length : Int) := by omega
    clear hl hs
    go_enter Tryz.func28, Tryz.ntmps28
    go_wp2
    go_ret
    exact ⟨by (repeat (first | exact gr_refl _ _ | assumption | refine gr_drew ?_ | refine gr_drewN _ ?_ | refine gr_alloc ?_ _ | refine gr_set ?_ | refine gr_set_new ?_ (by first | omega | (simp; omega)))), _, rfl, fun h => by cases h⟩
  by_cases ha : 300 < sa.length
  · have hl' : ¬ (40 : Int) < (xs.length : Int) := by omega
    have hs' : ¬ (3000 : Int) < (ss.length : Int) := by omega
    have ha' : (300 : Int) < (sa.length : Int) := by omega
    clear hl hs ha
    go_enter Tryz.func28, Tryz.ntmps28
    go_wp2
    go_ret
    exact ⟨by (repeat (first | exact gr_refl _ _ | assumption | refine gr_drew ?_ | refine gr_drewN _ ?_ | refine gr_alloc ?_ _ | refine gr_set ?_ | refine gr_set_new ?_ (by first | omega | (simp; omega)))), _, rfl, fun h => by cases h⟩
  have hl' : ¬ (40 : Int) < (xs.length : Int) := by omega
  have hs' : ¬ (3000 : Int) < (ss.length : Int) := by omega
  have ha' : ¬ (300 : Int) < (sa.length : Int) := by omega
  have HSM := hid (show ss.length ≤ 3000 ∧ sa.length ≤ 300 ∧ xs.length ≤ 40 from ⟨by omega, by omega, by omega⟩)
  clear hl hs ha
  go_enter Tryz.func28, Tryz.ntmps28
  go_wp2_with fail
  clear hl' hs' ha'
  go_loopw [24] (fun vk wr => ∃ k : Nat, vk = .int .i64 k ∧ k ≤ xs.length ∧ Hid (w.grownBy wr none) ∧ Hid (PairsAt wr ga xs.length (aN xs) (aV xs)) ∧ Hid (∀ j, j < k → (xs.getD j ([], [])).1.length ≤ 300 ∧ (xs.getD j ([], [])).2.length ≤ 9000)) (fun vk _ => xs.length - (intOf vk).toNat)
  case atStart => exact ⟨0, rfl, Nat.zero_le _, G1, HPA, hid (fun j hj => by omega)⟩
  case round =>
    obtain ⟨k, rfl, hk, gr, hp, hall⟩ := hrel
    by_cases hlt : k < xs.length
    · obtain ⟨b, o, rfl, hq⟩ : ∃ b o, ga = some ⟨b, o, none⟩ ∧ ∀ i, i < xs.length → PairAt wr b (o + i * 2) (aN xs i) (aV xs i) := by
        rcases hp.out with h | h
        · omega
        · exact h
      have c0 := (hq k hlt).c0
      have c1 := (hq k hlt).c1
      have HX := hid (show xs.getD k ([], []) = xs.getD k ([], []) from rfl)
      unfold aN at c0
      unfold aV at c1
      obtain ⟨x, hx⟩ : ∃ x, x = xs.getD k ([], []) := ⟨_, rfl⟩
      rw [← hx] at c0 c1
      have HX := hid hx
      have gk := gr_alloc (gr_refl wr none) (.cells #[.string ⟨x.1.toArray⟩, .string ⟨x.2.toArray⟩] 46)
      have GK := hid (gr_trans gr.out gk)
      have PK := hid (hp.out.grown gk)
      have hk0 : (0 : Int) ≤ (k : Int) := by omega
      have hk1 : (k : Int) < (xs.length : Int) := by omega
      have hk2 : (k : Int) + 1 ≤ 41 := by have := HSM.out.2.2; omega
      clear hq hx gk
      by_cases hn : 300 < x.1.length
      · have hn' : (300 : Int) < (x.1.length : Int) := by omega
        clear hn hall
        go_wp2
        go_ret
        exact ⟨GK.out, _, rfl, fun h => by cases h⟩
      by_cases hv : 9000 < x.2.length
      · have hn' : ¬ (300 : Int) < (x.1.length : Int) := by omega
        have hv' : (9000 : Int) < (x.2.length : Int) := by omega
        clear hn hv hall
        go_wp2
        go_ret
        exact ⟨GK.out, _, rfl, fun h => by cases h⟩
      have hn' : ¬ (300 : Int) < (x.1.length : Int) := by omega
      have hv' : ¬ (9000 : Int) < (x.2.length : Int) := by omega
      have HALL := hid (show ∀ j, j < k + 1 → (xs.getD j ([], [])).1.length ≤ 300 ∧ (xs.getD j ([], [])).2.length ≤ 9000 from fun j hj => by
        by_cases hjk : j = k
        · subst hjk
          rw [← HX.out]
          exact ⟨by omega, by omega⟩
        · exact hall.out j (by omega))
      clear hn hv hall
      go_wp2
      go_roundw
      case rel => exact ⟨k + 1, by go_num, by omega, GK, PK, HALL⟩
      case measure => simp [intOf]; omega
    · obtain rfl : k = xs.length := by omega
      have HC := hid (show SmC (ss, sa, xs) from ⟨HSM.out.1, HSM.out.2.1, HSM.out.2.2, fun x hx => by
        obtain ⟨i, hi, rfl⟩ := List.getElem_of_mem hx
        have := hall.out i hi
        rw [List.getD_eq_getElem?_getD, List.getElem?_eq_getElem hi] at this
        exact this⟩)
      clear hall
      go_wp2
      go_ret
      exact ⟨gr.out, _, rfl, fun _ => HC.out⟩
end Go.Proofs.YtmofnoconhgjmaaGreatDoor
/- hearthlaw18.SoapFinds: the walk. -/
namespace Go.Proofs.YtmofnoconhgjmaaGreatDoor
open Go.RowKit
set_option linter.unusedVariables false
set_option linter.unusedSimpArgs false

theorem parse_nil : parseL [] = (El.zero, 11) := by kernel_rfl
theorem smo_seal (e : El) : SmO (sealE e) := ⟨by simp [sealE, Fo.len], by simp [sealE], by simp [sealE, Fo.hd]⟩
theorem smo_zero : SmO El.zero := ⟨by simp [El.zero, Fo.len], by simp [El.zero], by simp [El.zero, Fo.hd]⟩
/-- Decoding what an error's envelope is: no call. -/
theorem decode_fault (w : World) (v : Value) (n : Nat) (m : Int) (hv : v = .slice none 0 0 ∨ ∃ ws, FltOk w v (faultE (Lib.itoa (n : Int)) ws)) (hm : w.cell? ⟨0, 0, none⟩ = some (.int .i64 m)) :
    Calls Tryz.prog 30 #[v] w fun e w' => w.grownBy w' none ∧ ∃ (s n a c l : _) , e = .returned (.tuple #[.agg #[.string ⟨s⟩, .string ⟨n⟩, .slice a l c], .int .i64 11]) := by
  have key : ∀ l, Bytes w v l → l.length ≤ 20000 → SmO (parseL l).1 → (openL (parseL l)).1.kids.len ≤ 100 → (decL (parseL l)).2 = 11 → Calls Tryz.prog 30 #[v] w fun e w' => w.grownBy w' none ∧ ∃ (s n a c l : _) , e = .returned (.tuple #[.agg #[.string ⟨s⟩, .string ⟨n⟩, .slice a l c], .int .i64 11]) := by
    intro l hb hl hs hk h11
    refine (decode_any w v l m hb hm hl hs hk).mono ?_
    rintro e w' ⟨g, va, rfl, a, c, rfl, -⟩
    rw [h11]
    exact ⟨g, _, _, _, _, _, rfl⟩
  rcases hv with rfl | ⟨ws, hb, hl, hok, hcn⟩
  · refine key [] ⟨none, 0, rfl, by simp, by simp [maxLen], fun h => absurd rfl h⟩ (by simp) (by rw [parse_nil]; exact smo_zero) (by rw [parse_nil]; decide) dec_nil
  · have hp := parse_seal hok hcn hl
    refine key _ hb (by omega) (by rw [hp]; exact smo_seal _) (by rw [hp, open_seal]; simp [faultE, Fo.len]) (by rw [hp]; exact dec_fault _ _)
set_option maxRecDepth 100000 in
set_option maxHeartbeats 20000000 in
theorem soap_finds_walk (va : Value) (c : Ca) (other : Bs) (m : Int) (w : World) (ha : ArgsC w va c.2.2) (h1 : c.1.length ≤ 9223372036854775807) (h2 : c.2.1.length ≤ 9223372036854775807) (h3 : c.2.2.length ≤ 9223372036854775807) (h4 : other.length ≤ 9223372036854775807)
    (h10 : P10 w) (hm : w.cell? ⟨0, 0, none⟩ = some (.int .i64 m)) :
    Calls Tryz.prog 7 #[.agg #[.string ⟨c.1.toArray⟩, .string ⟨c.2.1.toArray⟩, va], .string ⟨other.toArray⟩] w fun e w' => e = .returned (.bool true) ∧ w.grownBy w' none := by
  obtain ⟨ss, sa, xs⟩ := c
  dsimp only at ha h1 h2 h3 ⊢
  have HA := hid ha
  obtain ⟨ga, gc, rfl, hcap, hmax, hpa⟩ := ha
  have n1 := heap_alloc_new w (.cells #[.string ⟨ss.toArray⟩, .string ⟨sa.toArray⟩, .slice ga xs.length gc] tCall)
  have g1 := gr_alloc (gr_refl w none) (.cells #[.string ⟨ss.toArray⟩, .string ⟨sa.toArray⟩, .slice ga xs.length gc] tCall)
  obtain ⟨w1, hw1⟩ : ∃ x, x = w.alloc (.cells #[.string ⟨ss.toArray⟩, .string ⟨sa.toArray⟩, .slice ga xs.length gc] tCall) := ⟨_, rfl⟩
  obtain ⟨pb, hpb⟩ : ∃ x, x = w.heap.size := ⟨_, rfl⟩
  rw [← hw1] at n1 g1
  rw [← hpb] at n1
  have N1 := hid n1
  have G1 := hid g1
  have HM := hid hm
  have HP := hid h10
  have HB := hid (show ss.length ≤ 9223372036854775807 ∧ sa.length ≤ 9223372036854775807 ∧ xs.length ≤ 9223372036854775807 from ⟨h1, h2, h3⟩)
  have HW1 := hid hw1
  have HPB := hid hpb
  have HSP := hid (soap_speaks w1)
  clear n1 g1 hw1 hpb hm h10 hcap hmax hpa h1 h2 h3
  go_enter Tryz.func7, Tryz.ntmps7
  go_upto_region 1 with fail
  rw [← HW1.out, ← HPB.out]
  clear HW1 HPB
  go_wp2_with fail
  refine HSP.out.mono ?_
  rintro e2 w2 ⟨rfl, g2⟩
  have N2 := hid (gr_keep g2 N1.out (by simp))
  have G2 := hid (gr_trans G1.out g2)
  clear g2 N1 G1 HSP
  have c0 : w2.cell? ⟨pb, 0, none⟩ = some (.string ⟨ss.toArray⟩) := cell_of_block N2.out 0
  have c1 : w2.cell? ⟨pb, 1, none⟩ = some (.string ⟨sa.toArray⟩) := cell_of_block N2.out 1
  have c2 : w2.cell? ⟨pb, 2, none⟩ = some (.slice ga xs.length gc) := cell_of_block N2.out 2
  go_wp2_with fail
  refine (soap_great w2 _ (ss, sa, xs) ((HA.out.grow G2.out).at) HB.out.1 HB.out.2.1 HB.out.2.2).mono ?_
  rintro e3 w3 ⟨g3, b3, rfl, h3⟩
  have N3 := hid (gr_keep g3 N2.out (by simp))
  have G3 := hid (gr_trans G2.out g3)
  have H3 := hid h3
  clear g3 h3 N2 G2 c0 c1 c2
  cases b3 with
  | true =>
    go_wp2_with fail
    go_ret
    exact ⟨rfl, G3.out⟩
  | false =>
  by_cases ho : 300 < other.length
  · have ho' : (300 : Int) < (other.length : Int) := by omega
    clear ho
    go_wp2_with fail
    go_ret
    exact ⟨rfl, G3.out⟩
  have ho' : ¬ (300 : Int) < (other.length : Int) := by omega
  have HO := hid (show other.length ≤ 300 by omega)
  have HSM := hid (H3.out rfl)
  clear ho H3
  have c0 : w3.cell? ⟨pb, 0, none⟩ = some (.string ⟨ss.toArray⟩) := cell_of_block N3.out 0
  have c1 : w3.cell? ⟨pb, 1, none⟩ = some (.string ⟨sa.toArray⟩) := cell_of_block N3.out 1
  have c2 : w3.cell? ⟨pb, 2, none⟩ = some (.slice ga xs.length gc) := cell_of_block N3.out 2
  have EC := hid (encode_any w3 _ (ss, sa, xs) m (HA.out.grow G3.out) (G3.out.cell HM.out (by simp)) HSM.out)
  go_wp2_with fail
  refine EC.out.mono ?_
  rintro e4 w4 ⟨g4, v4, k4, rfl, h4⟩
  have N4 := hid (gr_keep g4 N3.out (by simp))
  have G4 := hid (gr_trans G3.out g4)
  clear g4 N3 G3 c0 c1 c2 EC ho'
  rcases h4 with ⟨hk, rfl⟩ | ⟨rfl, hne, hone, h16, hby, hlen, hok, hcn⟩
  · have e1 : (k4 == 0) = false := beq_eq_false_iff_ne.2 hk
    clear hk
    go_wp2_with fail
    go_ret
    exact ⟨rfl, G4.out⟩
  have hp := parse_seal hok hcn hlen
  have HD := hid (decode_any w4 v4 _ m hby (G4.out.cell HM.out (by simp)) (by omega) (by rw [hp]; exact smo_seal _) (by rw [hp, open_seal]; show (encF xs).len ≤ 100; rw [encF_len]; have h16' : xs.length ≤ 16 := h16; omega))
  rw [hp, dec_enc (ss, sa, xs) hne hone h16] at HD
  have HONE := hid hone
  have H16 := hid (show xs.length ≤ 16 from h16)
  obtain ⟨a4, d4, rfl, -⟩ := hby
  clear hp hok hcn hlen hne hone h16 
  generalize textE (sealE (encE (ss, sa, xs))) = T at *
  go_wp2_with fail
  refine HD.out.mono ?_
  rintro e5 w5 ⟨g5, vd, rfl, hd5⟩
  dsimp only at hd5 ⊢
  rw [show (((0 : Nat)) : Int) = 0 from rfl]
  obtain ⟨da, dc, rfl, hpd⟩ := hd5
  have g6 := World.grownBy_alloc w5 (.cells #[.string ⟨ss.toArray⟩, .string ⟨sa.toArray⟩, .slice da xs.length dc] tCall) none
  have n6 := heap_alloc_new w5 (.cells #[.string ⟨ss.toArray⟩, .string ⟨sa.toArray⟩, .slice da xs.length dc] tCall)
  obtain ⟨w6, hw6⟩ : ∃ x, x = w5.alloc (.cells #[.string ⟨ss.toArray⟩, .string ⟨sa.toArray⟩, .slice da xs.length dc] tCall) := ⟨_, rfl⟩
  obtain ⟨db, hdb⟩ : ∃ x, x = w5.heap.size := ⟨_, rfl⟩
  rw [← hw6] at g6 n6
  rw [← hdb] at n6
  have N6 := hid (gr_keep (gr_trans g5 g6) N4.out (by simp))
  have D6 := hid n6
  have G6 := hid (gr_trans G4.out (gr_trans g5 g6))
  have HPD := hid (hpd.grown g6)
  have HPA := hid (show ∃ a c, (Value.slice ga xs.length gc) = .slice a xs.length c ∧ PairsAt w a xs.length (aN xs) (aV xs) from by
    obtain ⟨a, c, e, -, -, h⟩ := HA.out
    exact ⟨a, c, e, h⟩)
  have HW6 := hid hw6
  have HDB := hid hdb
  clear g5 g6 n6 hw6 hdb hpd N4 G4 HD
  go_upto_region 9 with fail
  rw [← HW6.out, ← HDB.out]
  clear HW6 HDB
  have c2 : w6.cell? ⟨pb, 2, none⟩ = some (.slice ga xs.length gc) := cell_of_block N6.out 2
  go_wp2_with fail
  clear c2
  go_loopw [9, 47] (fun ut vk wr => ∃ k : Nat, vk = .int .i64 k ∧ k ≤ xs.length ∧ ut = .bool (hasN (xs.take k) other) ∧ Hid (w6.grownBy wr none)) (fun _ vk _ => xs.length - (intOf vk).toNat)
  case atStart => exact ⟨0, rfl, Nat.zero_le _, rfl, hid (gr_refl _ _)⟩
  case round =>
    obtain ⟨k, rfl, hk, rfl, gr⟩ := hrel
    have DR := hid (gr_keep gr.out D6.out (by simp))
    have NR := hid (gr_keep gr.out N6.out (by simp))
    have GR := hid (gr_trans G6.out gr.out)
    have d2 : wr.cell? ⟨db, 2, none⟩ = some (.slice da xs.length dc) := cell_of_block DR.out 2
    by_cases hlt : k < xs.length
    · obtain ⟨b, o, rfl, hq⟩ : ∃ b o, ga = some ⟨b, o, none⟩ ∧ ∀ i, i < xs.length → PairAt wr b (o + i * 2) (aN xs i) (aV xs i) := by
        obtain ⟨a, c, e, h⟩ := HPA.out
        simp only [Value.slice.injEq] at e
        obtain ⟨rfl, -, rfl⟩ := e
        rcases h.grown GR.out with h | h
        · omega
        · exact h
      have c0 := (hq k hlt).c0
      have c1 := (hq k hlt).c1
      unfold aN at c0
      unfold aV at c1
      have HMEM := hid (show xs.getD k ([], []) ∈ xs by rw [List.getD_eq_getElem?_getD, List.getElem?_eq_getElem hlt]; exact List.getElem_mem hlt)
      have HT := hid (show xs.take (k + 1) = xs.take k ++ [xs.getD k ([], [])] by rw [List.take_add_one, List.getD_eq_getElem?_getD, List.getElem?_eq_getElem hlt]; rfl)
      generalize xs.getD k ([], []) = x at *
      have HF := hid (oneN_mem xs [] HONE.out x HMEM.out).2
      have HH := hid (show hasN xs x.1 = true by unfold hasN; exact List.any_eq_true.2 ⟨x, HMEM.out, by simp⟩)
      have hk0 : (0 : Int) ≤ (k : Int) := by omega
      have hk1 : (k : Int) < (xs.length : Int) := by omega
      have hk2 : (k : Int) + 1 ≤ 17 := by have := H16.out; omega
      have gk := World.grownBy_alloc wr (.cells #[.string ⟨x.1.toArray⟩, .string ⟨x.2.toArray⟩] tArg) none
      have nk := heap_alloc_new wr (.cells #[.string ⟨x.1.toArray⟩, .string ⟨x.2.toArray⟩] tArg)
      obtain ⟨wk, hwk⟩ : ∃ y, y = wr.alloc (.cells #[.string ⟨x.1.toArray⟩, .string ⟨x.2.toArray⟩] tArg) := ⟨_, rfl⟩
      obtain ⟨kb, hkb⟩ : ∃ y, y = wr.heap.size := ⟨_, rfl⟩
      rw [← hwk] at gk nk
      rw [← hkb] at nk
      have DK := hid (gr_keep gk DR.out (by simp))
      have BK := hid nk
      have GK := hid (gr_trans gr.out gk)
      have FI := hid (find_args wk (.slice da xs.length dc) xs x.1 ⟨da, dc, rfl, HPD.out.grown GK.out⟩ (by have := H16.out; omega))
      rw [HF.out, HH.out] at FI
      have HWK := hid hwk
      have HKB := hid hkb
      clear gk nk hwk hkb hq DR NR GR gr
      go_upto_region 15 with fail
      rw [← HWK.out, ← HKB.out]
      clear HWK HKB c0 c1 d2
      have d2 : wk.cell? ⟨db, 2, none⟩ = some (.slice da xs.length dc) := cell_of_block DK.out 2
      have b0 : wk.cell? ⟨kb, 0, none⟩ = some (.string ⟨x.1.toArray⟩) := cell_of_block BK.out 0
      go_wp2_with fail
      refine FI.out.mono ?_
      rintro e ws ⟨rfl, gs⟩
      dsimp only [Option.getD_some]
      have BS := hid (gr_keep gs BK.out (by simp))
      have GS := hid (gr_trans GK.out gs)
      clear gs DK BK GK FI d2 b0
      have b0 : ws.cell? ⟨kb, 0, none⟩ = some (.string ⟨x.1.toArray⟩) := cell_of_block BS.out 0
      have b1 : ws.cell? ⟨kb, 1, none⟩ = some (.string ⟨x.2.toArray⟩) := cell_of_block BS.out 1
      have HN := hid (show hasN (xs.take (k + 1)) other = (hasN (xs.take k) other || decide (x.1 = other)) by
        rw [HT.out]
        unfold hasN
        rw [List.any_append]
        simp)
      generalize hasN (xs.take k) other = th at *
      cases th with
      | true =>
        go_wp2_with fail
        go_roundw
        case rel => exact ⟨k + 1, by go_num, by omega, by rw [HN.out]; rfl, GS⟩
        case measure => simp [intOf]; omega
      | false =>
        by_cases he : x.1 = other
        · have f1 : (x.1 == other) = true := beq_iff_eq.2 he
          have HE := hid he
          clear he
          go_wp2_with fail
          go_roundw
          case rel => exact ⟨k + 1, by go_num, by omega, by rw [HN.out, decide_eq_true HE.out]; rfl, GS⟩
          case measure => simp [intOf]; omega
        · have f1 : (x.1 == other) = false := beq_eq_false_iff_ne.2 he
          have HE := hid he
          clear he
          go_wp2_with fail
          go_roundw
          case rel => exact ⟨k + 1, by go_num, by omega, by rw [HN.out, decide_eq_false HE.out]; rfl, GS⟩
          case measure => simp [intOf]; omega
    · obtain rfl : k = xs.length := by omega
      rw [List.take_length]
      have FI := hid (find_args wr (.slice da xs.length dc) xs other ⟨da, dc, rfl, HPD.out.grown gr.out⟩ (by have := H16.out; omega))
      have FA := hid (fun W (g : w.grownBy W none) => fault_any W 402 other m (by decide) (HP.out.grown g) (g.cell HM.out (by simp)) (by have := HO.out; omega))
      generalize hasN xs other = th at *
      generalize (fndA xs other).getD [] = fv at *
      go_wp2_with fail
      refine FI.out.mono ?_
      rintro e w7 ⟨rfl, g7⟩
      have G7 := hid (gr_trans GR.out g7)
      have N7 := hid (gr_keep g7 NR.out (by simp))
      clear g7 FI d2 DR NR GR gr
      go_wp2_with fail
      refine (FA.out w7 G7.out).mono ?_
      rintro e w8 ⟨g8, v8, rfl, hv8⟩
      have G8 := hid (gr_trans G7.out g8)
      have N8 := hid (gr_keep g8 N7.out (by simp))
      have DF := hid (decode_fault w8 v8 402 m hv8 (G8.out.cell HM.out (by simp)))
      clear g8 hv8 FA G7 N7
      go_wp2_with fail
      refine DF.out.mono ?_
      rintro e w9 ⟨g9, s9, n9, a9, c9, l9, rfl⟩
      have G9 := hid (gr_trans G8.out g9)
      clear g9 G8 DF
      cases th <;>
      · go_wp2_with fail
        go_ret
        exact ⟨rfl, by have := G9.out; (repeat (first | exact gr_refl _ _ | assumption | refine gr_drew ?_ | refine gr_drewN _ ?_ | refine gr_alloc ?_ _ | refine gr_set ?_ | refine gr_set_new ?_ (by first | omega | (simp; omega))))⟩
end Go.Proofs.YtmofnoconhgjmaaGreatDoor
