/- strings.Builder: copyCheck, WriteString at this program (the library's laid contracts lack them). -/
import Derived.Test.YtfceodbpkghkaaaGreatDoorLib
import Derived.Test.YtfceodbpkghkaaaGreatDoorProg
import Derived.Shelf.Strings.Builder1
import Derived.Lib.Builder
import Derived.Lib.AppendStr
import Derived.Lib.UnsafeStr
import Derived.Laws.Externs
namespace Go.Proofs.YtfceodbpkghkaaaGreatDoor
open Go.RowKit

abbrev IsBld (B b : Nat) (l : List UInt8) (w : World) : Prop := Lib.IsBuilder 80 5 B b (Lib.byteCells l) w
abbrev BldAt (B b : Nat) (l : List UInt8) (w : World) : Prop := Lib.BuilderAt 80 5 B b (.pointer (some ⟨b, 0, none⟩)) (Lib.byteCells l) w
set_option maxHeartbeats 1000000 in
set_option maxRecDepth 100000 in
theorem ccheck_x (B b : Nat) (l : List UInt8) (w : World) (h : IsBld B b l w) :
    Calls Tryz.prog 71 #[.pointer (some ⟨b, 0, none⟩)] w fun e w' => e = .returned (.tuple #[]) ∧ BldAt B b l w' ∧ Below B w w' := by
  obtain ⟨j, hj, hjs⟩ := Option.map_eq_some_iff.1 (show (Tryz.prog.info? 80).map (·.size) = some 2 by kernel_rfl)
  have hlies : liesAt Tryz.prog Tryz.prog.depth 80 (2 / Tryz.prog.cellsOf 80) 0 80 1 = true := by kernel_rfl
  rcases h with h | h
  · have h0 := h.cell0
    have hsh := h.shape
    have hfz := h.frozen0
    have H := hid h
    clear h
    go_enter Tryz.func71, Tryz.ntmps71
    go_wp2_with fail
    rw [Lib.run_to_unsafe w ⟨b, 0, none⟩ Tryz.underlying78 Tryz.underlying147 hj (by rw [hjs]; decide) hsh (Nat.zero_lt_succ 1)]
    simp only [Result.andThen]
    rw [Oper.upon_value]
    go_wp2_with fail
    rw [run_callFunc_extern Tryz.func103 (by kernel_rfl) (by kernel_rfl) (by kernel_rfl) (e := Extern.AbiNoEscape.same) (by kernel_rfl), Lib.run_noEscape]
    simp only [Result.andThen]
    rw [Oper.upon_value]
    go_wp2_with fail
    rw [Lib.run_from_unsafe w ⟨b, 0, none⟩ Tryz.underlying147 Tryz.underlying78 hj hsh hlies]
    simp only [Result.andThen]
    rw [Oper.upon_value]
    go_wp2
    refine bodyPost_end (results_none rfl _ _ _) rfl ?_
    exact ⟨rfl, H.out.used _, (Below.refl B w).setCell (p := ⟨b, 0, none⟩) H.out.1 _⟩
  · have h0 := h.cell0
    have H := hid h
    clear h
    go_enter Tryz.func71, Tryz.ntmps71
    go_wp2_with fail
    rw [Lib.run_neq_ptr_same w ⟨b, 0, none⟩ Tryz.underlying78 hj]
    go_wp2
    refine bodyPost_end (results_none rfl _ _ _) rfl ?_
    exact ⟨rfl, H.out, Below.refl B w⟩
theorem infoU8b : (Tryz.prog.info? 5).map (fun i => (i.zero, i.size, i.bytes)) = some (some (.int .u8 0), 1, 1) := by kernel_rfl
set_option maxHeartbeats 1000000 in
set_option maxRecDepth 100000 in
theorem wstr_x (B b : Nat) (l s : List UInt8) (w : World) (h : IsBld B b l w) (hlen : l.length + s.length ≤ 1000000) (hBw : B ≤ w.heap.size) :
    Calls Tryz.prog 33 #[.pointer (some ⟨b, 0, none⟩), .string ⟨s.toArray⟩] w fun e w' => (∃ v, e = .returned v) ∧ BldAt B b (l ++ s) w' ∧ Below B w w' := by
  obtain ⟨i0, hi, hz0, hz1, hz2⟩ := info_parts infoU8b
  have HC := hid (ccheck_x B b l w h)
  clear h
  have hll : (Lib.byteCells l).length = l.length := by simp [Lib.byteCells]
  have hss : (ByteArray.mk s.toArray).size = s.length := Lib.size_eq _
  go_enter Tryz.func33, Tryz.ntmps33
  go_wp2_with fail
  refine HC.out.mono ?_
  rintro e w1 ⟨rfl, hbl, hb1⟩
  obtain ⟨hB, v, hbk, hown, hne⟩ := hbl
  have c0 : w1.cell? ⟨b, 0, none⟩ = some (.pointer (some ⟨b, 0, none⟩)) := by rw [Lib.cell_of_heap hbk]; rfl
  have c1 : w1.cell? ⟨b, 1, none⟩ = some v := by rw [Lib.cell_of_heap hbk]; rfl
  go_wp2_with (at_builtin; refine Lib.wpList_append_own_string _ rfl _ _ 37 9 rfl B 5 i0 Tryz.underlying37 Tryz.underlying9 hi hz0 hz1 hz2 _ _ _ rfl hown ⟨s.toArray⟩ rfl ?c3 ?c4 ?c5 ?_)
  case c3 => unfold maxLen; omega
  case c4 => omega
  case c5 => have := hb1.size; omega
  intro v' w2 hown' hgrow _
  have hb2 : w2.heap[b]? = some (.cells #[.pointer (some ⟨b, 0, none⟩), v] 80 (0, 0)) := gr_keep hgrow hbk (fun e => hne e.symm)
  have d0 := cell_of_block hb2 0
  have d1 := cell_of_block hb2 1
  have f1 := free_of_block hb2 1
  obtain ⟨ao, n', cap, rfl⟩ : ∃ ao n' cap, v' = .slice ao n' cap := by
    rcases hown'.2 with ⟨hv, _⟩ | ⟨g, cap, cur, hv, _⟩
    · exact ⟨_, _, _, hv⟩
    · exact ⟨_, _, _, hv⟩
  go_wp2
  ((try simp only [Exit.inBlock, Exit.then]); refine bodyPost_ret (results_tmp2 rfl _ _ _) rfl ?_)
  refine ⟨⟨_, rfl⟩, ?_, ?_⟩
  · refine Lib.BuilderAt.put (T := 80) (e := 5) hB hb2 (bs' := Lib.byteCells (l ++ s)) ?_ (by decide)
    have e : Lib.byteCells (l ++ s) = Lib.byteCells l ++ Lib.strCells ⟨s.toArray⟩ := by simp [Lib.byteCells, Lib.strCells]
    rw [e, List.length_append, Lib.strCells_length, hll, hss]
    exact hown'
  · exact (hb1.grown hgrow (by have := hb1.size; omega) (fun k hk => (hown.lt k hk).1)).setCell (p := ⟨b, 1, none⟩) hB _
theorem BldAt.keep {B b : Nat} {l : List UInt8} {w w' : World} (h : BldAt B b l w) (g : w.grownBy w' none) : BldAt B b l w' := by
  obtain ⟨hB, v, hb, hown, hne⟩ := h
  exact ⟨hB, v, gr_keep g hb (by simp), hown.kept g (by cases hv : v.ownBlock <;> simp), hne⟩
theorem bld_new (w : World) : IsBld w.heap.size w.heap.size [] (w.alloc (.cells #[.pointer none, .slice none 0 0] 80)) :=
  .inl ⟨Nat.le_refl _, .slice none 0 0, heap_alloc_new w _, ⟨rfl, .inl ⟨rfl, rfl⟩⟩, by simp [Value.ownBlock]⟩
theorem IsBld.keep {B b : Nat} {l : List UInt8} {w w' : World} (h : IsBld B b l w) (g : w.grownBy w' none) : IsBld B b l w' := by
  rcases h with ⟨hB, v, hb, hown, hne⟩ | ⟨hB, v, hb, hown, hne⟩
  · exact .inl ⟨hB, v, gr_keep g hb (by simp), hown.kept g (by cases hv : v.ownBlock <;> simp), hne⟩
  · exact .inr ⟨hB, v, gr_keep g hb (by simp), hown.kept g (by cases hv : v.ownBlock <;> simp), hne⟩
theorem gr_bel {w W W2 : World} {B : Nat} (hB : B = w.heap.size) (g : w.grownBy W none) (h : Below B W W2) : w.grownBy W2 none := by
  subst hB; exact gr_of_below ((gr_below g).trans h)
end Go.Proofs.YtfceodbpkghkaaaGreatDoor
