/- Parts and fresh bytes in a grown world; copy over two bytes. -/
import Derived.Test.YtjpkmbgpkdomnaaDoorWr1
import Derived.Test.YtjpkmbgpkdomnaaDoorReg
import Derived.Test.YtjpkmbgpkdomnaaDoorAp1
import Derived.Laws.IdiomCopy
namespace Go.Proofs.YtjpkmbgpkdomnaaDoor
open Go.RowKit

theorem holds_grown {w w' : World} {v : Value} {l : List UInt8} (h : Lib.HoldsBytes w v l) (g : w.grownBy w' none) : Lib.HoldsBytes w' v l := by
  obtain ⟨a, c, e, h1, h2⟩ := h
  exact ⟨a, c, e, h1, fun ad e i x hx => g.cell (h2 ad e i x hx) (by simp)⟩
theorem parts_grown {w w' : World} {a : Addr} {vs : List Value} {ls : List (List UInt8)} (h : Lib.PartsAt w a vs ls) (g : w.grownBy w' none) : Lib.PartsAt w' a vs ls :=
  ⟨h.1, fun i v hv => g.cell (h.2.1 i v hv) (by simp), fun i v l hv hl => holds_grown (h.2.2 i v l hv hl) g⟩
theorem fresh_grown {B : Nat} {w w' : World} {v : Value} {l : List UInt8} (h : Lib.FreshBytes B w v l) (g : w.grownBy w' none) : Lib.FreshBytes B w' v l := by
  obtain ⟨b, cap, zs, rfl, h1, h2, h3, h4, h5, h6, h7, h8⟩ := h
  refine ⟨b, cap, zs, rfl, h1, h2, h3, h4, h5, h6, fun i hi => g.cell (h7 i hi) (by simp), fun i hi => ?_⟩
  have hb := World.block_lt_of_cell? _ _ (h7 i hi)
  have := g.block b hb (by simp)
  rw [← h8 i hi]
  simp only [World.frozen?, this]
theorem fresh_base {B B' : Nat} {w : World} {v : Value} {l : List UInt8} (h : Lib.FreshBytes B w v l) (hb : B' ≤ B) : Lib.FreshBytes B' w v l := by
  obtain ⟨b, cap, zs, rfl, h1, r⟩ := h
  exact ⟨b, cap, zs, rfl, Nat.le_trans hb h1, r⟩
theorem step_copy_cells {ops : Array Oper} {o : Oper} {a : Act} {w : World} {K : Act → World → Prop} {Q : Exit → Act → World → Prop} {E : Prop} (hgd : o.guard = none) (d s : Operand)
    (ho : o.op = .call { callee := .builtin .copy, args := #[d, s], argTypes := #[45, 45] })
    (b of dLen dCap : Nat) (ad : Addr) (sLen sCap : Nat) (cs : List Value) (hd : a.eval d = .slice (some ⟨b, of, none⟩) dLen dCap) (hs : a.eval s = .slice (some ad) sLen sCap) (hn : cs.length = Nat.min sLen dLen)
    (hsrc : ∀ j v, cs[j]? = some v → w.cell? (ad.add j) = some v) (hc : ∀ j, j < cs.length → (w.cell? ⟨b, of + j, none⟩).isSome = true) (hf : ∀ j, j < cs.length → w.frozen? ⟨b, of + j, none⟩ = false) (h1 : ∀ v ∈ cs, v.oneCell' = true)
    (h : K (a.put o.dst (goInt cs.length)) (w.setCells b of cs)) : if Region.wanted o (yielded ops a.tmps) = true then Oper.wp Tryd.prog o a w K Q else E := by
  have hw : Region.wanted o (yielded ops a.tmps) = true := by simp [Region.wanted, hgd]
  rw [if_pos hw]
  have hsz : (Tryd.prog.info? 5).map (·.size) = some 1 := by kernel_rfl
  have hrun := run_copy_cells (P := Tryd.prog) w 45 45 o.type 5 b of dLen dCap ad sLen sCap cs Tryd.underlying45 hsz hn hsrc hc hf h1
  unfold Oper.wp
  simp [execOp, ho, resolve, invoke, builtin, hd, hs, hrun, Result.andThen]
  exact h
def AllB (w : World) : List Value → List (List UInt8) → Prop
  | [], [] => True
  | v :: vs, l :: ls => Bytes w v l ∧ AllB w vs ls
  | _, _ => False
theorem allB_at {w : World} : ∀ (vs : List Value) (ls : List (List UInt8)), AllB w vs ls → vs.length = ls.length ∧ ∀ (i : Nat) v l, vs[i]? = some v → ls[i]? = some l → Bytes w v l
  | [], [], _ => ⟨rfl, fun i v l h => by simp at h⟩
  | [], _ :: _, h => h.elim
  | _ :: _, [], h => h.elim
  | v :: vs, l :: ls, h => by
    obtain ⟨h1, h2⟩ := allB_at vs ls h.2
    refine ⟨by simp [h1], fun i v' l' hv hl => ?_⟩
    cases i with
    | zero =>
      obtain rfl : v = v' := by simpa using hv
      obtain rfl : l = l' := by simpa using hl
      exact h.1
    | succ i => exact h2 i v' l' (by simpa using hv) (by simpa using hl)
theorem parts_build {w : World} {g : Nat} {vs : List Value} {ls : List (List UInt8)} {t : TypeId} (h : w.heap[g]? = some (.cells vs.toArray t (0, 0))) (hb : AllB w vs ls) : Lib.PartsAt w ⟨g, 0, none⟩ vs ls := by
  obtain ⟨h1, h2⟩ := allB_at vs ls hb
  refine ⟨h1, fun i v hv => ?_, fun i v l hv hl => holds_of (h2 i v l hv hl)⟩
  rw [Go.WideShapes.add_plain, Nat.zero_add, cell_of_block h]
  simpa using hv
/-- A fresh slice of bytes reads as bytes, and may be written. -/
theorem fresh_cells {B : Nat} {w : World} {v : Value} {l : List UInt8} (h : Lib.FreshBytes B w v l) : ∃ g cap, v = .slice (some ⟨g, 0, none⟩) l.length cap ∧ B ≤ g ∧ l.length ≤ cap ∧ cap ≤ maxLen ∧ (∀ i, i < l.length → w.cell? ⟨g, i, none⟩ = some (bv (l.getD i 0))) ∧ ∀ i, i < l.length → w.frozen? ⟨g, i, none⟩ = false := by
  have hb := bytes_fresh h
  obtain ⟨g, cap, zs, rfl, h1, h2, h3, h4, h5, h6, h7, h8⟩ := h
  refine ⟨g, cap, rfl, h1, h2, h3, fun i hi => ?_, fun i hi => h8 i (by omega)⟩
  obtain ⟨b, o, e, hc⟩ := hb.cellAt (by omega)
  simp only [Option.some.injEq, Addr.mk.injEq, and_true] at e
  obtain ⟨rfl, rfl⟩ := e
  have := hc i hi
  rw [Nat.zero_add] at this
  exact this
/-- Bytes whose cells are written. -/
theorem bytes_set {w : World} {g n cap : Nat} {l : List UInt8} (hl : l.length = n) (hc : n ≤ cap) (hm : cap ≤ maxLen) (h : ∀ i, i < n → w.cell? ⟨g, i, none⟩ = some (bv (l.getD i 0))) : Bytes w (.slice (some ⟨g, 0, none⟩) n cap) l := by
  subst hl
  exact ⟨_, cap, rfl, hc, hm, fun _ => ⟨g, 0, rfl, fun i hi => by rw [Nat.zero_add]; exact h i hi⟩⟩
theorem setCells_grown (b : Nat) : ∀ (vs : List Value) (o : Nat) (w : World), w.grownBy (w.setCells b o vs) (some b)
  | [], _, w => gr_refl w _
  | _ :: vs, o, w => gr_trans (gr_set (gr_refl w (some b))) (setCells_grown b vs (o + 1) _)
theorem head_copied {w : World} {g : Nat} {l : List UInt8} {x y : UInt8} (hl : l.length = 20) (hc : ∀ i, i < 20 → w.cell? ⟨g, i, none⟩ = some (bv (l.getD i 0))) :
    ∀ i, i < 20 → (w.setCells g 10 [bv x, bv y]).cell? ⟨g, i, none⟩ = some (bv (((l.set 10 x).set 11 y).getD i 0)) := by
  intro i hi
  have hin := World.cell?_setCells_in g [bv x, bv y] 10 w (fun j hj => by
    have : j < 2 := hj
    rw [hc (10 + j) (by omega)]; rfl)
  by_cases h10 : i = 10
  · subst h10
    have := hin 0 (by simp)
    rw [this]
    simp [List.getD_eq_getElem?_getD, hl]
  · by_cases h11 : i = 11
    · subst h11
      have := hin 1 (by simp)
      rw [this]
      simp [List.getD_eq_getElem?_getD, hl]
    · rw [World.cell?_setCells_out g _ 10 w ⟨g, i, none⟩ (fun _ _ => by show i < 10 ∨ 12 ≤ i; omega), hc i hi]
      simp only [List.getD_eq_getElem?_getD]
      rw [List.getElem?_set_ne (by omega), List.getElem?_set_ne (by omega)]
theorem hdF_copied (p : Pk) (f c : Nat) : ∃ x y : UInt8, beL 2 c = [x, y] ∧ ((hdF p f 0).set 10 x).set 11 y = hdF p f c := by
  refine ⟨UInt8.ofNat (c / 256 % 256), UInt8.ofNat (c % 256), by simp [beL], ?_⟩
  simp [hdF, beL]
theorem frozen_grown {w w' : World} (g : w.grownBy w' none) {a : Addr} {v : Value} (hc : w.cell? a = some v) (hf : w.frozen? a = false) : w'.frozen? a = false := by
  have hb := World.block_lt_of_cell? _ _ hc
  have := g.block a.block hb (by simp)
  rw [← hf]
  simp only [World.frozen?, this]
theorem onum_two (n : Nat) (hn : n ≤ 65535) (x y : UInt8) (hxy : beL 2 n = [x, y]) (w : World) :
    Calls Tryd.prog 45 #[.int .i64 2, .int .u64 n] w fun e w' => ∃ bn on cn, e = .returned (.slice (some ⟨bn, on, none⟩) 2 cn) ∧ (∀ j u, [bv x, bv y][j]? = some u → w'.cell? (Addr.add ⟨bn, on, none⟩ j) = some u) ∧ w.grownBy w' none := by
  refine (onum_any 2 (by omega) (by omega) n (by omega) w).mono ?_
  rintro e w' ⟨v, rfl, -, hv, g⟩
  rw [hxy] at hv
  obtain ⟨a, c, rfl, -, -, h3⟩ := hv
  obtain ⟨b, o, rfl, hc⟩ := h3 (by simp)
  refine ⟨b, o, c, rfl, fun j u hu => ?_, g⟩
  have hj : j < 2 := by have := (List.getElem?_eq_some_iff.1 hu).1; simpa using this
  rw [Go.WideShapes.add_plain, hc j hj]
  match j, hj, hu with
  | 0, _, hu => simpa [bv] using hu
  | 1, _, hu => simpa [bv] using hu
theorem wr_join (p : Pk) (f : Nat) : Lib.join [hdS p f, p.body] [] = wrF p f := by
  simp [Lib.join, List.intercalate, wrF]
end Go.Proofs.YtjpkmbgpkdomnaaDoor
