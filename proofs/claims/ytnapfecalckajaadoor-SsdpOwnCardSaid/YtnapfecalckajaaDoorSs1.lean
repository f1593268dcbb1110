/- ssdp.one, and what cuts a search's text; lengths of pieces. -/
import Derived.Test.YtnapfecalckajaaDoorSd3
import Derived.Test.YtnapfecalckajaaDoorShelf
namespace Go.Proofs.YtnapfecalckajaaDoor
open Go.RowKit

theorem lns_len : ∀ s : List UInt8, (lns s).length ≤ s.length + 1
  | [] => by rw [lns_nil]; simp
  | c :: s => by
    by_cases h : c = 13 ∧ s.head? = some 10
    · obtain ⟨rfl, hs⟩ := h
      cases s with
      | nil => simp at hs
      | cons d s =>
        obtain rfl : d = 10 := by simpa using hs
        have := lns_len s
        rw [lns_cut]; simp; omega
    · have := lns_len s
      rw [lns_cons h]
      cases hl : lns s with
      | nil => simp
      | cons p ps => rw [hl] at this; simp only [List.length_cons] at this ⊢; omega
theorem lns_each : ∀ s : List UInt8, ∀ p ∈ lns s, p.length ≤ s.length
  | [] => by rw [lns_nil]; simp
  | c :: s => by
    intro p hp
    by_cases h : c = 13 ∧ s.head? = some 10
    · obtain ⟨rfl, hs⟩ := h
      cases s with
      | nil => simp at hs
      | cons d s =>
        obtain rfl : d = 10 := by simpa using hs
        rw [lns_cut] at hp
        rcases List.mem_cons.1 hp with rfl | hp
        · simp
        · have := lns_each s p hp
          simp; omega
    · rw [lns_cons h] at hp
      cases hl : lns s with
      | nil => exact absurd hl (lns_ne s)
      | cons q ps =>
        rw [hl] at hp
        rcases List.mem_cons.1 hp with rfl | hp
        · have := lns_each s q (by rw [hl]; simp)
          simp; omega
        · have := lns_each s p (by rw [hl]; simp [hp])
          simp; omega
theorem trimSuffix_len (t c : List UInt8) : (Lib.trimSuffix t c).length ≤ t.length := by
  unfold Lib.trimSuffix; split <;> simp
theorem split_str (l : List UInt8) : (Lib.splitB ⟨#[13, 10]⟩ 0 (Lib.countB ⟨l.toArray⟩ ⟨#[13, 10]⟩) ⟨l.toArray⟩).map Value.string = (lns l).map str := by
  have h := Lib.splitB_data ⟨#[13, 10]⟩ 0 (Lib.countB ⟨l.toArray⟩ ⟨#[13, 10]⟩) ⟨l.toArray⟩
  have h2 : Lib.splitK [13, 10] 0 (Lib.countB ⟨l.toArray⟩ ⟨#[13, 10]⟩) l = lns l := split_lns l.length l (Nat.le_refl _)
  have h3 : (Lib.splitB ⟨#[13, 10]⟩ 0 (Lib.countB ⟨l.toArray⟩ ⟨#[13, 10]⟩) ⟨l.toArray⟩).map (·.data.toList) = lns l := h.trans h2
  rw [← h3, List.map_map]
  rfl
theorem split_cnt (l : List UInt8) : Lib.countB ⟨l.toArray⟩ ⟨#[13, 10]⟩ + 1 = (lns l).length := by
  have := Lib.splitB_all ⟨#[13, 10]⟩ (by decide) 0 _ ⟨l.toArray⟩ rfl
  rw [← this]
  have h := congrArg List.length (split_str l)
  simpa using h
theorem split_crlf (l : List UInt8) (m : Int) (w : World) (hm : w.cell? ⟨0, 0, none⟩ = some (.int .i64 m)) (hl : l.length ≤ 100000) :
    Calls Tryd.prog 31 #[.string ⟨l.toArray⟩, .string ⟨#[13, 10]⟩] w fun e w' => e = .returned (.slice (some ⟨w.heap.size, 0, none⟩) (lns l).length (lns l).length) ∧ w' = w.alloc (.cells ((lns l).map str).toArray 9) := by
  have h := Tryd.strings_Split ⟨l.toArray⟩ ⟨#[13, 10]⟩ m w (by rw [Lib.size_eq]; simp; omega) hm (by decide)
  rw [split_cnt, split_str] at h
  exact h
set_option maxHeartbeats 1000000 in
theorem one_any (w : World) (v : Value) (fs : List (List UInt8 × List UInt8)) (name : List UInt8) (h : FsAt w v fs) (hl : fs.length ≤ 100000) :
    Calls Tryd.prog 15 #[v, .string ⟨name.toArray⟩] w fun e w' => e = .returned (.tuple #[str (oneL fs name).1, .bool (oneL fs name).2]) ∧ w.grownBy w' none := by
  obtain ⟨a, c, rfl⟩ := h.shape
  have HG := hid (get_sat w _ fs name h (by omega))
  clear h
  obtain ⟨xs, hxs⟩ : ∃ xs, getL fs name = xs := ⟨_, rfl⟩
  have HX := hid hxs
  clear hxs
  go_enter Tryd.func15, Tryd.ntmps15
  go_wp2_with fail
  refine HG.out.mono ?_
  rw [HX.out]
  rintro e w2 ⟨v', rfl, ⟨a', cap, rfl, h1, h2⟩, g⟩
  have G := hid g
  clear g HG
  match xs, HX, h1, h2 with
  | [], HX, _, _ =>
    have HO := hid (show oneL fs name = ([], false) by unfold oneL; rw [HX.out])
    clear HX
    go_wp2
    go_ret2
    exact ⟨by rw [HO.out]; rfl, G.out⟩
  | [x], HX, _, h2 =>
    have HO := hid (show oneL fs name = (x, true) by unfold oneL; rw [HX.out])
    obtain ⟨g0, rfl, hc⟩ := h2 0 x rfl
    unfold str at hc
    clear h2 HX
    go_wp2
    go_ret2
    exact ⟨by rw [HO.out]; rfl, G.out⟩
  | x :: y :: r, HX, _, _ =>
    have HO := hid (show oneL fs name = ([], false) by unfold oneL; rw [HX.out])
    have hne : (((x :: y :: r).length : Int) != 1) = true := by rw [bne_iff_ne]; simp only [List.length_cons]; omega
    obtain ⟨n, hn⟩ : ∃ n, n = (x :: y :: r).length := ⟨_, rfl⟩
    rw [← hn] at hne ⊢
    clear hn HX
    go_wp2
    go_ret2
    exact ⟨by rw [HO.out]; rfl, G.out⟩
end Go.Proofs.YtnapfecalckajaaDoor
