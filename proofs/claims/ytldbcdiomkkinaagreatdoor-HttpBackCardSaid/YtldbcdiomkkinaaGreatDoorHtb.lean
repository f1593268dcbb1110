/- http.keep. -/
import Derived.Test.YtldbcdiomkkinaaGreatDoorHta
namespace Go.Proofs.YtldbcdiomkkinaaGreatDoor
open Go.RowKit

set_option maxHeartbeats 1000000 in
theorem is_http (xs : List (List UInt8)) (t : List UInt8) (v : Value) (q : Nat) (w : World) (h : SAt w v xs) (hn : xs.length ≤ 200000) (hx : ∀ x ∈ xs, x.length ≤ 1000000) (ht : t.length ≤ 1000000) (hq : w.cell? ⟨q, 0, none⟩ = some v) :
    Calls Tryz.prog 83 #[.string ⟨t.toArray⟩, .pointer (some ⟨q, 0, none⟩)] w fun e w' => e = .returned (.bool (xs.any (fun x => sameL x t))) ∧ w.grownBy w' none := by
  have hmf : ∀ (fn : Fn) (first cap : Array Value) (w : World), (Instr.makeFunc fn first cap).run Tryz.prog w = .ok (.func fn first cap) w := fun _ _ _ _ => rfl
  have hb := heap_alloc_new w (.cells #[.string ⟨t.toArray⟩] 9)
  have g1 := World.grownBy_alloc w (.cells #[.string ⟨t.toArray⟩] 9) none
  have HCF := hid (containsfunc_http xs t v w.heap.size _ (h.grow g1) hn hx ht ((cell_of_block hb 0).trans rfl))
  have hq1 := g1.cell hq (by simp)
  clear hb
  obtain ⟨a, cap, rfl, -, -⟩ := h
  go_enter Tryz.func83, Tryz.ntmps83
  go_wp2_with fail
  refine HCF.out.mono ?_
  rintro e w' ⟨rfl, g⟩
  obtain ⟨z, hz⟩ : ∃ z, z = xs.any (fun x => sameL x t) := ⟨_, rfl⟩
  rw [← hz]
  have HZ := hid hz
  clear hz
  go_wp2_with fail
  go_ret
  exact ⟨by rw [← HZ.out]; rfl, gr_trans g1 g⟩
theorem getL_mem {fs : List (List UInt8 × List UInt8)} {name x : List UInt8} (h : x ∈ getL fs name) : ∃ f ∈ fs, f.2 = x := by
  unfold getL at h
  obtain ⟨f, hf, rfl⟩ := List.mem_map.1 h
  exact ⟨f, (List.mem_filter.1 hf).1, rfl⟩
theorem getL_len (fs : List (List UInt8 × List UInt8)) (name : List UInt8) : (getL fs name).length ≤ fs.length := by
  unfold getL
  rw [List.length_map]
  exact List.length_filter_le _ _
set_option maxRecDepth 20000 in
set_option maxHeartbeats 2000000 in
theorem keep_http (r : Rq) (fa ba : Option Addr) (fc bc : Nat) (w : World) (h : FsAt w (.slice fa r.fields.length fc) r.fields) (hl : r.fields.length ≤ 200000) (hx : ∀ f ∈ r.fields, f.2.length ≤ 1000000) :
    Calls Tryz.prog 69 #[.agg #[str r.method, str r.target, .int .i64 r.minor, .slice fa r.fields.length fc, .slice ba r.body.length bc, .bool r.keep]] w fun e w' => e = .returned (.bool (keepL r)) ∧ w.grownBy w' none := by
  have hmf : ∀ (fn : Fn) (first cap : Array Value) (w : World), (Instr.makeFunc fn first cap).run Tryz.prog w = .ok (.func fn first cap) w := fun _ _ _ _ => rfl
  have HF := hid h
  have HX := hid hx
  clear h hx
  unfold str
  go_enter Tryz.func69, Tryz.ntmps69
  have g1 := World.grownBy_alloc w (.cells #[.string ⟨r.method.toArray⟩, .string ⟨r.target.toArray⟩, .int .i64 r.minor, .slice fa r.fields.length fc, .slice ba r.body.length bc, .bool r.keep] 44) none
  have hb1 := heap_alloc_new w (.cells #[.string ⟨r.method.toArray⟩, .string ⟨r.target.toArray⟩, .int .i64 r.minor, .slice fa r.fields.length fc, .slice ba r.body.length bc, .bool r.keep] 44)
  go_wp2_with fail
  revert g1 hb1
  generalize w.alloc _ = w1
  intro g1 hb1
  obtain ⟨xs, hxs⟩ : ∃ xs, xs = getL r.fields [99, 111, 110, 110, 101, 99, 116, 105, 111, 110] := ⟨_, rfl⟩
  have hxl : xs.length ≤ 200000 := by rw [hxs]; exact Nat.le_trans (getL_len _ _) hl
  have HXX := hid (show ∀ x ∈ xs, x.length ≤ 1000000 by
    intro x hx
    rw [hxs] at hx
    obtain ⟨f, hf, rfl⟩ := getL_mem hx
    exact HX.out f hf)
  have HKL := hid (show keepL r = (!(xs.any fun v => sameL v [99, 108, 111, 115, 101]) && (r.minor == 1 || xs.any fun v => sameL v [107, 101, 101, 112, 45, 97, 108, 105, 118, 101])) by rw [hxs]; rfl)
  refine (get_fs w1 _ r.fields [99, 111, 110, 110, 101, 99, 116, 105, 111, 110] (HF.out.grow g1) hl).mono ?_
  rintro e w2 ⟨lv, rfl, hown, g2⟩
  rw [← hxs] at hown
  clear hxs
  have hsat := sat_of_own hown
  have HSAT := hid hsat
  obtain ⟨la, lc, rfl, -, -⟩ := hsat
  have hb2 := gr_keep g2 hb1 (by simp)
  have G2 := hid (gr_trans g1 g2)
  clear g1 g2 hb1 hown HX HF
  have g3 := World.grownBy_alloc w2 (.cells #[.slice la xs.length lc] 59) none
  have hl3 := (cell_of_block (heap_alloc_new w2 (.cells #[.slice la xs.length lc] 59)) 0).trans (show _ = some (Value.slice la xs.length lc) from rfl)
  have hb3 := gr_keep g3 hb2 (by simp)
  go_wp2_with fail
  revert g3 hl3 hb3
  generalize w2.alloc _ = w3
  intro g3 hl3 hb3
  have G3 := hid (gr_trans G2.out g3)
  have HSAT3 := hid (HSAT.out.grow g3)
  clear g3 hb2 G2 HSAT
  refine (is_http xs [99, 108, 111, 115, 101] _ _ w3 HSAT3.out hxl HXX.out (by decide) hl3).mono ?_
  rintro e w4 ⟨rfl, g4⟩
  have hb4 := gr_keep g4 hb3 (by simp)
  have hl4 := g4.cell hl3 (by simp)
  have G4 := hid (gr_trans G3.out g4)
  have HSAT4 := hid (HSAT3.out.grow g4)
  have c2 := (cell_of_block hb4 2).trans (show _ = some (Value.int .i64 r.minor) from rfl)
  clear g4 hb3 hl3 G3 HSAT3 hb4
  have HZ2 := hid (fun (W : World) (g : w4.grownBy W none) => is_http xs [107, 101, 101, 112, 45, 97, 108, 105, 118, 101] _ _ W (HSAT4.out.grow g) hxl HXX.out (by decide) (g.cell hl4 (by simp)))
  cases hc1 : xs.any (fun x => sameL x [99, 108, 111, 115, 101])
  · have HK2 := hid (show keepL r = (r.minor == 1 || xs.any fun v => sameL v [107, 101, 101, 112, 45, 97, 108, 105, 118, 101]) by rw [HKL.out, hc1]; rfl)
    clear hc1 HKL
    by_cases hm : r.minor = 1
    · have hm' : (r.minor == 1) = true := by simp [hm]
      have HK3 := hid (show keepL r = true by rw [HK2.out, hm']; rfl)
      clear HK2 hm
      go_wp2_with fail
      go_ret
      exact ⟨by rw [HK3.out]; rfl, G4.out⟩
    · have hm' : (r.minor == 1) = false := by simp [hm]
      have HK3 := hid (show keepL r = xs.any fun v => sameL v [107, 101, 101, 112, 45, 97, 108, 105, 118, 101] by rw [HK2.out, hm']; rfl)
      clear HK2 hm
      go_wp2_with fail
      refine (HZ2.out w4 (gr_refl _ _)).mono ?_
      rintro e w5 ⟨rfl, g5⟩
      obtain ⟨z, hz⟩ : ∃ z, z = xs.any (fun v => sameL v [107, 101, 101, 112, 45, 97, 108, 105, 118, 101]) := ⟨_, rfl⟩
      have HK4 := hid (HK3.out.trans hz.symm)
      rw [← hz]
      clear hz HK3
      go_wp2_with fail
      go_ret
      exact ⟨by rw [HK4.out]; rfl, gr_trans G4.out g5⟩
  · have HK2 := hid (show keepL r = false by rw [HKL.out, hc1]; rfl)
    clear hc1 HKL
    go_wp2_with fail
    go_ret
    exact ⟨by rw [HK2.out]; rfl, G4.out⟩
end Go.Proofs.YtldbcdiomkkinaaGreatDoor
