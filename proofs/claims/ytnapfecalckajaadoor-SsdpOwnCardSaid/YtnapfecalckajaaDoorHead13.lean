/- head.Start. -/
import Derived.Test.YtnapfecalckajaaDoorHead12
namespace Go.Proofs.YtnapfecalckajaaDoor
open Go.RowKit

theorem results_tmp4 {fn : Func} {t u v x : Tmp} (h : fn.results = #[.tmp t, .tmp u, .tmp v, .tmp x]) (tmps : Array Value) (P : Program) (w : World) :
    (results fn tmps).run P w = .ok (.tuple #[tmps.getD t undef, tmps.getD u undef, tmps.getD v undef, tmps.getD x undef]) w := by
  simp [results, h]
set_option maxHeartbeats 4000000 in
theorem start_any (s : ByteArray) (m : Int) (w : World) (hm : w.cell? ⟨0, 0, none⟩ = some (.int .i64 m)) (hs : s.size < 4294967281) :
    Calls Tryd.prog 32 #[.string s] w fun e w' => e = .returned (.tuple #[str (stR s.data.toList).1, str (stR s.data.toList).2.1, .int .i64 (stR s.data.toList).2.2.1, .bool (stR s.data.toList).2.2.2]) ∧ w.grownBy w' none := by
  obtain ⟨l, hl⟩ : ∃ l, l = s.data.toList := ⟨_, rfl⟩
  have hlen : s.size = l.length := by rw [hl, ← Lib.size_eq]
  have hspl := Tryd.strings_Split s ⟨#[32]⟩ m w hs hm (by decide)
  have hcount : Lib.countB s ⟨#[32]⟩ = l.count 32 := by rw [hl]; exact Lib.count_one 32 _
  have hcl : l.count 32 ≤ l.length := List.count_le_length
  rw [hcount] at hspl
  rw [← hl]
  by_cases hc : l.count 32 = 2
  · rw [hc, split_three s (by rw [← hl]; exact hc), ← hl] at hspl
    have lp := stP_le l
    have lq := stP_le (stD l)
    have ld : (stD l).length ≤ l.length := by unfold stD; simp
    have hdef : stOk l = (tokB (stP l) && !(stP (stD l)).isEmpty && decide ((stP (stD l)).length ≤ 512) && (stP (stD l)).all visC && (stD (stD l) == h11 || stD (stD l) == h10)) := by unfold stOk; rw [hc]; rfl
    have hdef2 : stR l = (if stOk l then (stP l, stP (stD l), if stD (stD l) == h11 then 1 else 0, true) else ([], [], 0, false)) := rfl
    generalize stP l = p at *
    generalize stP (stD l) = q at *
    generalize stD (stD l) = r at *
    have Hs := hid hspl
    have Hd := hid hdef
    have Hr := hid hdef2
    clear hspl hdef hdef2 hcount hcl hl
    have htok := token_any ⟨p.toArray⟩ (w.alloc (.cells #[.string ⟨p.toArray⟩, .string ⟨q.toArray⟩, .string ⟨r.toArray⟩] 9)) (by rw [Lib.size_eq]; simp; omega)
    rw [show (ByteArray.mk p.toArray).data.toList = p from rfl] at htok
    generalize ht : tokB p = t at htok
    have Htok := hid htok
    have Ht := hid ht
    clear htok ht
    have c0 : (w.alloc (.cells #[.string ⟨p.toArray⟩, .string ⟨q.toArray⟩, .string ⟨r.toArray⟩] 9)).cell? ⟨w.heap.size, 0, none⟩ = some (.string ⟨p.toArray⟩) := (cell_of_block (heap_alloc_new w _) 0).trans rfl
    have c1 : (w.alloc (.cells #[.string ⟨p.toArray⟩, .string ⟨q.toArray⟩, .string ⟨r.toArray⟩] 9)).cell? ⟨w.heap.size, 1, none⟩ = some (.string ⟨q.toArray⟩) := (cell_of_block (heap_alloc_new w _) 1).trans rfl
    have c2 : (w.alloc (.cells #[.string ⟨p.toArray⟩, .string ⟨q.toArray⟩, .string ⟨r.toArray⟩] 9)).cell? ⟨w.heap.size, 2, none⟩ = some (.string ⟨r.toArray⟩) := (cell_of_block (heap_alloc_new w _) 2).trans rfl
    have G0 : w.grownBy (w.alloc (.cells #[.string ⟨p.toArray⟩, .string ⟨q.toArray⟩, .string ⟨r.toArray⟩] 9)) none := World.grownBy_alloc w _ none
    have hql : q.length ≤ 4294967280 := by omega
    have hsq : (ByteArray.mk q.toArray).size = q.length := by rw [Lib.size_eq]
    simp only [List.map_cons, List.map_nil] at Hs
    generalize (w.alloc (.cells #[.string ⟨p.toArray⟩, .string ⟨q.toArray⟩, .string ⟨r.toArray⟩] 9)) = w1 at *
    have heE : (ByteArray.mk q.toArray).toList.isEmpty = q.isEmpty := by rw [Lib.toList_data]
    have He : ((ByteArray.mk q.toArray).toList == (ByteArray.mk #[]).toList) = q.isEmpty := by
      rw [Lib.toList_data, Lib.toList_data]; cases q <;> rfl
    cases t
    · have R := hid (show stR l = ([], [], 0, false) by rw [Hr.out, Hd.out, Ht.out]; rfl)
      rw [R.out]
      unfold str
      go_enter Tryd.func32, Tryd.ntmps32
      go_wp2_with fail
      refine Hs.out.mono ?_
      rintro e w2 ⟨rfl, rfl⟩
      go_wp2_with fail
      refine Htok.out.mono ?_
      rintro e w2 ⟨rfl, g2⟩
      go_wp2
      ((try simp only [Exit.inBlock, Exit.then]); refine bodyPost_ret (results_tmp4 rfl _ _ _) rfl ?_)
      exact ⟨rfl, gr_trans G0 g2⟩
    · by_cases hq0 : q.isEmpty = true
      · have R := hid (show stR l = ([], [], 0, false) by rw [Hr.out, Hd.out, hq0]; simp)
        rw [R.out]
        unfold str
        rw [hq0] at He heE
        go_enter Tryd.func32, Tryd.ntmps32
        go_wp2_with fail
        refine Hs.out.mono ?_
        rintro e w2 ⟨rfl, rfl⟩
        go_wp2_with fail
        refine Htok.out.mono ?_
        rintro e w2 ⟨rfl, g2⟩
        replace c1 := g2.cell c1 (by simp)
        go_wp2
        ((try simp only [Exit.inBlock, Exit.then]); refine bodyPost_ret (results_tmp4 rfl _ _ _) rfl ?_)
        exact ⟨rfl, gr_trans G0 g2⟩
      · have hq0' : q.isEmpty = false := by simpa using hq0
        rw [hq0'] at He heE
        clear hq0
        by_cases hq5 : 512 < q.length
        · have R := hid (show stR l = ([], [], 0, false) by rw [Hr.out, Hd.out, show decide (q.length ≤ 512) = false by simp; omega]; simp)
          rw [R.out]
          unfold str
          go_enter Tryd.func32, Tryd.ntmps32
          go_wp2_with fail
          refine Hs.out.mono ?_
          rintro e w2 ⟨rfl, rfl⟩
          go_wp2_with fail
          refine Htok.out.mono ?_
          rintro e w2 ⟨rfl, g2⟩
          replace c1 := g2.cell c1 (by simp)
          go_wp2
          ((try simp only [Exit.inBlock, Exit.then]); refine bodyPost_ret (results_tmp4 rfl _ _ _) rfl ?_)
          exact ⟨rfl, gr_trans G0 g2⟩
        · have hq6 : q.length ≤ 512 := by omega
          have hdec : decide (q.length ≤ 512) = true := by simpa using hq6
          have Hd2 := hid (show stOk l = (q.all visC && (r == h11 || r == h10)) by rw [Hd.out, Ht.out, hq0', hdec]; simp)
          clear hq5 hdec Hd
          go_enter Tryd.func32, Tryd.ntmps32
          go_wp2_with fail
          refine Hs.out.mono ?_
          rintro e w2 ⟨rfl, rfl⟩
          go_wp2_with fail
          refine Htok.out.mono ?_
          rintro e w2 ⟨rfl, g2⟩
          replace c0 := g2.cell c0 (by simp)
          replace c1 := g2.cell c1 (by simp)
          replace c2 := g2.cell c2 (by simp)
          have G2 := gr_trans G0 g2
          clear g2 G0
          go_wp2_with (refine wpl_s2b rfl 9 29 5 _ rfl Tryd.underlying9 Tryd.underlying29 Tryd.underlying5 ⟨q.toArray⟩ rfl (by rw [hsq]; unfold maxLen; omega) ?_; intro g cap w3 hg hrow g3)
          have G3 := gr_trans G2 g3
          replace hrow : Row8 w3 5 g cap q := hrow
          try rw [hsq]
          replace c0 := g3.cell c0 (by simp)
          replace c1 := g3.cell c1 (by simp)
          replace c2 := g3.cell c2 (by simp)
          clear G2 g3 hg hsq
          go_loop [4, 8, 39] (fun v4 _ vk => ∃ (k : Nat), k ≤ q.length ∧ v4 = .int .i64 0 ∧ vk = .int .i64 k ∧ Hid ((q.take k).all visC = true)) (fun _ _ vk => q.length - (intOf vk).toNat)
          case atStart => exact ⟨0, Nat.zero_le _, rfl, rfl, by show _ = _; simp⟩
          case round =>
            obtain ⟨k, hk, rfl, rfl, hb⟩ := hrel
            by_cases hlt : k < q.length
            · have hc := hrow.cell (i := k) hlt
              have hnext := all_snoc q visC k hlt
              have hno := all_not q visC k hlt
              have hv : visC (q.getD k 0) = (decide ((33 : Int) ≤ ((q.getD k 0).toNat : Int)) && decide (((q.getD k 0).toNat : Int) ≤ 126)) := rfl
              generalize q.getD k 0 = c at hc hnext hno hv
              have Hn := hid hnext
              have Ho := hid hno
              have Hv := hid hv
              clear hnext hno hv
              by_cases x1 : (c.toNat : Int) < 33
              · have R := hid (show stR l = ([], [], 0, false) by rw [Hr.out, Hd2.out, Ho.out (by rw [Hv.out]; simp; omega)]; rfl)
                go_wp2
                ((try simp only [Exit.inBlock, Exit.then]); refine bodyPost_ret (results_tmp4 rfl _ _ _) rfl ?_)
                exact ⟨by rw [R.out]; rfl, G3⟩
              · by_cases x2 : (126 : Int) < (c.toNat : Int)
                · have R := hid (show stR l = ([], [], 0, false) by rw [Hr.out, Hd2.out, Ho.out (by rw [Hv.out]; simp; omega)]; rfl)
                  go_wp2
                  ((try simp only [Exit.inBlock, Exit.then]); refine bodyPost_ret (results_tmp4 rfl _ _ _) rfl ?_)
                  exact ⟨by rw [R.out]; rfl, G3⟩
                · have hy := hid (show (q.take (k + 1)).all visC = true by rw [Hn.out, hb.out, Hv.out]; simp; omega)
                  go_wp2
                  go_round
                  case rel => exact ⟨k + 1, by omega, rfl, by go_num, hy⟩
                  case measure => simp [intOf]; omega
            · obtain rfl : k = q.length := by omega
              have hb' := hid (show q.all visC = true by have := hb.out; rw [List.take_length] at this; exact this)
              clear hb hlt hk
              have Hd3 := hid (show stOk l = (r == h11 || r == h10) by rw [Hd2.out, hb'.out]; rfl)
              generalize hx1 : (r == h11) = x1 at *
              generalize hx0 : (r == h10) = x0 at *
              have E1 : (r == [72, 84, 84, 80, 47, 49, 46, 49]) = x1 := hx1
              have E0 : (r == [72, 84, 84, 80, 47, 49, 46, 48]) = x0 := hx0
              clear hx1 hx0
              cases x1
              · cases x0
                · have R := hid (show stR l = ([], [], 0, false) by rw [Hr.out, Hd3.out]; rfl)
                  go_wp2
                  ((try simp only [Exit.inBlock, Exit.then]); refine bodyPost_ret (results_tmp4 rfl _ _ _) rfl ?_)
                  exact ⟨by rw [R.out]; rfl, G3⟩
                · have R := hid (show stR l = (p, q, 0, true) by rw [Hr.out, Hd3.out]; rfl)
                  go_wp2_with fail
                  go_quiet (fail)
                  go_wp2
                  ((try simp only [Exit.inBlock, Exit.then]); refine bodyPost_ret (results_tmp4 rfl _ _ _) rfl ?_)
                  exact ⟨by rw [R.out]; rfl, by (repeat (first | exact gr_refl _ _ | assumption | refine gr_drew ?_ | refine gr_drewN _ ?_ | refine gr_alloc ?_ _ | refine gr_set ?_ | refine gr_set_new ?_ (by first | omega | (simp; omega))))⟩
              · have R := hid (show stR l = (p, q, 1, true) by rw [Hr.out, Hd3.out]; rfl)
                go_wp2_with fail
                go_quiet (fail)
                go_wp2
                ((try simp only [Exit.inBlock, Exit.then]); refine bodyPost_ret (results_tmp4 rfl _ _ _) rfl ?_)
                exact ⟨by rw [R.out]; rfl, by (repeat (first | exact gr_refl _ _ | assumption | refine gr_drew ?_ | refine gr_drewN _ ?_ | refine gr_alloc ?_ _ | refine gr_set ?_ | refine gr_set_new ?_ (by first | omega | (simp; omega))))⟩
  · have R := hid (stR_no (st_three hc))
    have hN : (((l.count 32 + 1 : Nat) : Int) != 3) = true := by simp; omega
    have hN2 : (((l.count 32 : Nat) : Int) + 1 != 3) = true := by simp; omega
    have hN3 : ¬ ((l.count 32 : Nat) : Int) + 1 = 3 := by omega
    generalize l.count 32 = n at *
    have Hs := hid hspl
    clear hspl hl hcount
    rw [R.out]
    unfold str
    go_enter Tryd.func32, Tryd.ntmps32
    go_wp2_with fail
    refine Hs.out.mono ?_
    rintro e w1 ⟨rfl, rfl⟩
    go_wp2
    ((try simp only [Exit.inBlock, Exit.then]); refine bodyPost_ret (results_tmp4 rfl _ _ _) rfl ?_)
    exact ⟨rfl, by (repeat (first | exact gr_refl _ _ | assumption | refine gr_drew ?_ | refine gr_drewN _ ?_ | refine gr_alloc ?_ _ | refine gr_set ?_ | refine gr_set_new ?_ (by first | omega | (simp; omega))))⟩
end Go.Proofs.YtnapfecalckajaaDoor
