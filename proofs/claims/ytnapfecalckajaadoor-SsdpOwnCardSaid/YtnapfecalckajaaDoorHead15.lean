/- hearthref15.Start. -/
import Derived.Test.YtnapfecalckajaaDoorHead14
namespace Go.Proofs.YtnapfecalckajaaDoor
open Go.RowKit

set_option maxHeartbeats 4000000 in
theorem rstart_any (s : ByteArray) (w : World) (hs : s.size ≤ 3000) :
    Calls Tryd.prog 21 #[.string s] w fun e w' => e = .returned (.tuple #[str (stR s.data.toList).1, str (stR s.data.toList).2.1, .int .i64 (stR s.data.toList).2.2.1, .bool (stR s.data.toList).2.2.2]) ∧ w.grownBy w' none := by
  obtain ⟨l, hl⟩ : ∃ l, l = s.data.toList := ⟨_, rfl⟩
  have hlen : s.size = l.length := by rw [hl, ← Lib.size_eq]
  have hstr : ∀ k (h : k < s.size), s[k]'h = l.getD k 0 := by rw [hl]; exact strAt s
  have Hstr := hid hstr
  have extp : s.extract 0 (stP l).length = ⟨(stP l).toArray⟩ := by rw [hl]; exact ext_p s
  have extq : s.extract ((stP l).length + 1) ((stP l).length + 1 + (stP (stD l)).length) = ⟨(stP (stD l)).toArray⟩ := by rw [hl]; exact ext_q s
  have lp := stP_le l
  have htwo := st_two l
  have hat := hid (stP_at l)
  have hend := hid (stP_end l)
  have hqt : ∀ k, k < (stP (stD l)).length → l.getD ((stP l).length + 1 + k) 0 ≠ 32 := fun k hk => by rw [← stD_at]; exact stP_at _ _ hk
  have hqe : (stP l).length + 1 + (stP (stD l)).length < l.length → l.getD ((stP l).length + 1 + (stP (stD l)).length) 0 = 32 := fun h => by
    rw [← stD_at]; exact stP_end _ (by rw [stD_len]; omega)
  have hql : l.length < (stP l).length + 1 + (stP (stD l)).length → (stP (stD l)).length = 0 := fun h => by
    have := stP_le (stD l); rw [stD_len] at this; omega
  have hqd : ∀ k, k < (stP (stD l)).length → l.getD ((stP l).length + 1 + k) 0 = (stP (stD l)).getD k 0 := fun k hk => by
    rw [← stD_at]
    have := congrArg (fun x => x.getD k 0) (stP_take (stD l))
    rw [← this]
    simp [List.getD_eq_getElem?_getD, hk]
  have hdrop := drop_two l
  have hdef : stOk l = (decide (2 ≤ l.count 32) && tokB (stP l) && !(stP (stD l)).isEmpty && decide ((stP (stD l)).length ≤ 512) && (stP (stD l)).all visC && (stD (stD l) == h11 || stD (stD l) == h10)) := rfl
  have hdef2 : stR l = (if stOk l then (stP l, stP (stD l), if stD (stD l) == h11 then 1 else 0, true) else ([], [], 0, false)) := rfl
  have hsl : (s.extract ((stP l).length + 1 + (stP (stD l)).length) s.size).data.toList = l.drop ((stP l).length + 1 + (stP (stD l)).length) := by rw [Lib.extract_to_end, hl]
  rw [← hl]
  generalize stP l = p at *
  generalize stP (stD l) = q at *
  generalize stD (stD l) = r at *
  have Hqt := hid hqt
  have Hqe := hid hqe
  have Hqd := hid hqd
  have Hql := hid hql
  have Hd := hid hdef
  have Hr := hid hdef2
  have Hdrop := hid hdrop
  have Hsl := hid hsl
  have Htwo := hid htwo
  have Ep := hid extp
  have Eq := hid extq
  clear hqt hqe hqd hdef hdef2 hdrop hsl htwo hstr extp extq hql hl
  go_enter Tryd.func21, Tryd.ntmps21
  go_wp2_with fail
  go_loop [6] (fun vk => ∃ (k : Nat), k ≤ p.length ∧ vk = .int .i64 k) (fun vk => p.length - (intOf vk).toNat)
  case atStart => exact ⟨0, Nat.zero_le _, rfl⟩
  case round =>
    obtain ⟨k, hk, rfl⟩ := hrel
    by_cases hlt : k < l.length
    · have hc : s[k]'(by omega) = l.getD k 0 := Hstr.out k (by omega)
      by_cases hkp : k < p.length
      · have hne : ((l.getD k 0).toNat : Int) ≠ 32 := by
          have := hat.out k hkp; intro h; apply this; apply UInt8.toNat_inj.1; simpa using (by omega : (l.getD k 0).toNat = 32)
        have hne2 : (((l.getD k 0).toNat : Int) != 32) = true := by simpa using hne
        generalize l.getD k 0 = c at hc hne hne2
        go_wp2
        go_round
        case rel => exact ⟨k + 1, by omega, by go_num⟩
        case measure => simp [intOf]; omega
      · obtain rfl : k = p.length := by omega
        have he : l.getD p.length 0 = 32 := hend.out hlt
        rw [he] at hc
        have hl3 : p.length < l.length := hlt
        clear hk hkp
        go_wp2_with fail
        go_loop [7] (fun vk => ∃ (k : Nat), k ≤ q.length ∧ vk = .int .i64 ((p.length + 1 + k : Nat) : Int)) (fun vk => p.length + 1 + q.length - (intOf vk).toNat)
        case atStart => exact ⟨0, Nat.zero_le _, by go_num⟩
        case round =>
          obtain ⟨k, hk, rfl⟩ := hrel
          by_cases hlt : p.length + 1 + k < l.length
          · have hc2 : s[p.length + 1 + k]'(by omega) = l.getD (p.length + 1 + k) 0 := Hstr.out _ (by omega)
            by_cases hkp : k < q.length
            · have hne : ((l.getD (p.length + 1 + k) 0).toNat : Int) ≠ 32 := by
                have := Hqt.out k hkp; intro h; apply this; apply UInt8.toNat_inj.1; simpa using (by omega : (l.getD (p.length + 1 + k) 0).toNat = 32)
              have hne2 : (((l.getD (p.length + 1 + k) 0).toNat : Int) != 32) = true := by simpa using hne
              generalize l.getD (p.length + 1 + k) 0 = c at hc2 hne hne2
              go_wp2
              go_round
              case rel => exact ⟨k + 1, by omega, by go_num⟩
              case measure => simp [intOf]; omega
            · obtain rfl : k = q.length := by omega
              have he : l.getD (p.length + 1 + q.length) 0 = 32 := Hqe.out hlt
              rw [he] at hc2
              have h2 : 2 ≤ l.count 32 := Htwo.out.2 hlt
              have Hd1 := hid (show stOk l = (tokB p && !q.isEmpty && decide (q.length ≤ 512) && q.all visC && (r == h11 || r == h10)) by rw [Hd.out, show decide (2 ≤ l.count 32) = true by simpa using h2]; rfl)
              have extp := Ep.out
              have extq := Eq.out
              have htok := rtoken_any ⟨p.toArray⟩ w (by rw [Lib.size_eq]; simp; omega)
              rw [show (ByteArray.mk p.toArray).data.toList = p from rfl] at htok
              generalize ht : tokB p = t at htok
              have Htok := hid htok
              have Ht := hid ht
              clear htok ht hk hkp h2
              cases t
              · have R := hid (show stR l = ([], [], 0, false) by rw [Hr.out, Hd1.out, Ht.out]; rfl)
                go_wp2_with fail
                refine Htok.out.mono ?_
                rintro e w2 ⟨rfl, rfl⟩
                go_wp2
                ((try simp only [Exit.inBlock, Exit.then]); refine bodyPost_ret (results_tmp4 rfl _ _ _) rfl ?_)
                exact ⟨by rw [R.out]; rfl, by (repeat (first | exact gr_refl _ _ | assumption | refine gr_drew ?_ | refine gr_drewN _ ?_ | refine gr_alloc ?_ _ | refine gr_set ?_ | refine gr_set_new ?_ (by first | omega | (simp; omega))))⟩
              · go_wp2_with fail
                refine Htok.out.mono ?_
                rintro e w2 ⟨rfl, rfl⟩
                by_cases hq0 : q.length = 0
                · have R := hid (show stR l = ([], [], 0, false) by rw [Hr.out, Hd1.out, show q.isEmpty = true by cases q <;> simp_all]; simp)
                  go_wp2
                  ((try simp only [Exit.inBlock, Exit.then]); refine bodyPost_ret (results_tmp4 rfl _ _ _) rfl ?_)
                  exact ⟨by rw [R.out]; rfl, by (repeat (first | exact gr_refl _ _ | assumption | refine gr_drew ?_ | refine gr_drewN _ ?_ | refine gr_alloc ?_ _ | refine gr_set ?_ | refine gr_set_new ?_ (by first | omega | (simp; omega))))⟩
                · have d0 : (((p.length : Int) + 1 + (q.length : Int)) == ((p.length : Int) + 1)) = false := by simp; omega
                  have e0 : ¬ ((p.length : Int) + 1 + (q.length : Int)) = ((p.length : Int) + 1) := by omega
                  by_cases hq5 : 512 < q.length
                  · have R := hid (show stR l = ([], [], 0, false) by rw [Hr.out, Hd1.out, show decide (q.length ≤ 512) = false by simp; omega]; simp)
                    have d5 : decide ((512 : Int) < (p.length : Int) + 1 + (q.length : Int) - (p.length : Int) - 1) = true := by simp; omega
                    have e5 : (512 : Int) < (p.length : Int) + 1 + (q.length : Int) - (p.length : Int) - 1 := by omega
                    go_wp2
                    ((try simp only [Exit.inBlock, Exit.then]); refine bodyPost_ret (results_tmp4 rfl _ _ _) rfl ?_)
                    exact ⟨by rw [R.out]; rfl, by (repeat (first | exact gr_refl _ _ | assumption | refine gr_drew ?_ | refine gr_drewN _ ?_ | refine gr_alloc ?_ _ | refine gr_set ?_ | refine gr_set_new ?_ (by first | omega | (simp; omega))))⟩
                  · have Hd2 := hid (show stOk l = (q.all visC && (r == h11 || r == h10)) by rw [Hd1.out, Ht.out, show q.isEmpty = false by cases q <;> simp_all, show decide (q.length ≤ 512) = true by simp; omega]; simp)
                    have d5 : decide ((512 : Int) < (p.length : Int) + 1 + (q.length : Int) - (p.length : Int) - 1) = false := by simp; omega
                    have e5 : ¬ (512 : Int) < (p.length : Int) + 1 + (q.length : Int) - (p.length : Int) - 1 := by omega
                    go_wp2_with fail
                    go_loop [8] (fun vk => ∃ (k : Nat), k ≤ q.length ∧ vk = .int .i64 ((p.length + 1 + k : Nat) : Int) ∧ Hid ((q.take k).all visC = true)) (fun vk => p.length + 1 + q.length - (intOf vk).toNat)
                    case atStart => exact ⟨0, Nat.zero_le _, by go_num, by show _ = _; simp⟩
                    case round =>
                      obtain ⟨k, hk, rfl, hb⟩ := hrel
                      by_cases hkp : k < q.length
                      · have hc3 : s[p.length + 1 + k]'(by omega) = q.getD k 0 := by rw [Hstr.out _ (by omega)]; exact Hqd.out k hkp
                        have hnext := all_snoc q visC k hkp
                        have hno := all_not q visC k hkp
                        have hv : visC (q.getD k 0) = (decide ((33 : Int) ≤ ((q.getD k 0).toNat : Int)) && decide (((q.getD k 0).toNat : Int) ≤ 126)) := rfl
                        generalize q.getD k 0 = c at hc3 hnext hno hv
                        have Hn := hid hnext
                        have Ho := hid hno
                        have Hv := hid hv
                        clear hnext hno hv
                        by_cases x1 : (c.toNat : Int) < 33
                        · have R := hid (show stR l = ([], [], 0, false) by rw [Hr.out, Hd2.out, Ho.out (by rw [Hv.out]; simp; omega)]; rfl)
                          go_wp2
                          ((try simp only [Exit.inBlock, Exit.then]); refine bodyPost_ret (results_tmp4 rfl _ _ _) rfl ?_)
                          exact ⟨by rw [R.out]; rfl, by (repeat (first | exact gr_refl _ _ | assumption | refine gr_drew ?_ | refine gr_drewN _ ?_ | refine gr_alloc ?_ _ | refine gr_set ?_ | refine gr_set_new ?_ (by first | omega | (simp; omega))))⟩
                        · by_cases x2 : (126 : Int) < (c.toNat : Int)
                          · have R := hid (show stR l = ([], [], 0, false) by rw [Hr.out, Hd2.out, Ho.out (by rw [Hv.out]; simp; omega)]; rfl)
                            go_wp2
                            ((try simp only [Exit.inBlock, Exit.then]); refine bodyPost_ret (results_tmp4 rfl _ _ _) rfl ?_)
                            exact ⟨by rw [R.out]; rfl, by (repeat (first | exact gr_refl _ _ | assumption | refine gr_drew ?_ | refine gr_drewN _ ?_ | refine gr_alloc ?_ _ | refine gr_set ?_ | refine gr_set_new ?_ (by first | omega | (simp; omega))))⟩
                          · have hy := hid (show (q.take (k + 1)).all visC = true by rw [Hn.out, hb.out, Hv.out]; simp; omega)
                            go_wp2
                            go_round
                            case rel => exact ⟨k + 1, by omega, by go_num, hy⟩
                            case measure => simp [intOf]; omega
                      · obtain rfl : k = q.length := by omega
                        have hb' := hid (show q.all visC = true by have := hb.out; rw [List.take_length] at this; exact this)
                        have Hd3 := hid (show stOk l = (r == h11 || r == h10) by rw [Hd2.out, hb'.out]; rfl)
                        have Z := Hsl.out
                        rw [Hdrop.out hlt] at Z
                        obtain ⟨z, hz⟩ : ∃ z, z = s.extract (p.length + 1 + q.length) s.size := ⟨_, rfl⟩
                        have hz2 := hz.symm
                        rw [hz2] at Z
                        have zz : z = ⟨(32 :: r).toArray⟩ := ba_eq Z
                        rw [zz] at hz2
                        rw [hlen] at hz2
                        clear hz zz Z
                        generalize hx1 : (r == h11) = x1 at *
                        generalize hx0 : (r == h10) = x0 at *
                        have E1 : (r == [72, 84, 84, 80, 47, 49, 46, 49]) = x1 := hx1
                        have E0 : (r == [72, 84, 84, 80, 47, 49, 46, 48]) = x0 := hx0
                        have B : ¬ (x1 = true ∧ x0 = true) := by
                          rintro ⟨rfl, rfl⟩
                          have e1 : r = h11 := by simpa using hx1
                          rw [e1] at hx0
                          exact absurd hx0 (by decide)
                        clear hx1 hx0 hb hk hkp
                        cases x1
                        · cases x0
                          · have R := hid (show stR l = ([], [], 0, false) by rw [Hr.out, Hd3.out]; rfl)
                            go_wp2
                            ((try simp only [Exit.inBlock, Exit.then]); refine bodyPost_ret (results_tmp4 rfl _ _ _) rfl ?_)
                            exact ⟨by rw [R.out]; rfl, by (repeat (first | exact gr_refl _ _ | assumption | refine gr_drew ?_ | refine gr_drewN _ ?_ | refine gr_alloc ?_ _ | refine gr_set ?_ | refine gr_set_new ?_ (by first | omega | (simp; omega))))⟩
                          · have R := hid (show stR l = (p, q, 0, true) by rw [Hr.out, Hd3.out]; rfl)
                            go_wp2_with fail
                            go_quiet (fail)
                            go_wp2
                            ((try simp only [Exit.inBlock, Exit.then]); refine bodyPost_ret (results_tmp4 rfl _ _ _) rfl ?_)
                            exact ⟨by rw [R.out]; show Ending.returned (.tuple #[.string ⟨p.toArray⟩, .string (s.extract (p.length + 1) (p.length + 1 + q.length)), .int .i64 0, .bool true]) = _; rw [extq]; rfl, by (repeat (first | exact gr_refl _ _ | assumption | refine gr_drew ?_ | refine gr_drewN _ ?_ | refine gr_alloc ?_ _ | refine gr_set ?_ | refine gr_set_new ?_ (by first | omega | (simp; omega))))⟩
                        · cases x0
                          · have R := hid (show stR l = (p, q, 1, true) by rw [Hr.out, Hd3.out]; rfl)
                            go_wp2_with fail
                            go_quiet (fail)
                            go_wp2
                            ((try simp only [Exit.inBlock, Exit.then]); refine bodyPost_ret (results_tmp4 rfl _ _ _) rfl ?_)
                            exact ⟨by rw [R.out]; show Ending.returned (.tuple #[.string ⟨p.toArray⟩, .string (s.extract (p.length + 1) (p.length + 1 + q.length)), .int .i64 1, .bool true]) = _; rw [extq]; rfl, by (repeat (first | exact gr_refl _ _ | assumption | refine gr_drew ?_ | refine gr_drewN _ ?_ | refine gr_alloc ?_ _ | refine gr_set ?_ | refine gr_set_new ?_ (by first | omega | (simp; omega))))⟩
                          · exact absurd ⟨rfl, rfl⟩ B
          · have R : Hid (stR l = ([], [], 0, false)) := hid (by rw [Hr.out, Hd.out, show decide (2 ≤ l.count 32) = false by simp; have := Htwo.out; omega]; rfl)
            have hke : p.length + 1 + q.length ≥ l.length := by omega
            go_wp2
            ((try simp only [Exit.inBlock, Exit.then]); refine bodyPost_ret (results_tmp4 rfl _ _ _) rfl ?_)
            exact ⟨by rw [R.out]; rfl, by (repeat (first | exact gr_refl _ _ | assumption | refine gr_drew ?_ | refine gr_drewN _ ?_ | refine gr_alloc ?_ _ | refine gr_set ?_ | refine gr_set_new ?_ (by first | omega | (simp; omega))))⟩
    · have R : Hid (stR l = ([], [], 0, false)) := hid (by rw [Hr.out, Hd.out, show decide (2 ≤ l.count 32) = false by simp; have := Htwo.out; omega]; rfl)
      obtain rfl : k = l.length := by omega
      have hpl : p.length = l.length := by omega
      go_wp2_with fail
      go_loop [7] (fun vk => vk = .int .i64 ((l.length + 1 : Nat) : Int)) (fun vk => 0)
      case atStart => go_num
      case round =>
        obtain rfl := hrel
        go_wp2
        ((try simp only [Exit.inBlock, Exit.then]); refine bodyPost_ret (results_tmp4 rfl _ _ _) rfl ?_)
        exact ⟨by rw [R.out]; rfl, by (repeat (first | exact gr_refl _ _ | assumption | refine gr_drew ?_ | refine gr_drewN _ ?_ | refine gr_alloc ?_ _ | refine gr_set ?_ | refine gr_set_new ?_ (by first | omega | (simp; omega))))⟩
end Go.Proofs.YtnapfecalckajaaDoor
