/- The walk of hearthref15.Line. -/
import Derived.Test.YtnapfecalckajaaDoorHead17
import Derived.Deep.RegionWith
namespace Go.Proofs.YtnapfecalckajaaDoor
open Go.RowKit

set_option maxHeartbeats 4000000 in
theorem rline_any (s : ByteArray) (w : World) (hs : s.size ≤ 3000) :
    Calls Tryd.prog 22 #[.string s] w fun e w' => e = .returned (.tuple #[.agg #[str (lnR s.data.toList).1, str (lnR s.data.toList).2.1], .bool (lnR s.data.toList).2.2]) ∧ w.grownBy w' none := by
  obtain ⟨l, hl⟩ : ∃ l, l = s.data.toList := ⟨_, rfl⟩
  have hlen : s.size = l.length := by rw [hl, ← Lib.size_eq]
  have hstr : ∀ k (h : k < s.size), s[k]'h = l.getD k 0 := by rw [hl]; exact strAt s
  have Hstr := hid hstr
  have extp : s.extract 0 (lnP l).length = ⟨(lnP l).toArray⟩ := by rw [hl]; exact ext_lp s
  have lp := lnP_le l
  have hat := hid (lnP_at l)
  have hend := hid (lnP_end l)
  have hpl := hid (ln_places l)
  have hext : ∀ f n, (l.drop f).take n = lnV l → n = (lnV l).length → s.extract f (f + n) = ⟨(lnV l).toArray⟩ := fun f n h1 h2 => by
    apply ba_eq; rw [Lib.extract_data, Nat.add_sub_cancel_left, ← hl, h1]
  have Hext := hid hext
  have hc := cut58 l
  have hok : lnOk l = (((cutB l 58).2.2 && (lnV l).all okC) && tokB (cutB l 58).1) := rfl
  have hdef : lnR l = if lnOk l then (lowL (cutB l 58).1, lnV l, true) else ([], [], false) := rfl
  rw [hc] at hok hdef
  rw [← hl]
  have Hl := hid hl
  clear hl hstr hext hc
  generalize lnP l = p at *
  generalize lnV l = v at *
  have Hok := hid hok
  have Hdef := hid hdef
  have Ep := hid extp
  clear hok hdef extp
  go_enter Tryd.func22, Tryd.ntmps22
  go_wp2_with fail
  go_loop [4] (fun vk => ∃ (k : Nat), k ≤ p.length ∧ vk = .int .i64 k) (fun vk => p.length - (intOf vk).toNat)
  case atStart => exact ⟨0, Nat.zero_le _, rfl⟩
  case round =>
    obtain ⟨k, hk, rfl⟩ := hrel
    by_cases hlt : k < l.length
    · have hc : s[k]'(by omega) = l.getD k 0 := Hstr.out k (by omega)
      by_cases hkp : k < p.length
      · have hne : ((l.getD k 0).toNat : Int) ≠ 58 := by
          have := hat.out k hkp; intro h; apply this; apply UInt8.toNat_inj.1; simpa using (by omega : (l.getD k 0).toNat = 58)
        have hne2 : (((l.getD k 0).toNat : Int) != 58) = true := by simpa using hne
        generalize l.getD k 0 = c at hc hne hne2
        go_wp2
        go_round
        case rel => exact ⟨k + 1, by omega, by go_num⟩
        case measure => simp [intOf]; omega
      · obtain rfl : k = p.length := by omega
        have he : l.getD p.length 0 = 58 := hend.out hlt
        rw [he] at hc
        obtain ⟨f, t, e1, -, b1, b2, b3, b4, b5, e2, b6⟩ := hpl.out hlt
        have Hok2 := hid (show lnOk l = (v.all okC && tokB p) by rw [Hok.out, if_pos hlt]; rfl)
        have Hdef2 := hid (show lnR l = if lnOk l then (lowL p, v, true) else ([], [], false) by rw [Hdef.out, if_pos hlt])
        have Ev := hid (Hext.out (p.length + 1 + f) v.length b6 rfl)
        have hsum : p.length + 1 + f + v.length + t = l.length := by omega
        have hne : ¬ ((p.length : Nat) : Int) = (l.length : Nat) := by omega
        have hne2 : (((p.length : Nat) : Int) == (l.length : Nat)) = false := by simp; omega
        have B1 := hid b1
        have B2 := hid b2
        have B3 := hid b3
        have B4 := hid b4
        have B5 := hid b5
        clear b1 b2 b3 b4 b5 b6 e1 e2 hk hkp
        have extp := Ep.out
        have htok := rtoken_any ⟨p.toArray⟩ (w.alloc (.cells #[.string ⟨#[]⟩, .string ⟨#[]⟩] 60)) (by rw [Lib.size_eq]; simp; omega)
        rw [show (ByteArray.mk p.toArray).data.toList = p from rfl] at htok
        generalize ht : tokB p = t at htok
        have Htok := hid htok
        have Ht := hid ht
        clear htok ht
        cases t
        · have R := hid (show lnR l = ([], [], false) by rw [Hdef2.out, Hok2.out, Ht.out]; simp)
          go_wp2_with fail
          refine Htok.out.mono ?_
          rintro e w2 ⟨rfl, rfl⟩
          go_wp2
          exact bodyPost_ret (v := .tuple #[.agg #[.string ⟨#[]⟩, .string ⟨#[]⟩], .bool false]) (by simp [results, Tryd.results22, go_sem]) rfl ⟨by rw [R.out]; rfl, by (repeat (first | exact gr_refl _ _ | assumption | refine gr_drew ?_ | refine gr_drewN _ ?_ | refine gr_alloc ?_ _ | refine gr_set ?_ | refine gr_set_new ?_ (by first | omega | (simp; omega))))⟩
        · go_wp2_with fail
          refine Htok.out.mono ?_
          rintro e w2 ⟨rfl, rfl⟩
          go_wp2_with fail
          go_loop [5] (fun vk => ∃ (k : Nat), k ≤ f ∧ vk = .int .i64 ((p.length + 1 + k : Nat) : Int)) (fun vk => l.length - (intOf vk).toNat)
          case atStart => exact ⟨0, Nat.zero_le _, by go_num⟩
          case round =>
            obtain ⟨k, hk, rfl⟩ := hrel
            by_cases hkf : k < f
            · have hc5 : s[p.length + 1 + k]'(by omega) = l.getD (p.length + 1 + k) 0 := Hstr.out _ (by omega)
              have hb := blk_yes _ (B1.out k hkf)
              generalize l.getD (p.length + 1 + k) 0 = c at hc5 hb
              have h1 : p.length + 1 + k < l.length := by omega
              rcases hb with hb | hb
              · go_wp2
                go_round
                case rel => exact ⟨k + 1, by omega, by go_num⟩
                case measure => simp [intOf]; omega
              · go_wp2
                go_round
                case rel => exact ⟨k + 1, by omega, by go_num⟩
                case measure => simp [intOf]; omega
            · obtain rfl : k = f := by omega
              clear hk hkf
              obtain ⟨cc, hcc⟩ : ∃ cc, cc = l.getD (p.length + 1 + k) 0 := ⟨_, rfl⟩
              have hcut : p.length + 1 + k < l.length → (cc.toNat : Int) ≠ 32 ∧ (cc.toNat : Int) ≠ 9 := fun h => by rw [hcc]; exact blk_no _ (B2.out h)
              by_cases h1 : p.length + 1 + k < l.length
              · obtain ⟨n32, n9⟩ := hcut h1
                have n32' : ((cc.toNat : Int) == 32) = false := by simpa using n32
                have n9' : ((cc.toNat : Int) == 9) = false := by simpa using n9
                have hc5 : s[p.length + 1 + k]'(by omega) = cc := by rw [hcc]; exact Hstr.out _ (by omega)
                clear hcc hcut n32 n9
                go_wp2_with fail
                go_loop [6] (fun vk => ∃ (j : Nat), p.length + 1 + k + v.length ≤ j ∧ j ≤ l.length ∧ vk = .int .i64 (j : Int)) (fun vk => (intOf vk).toNat)
                case atStart => exact ⟨l.length, by omega, by omega, rfl⟩
                case round =>
                  obtain ⟨j, hj1, hj2, rfl⟩ := hrel
                  by_cases hjv : p.length + 1 + k + v.length < j
                  · have hc6 : s[j - 1]'(by omega) = l.getD (j - 1) 0 := Hstr.out _ (by omega)
                    have hb := blk_yes _ (B4.out (j - 1 - (p.length + 1 + k + v.length)) (by omega))
                    rw [show p.length + 1 + k + v.length + (j - 1 - (p.length + 1 + k + v.length)) = j - 1 by omega] at hb
                    generalize l.getD (j - 1) 0 = c at hc6 hb
                    have h3 : p.length + 1 + k < j := by omega
                    rcases hb with hb | hb
                    · go_wp2
                      go_round
                      case rel => exact ⟨j - 1, by omega, by omega, by first | go_num | (congr 1; omega)⟩
                      case measure => first | done | (simp [intOf]; done) | (simp [intOf]; omega)
                    · go_wp2
                      go_round
                      case rel => exact ⟨j - 1, by omega, by omega, by first | go_num | (congr 1; omega)⟩
                      case measure => first | done | (simp [intOf]; done) | (simp [intOf]; omega)
                  · obtain rfl : j = p.length + 1 + k + v.length := by omega
                    by_cases hv0 : v.length = 0
                    · have hv : v = [] := List.eq_nil_of_length_eq_zero hv0
                      subst hv
                      have hex : s.extract (p.length + 1 + k) (p.length + 1 + k) = ⟨#[]⟩ := by have := Ev.out; simpa using this
                      have R := hid (show lnR l = (lowL p, [], true) by rw [Hdef2.out, Hok2.out, Ht.out]; rfl)
                      go_wp2_with fail
                      go_loop [7] (fun vk => vk = .int .i64 ((p.length + 1 + k : Nat) : Int)) (fun vk => 0)
                      case atStart => go_num
                      case round =>
                        obtain rfl := hrel
                        go_wp2_with fail
                        go_region_with (go_at_call 40; refine (rlower_any ⟨p.toArray⟩ _ (by rw [Lib.size_eq]; simp; omega)).mono ?_; rintro e w2 ⟨rfl, g2⟩; rw [show (ByteArray.mk p.toArray).data.toList = p from rfl]; have B := gr_keep g2 (heap_alloc_new w _) (by simp); have d0 := (cell_of_block B 0).trans (show _ = some (.string ⟨#[]⟩) from rfl); have d1 := (cell_of_block B 1).trans (show _ = some (.string ⟨#[]⟩) from rfl); have f0 := free_of_block B 0; have f1 := free_of_block B 1; have hlt2 := lt_of_block B; have GW := gr_trans (gr_drew (World.grownBy_alloc w _ none)) g2; unfold str)
                        all_goals
                          go_wp2
                          obtain ⟨z0, z1⟩ := two_stored (x := .string ⟨(lowL p).toArray⟩) (y := .string ByteArray.empty) d0 d1
                          exact bodyPost_ret (v := .tuple #[.agg #[.string ⟨(lowL p).toArray⟩, .string ByteArray.empty], .bool true]) (by simp [results, Tryd.results22, go_sem, z0, z1]) rfl ⟨by rw [R.out]; rfl, by (repeat (first | exact gr_refl _ _ | assumption | refine gr_drew ?_ | refine gr_drewN _ ?_ | refine gr_alloc ?_ _ | refine gr_set ?_ | refine gr_set_new ?_ (by first | omega | (simp; omega))))⟩
                    · have hv1 : v ≠ [] := fun e => by rw [e] at hv0; exact hv0 rfl
                      have hb := blk_no _ (B5.out hv1)
                      have hc6 : s[p.length + 1 + k + v.length - 1]'(by omega) = l.getD (p.length + 1 + k + v.length - 1) 0 := Hstr.out _ (by omega)
                      generalize l.getD (p.length + 1 + k + v.length - 1) 0 = c at hc6 hb
                      obtain ⟨m32, m9⟩ := hb
                      have m32' : ((c.toNat : Int) == 32) = false := by simpa using m32
                      have m9' : ((c.toNat : Int) == 9) = false := by simpa using m9
                      have hge : p.length + 1 + k < p.length + 1 + k + v.length := by omega
                      clear m32 m9 hv1
                      go_wp2_with fail
                      clear hc6 m32' m9' hge
                      go_loop [7] (fun vk => ∃ (i : Nat), i ≤ v.length ∧ vk = .int .i64 ((p.length + 1 + k + i : Nat) : Int) ∧ Hid ((v.take i).all okC = true)) (fun vk => p.length + 1 + k + v.length - (intOf vk).toNat)
                      case atStart => exact ⟨0, Nat.zero_le _, by go_num, by show _ = _; simp⟩
                      case round =>
                        obtain ⟨i, hi, rfl, hb⟩ := hrel
                        by_cases hiv : i < v.length
                        · have hc7 : s[p.length + 1 + k + i]'(by omega) = v.getD i 0 := by rw [Hstr.out _ (by omega)]; exact B3.out i hiv
                          have hnext := all_snoc v okC i hiv
                          have hno := all_not v okC i hiv
                          have hok : okC (v.getD i 0) = ((decide ((32 : Int) ≤ ((v.getD i 0).toNat : Int)) || ((v.getD i 0).toNat : Int) == 9) && ((v.getD i 0).toNat : Int) != 127) := rfl
                          generalize v.getD i 0 = c at hc7 hnext hno hok
                          have Hn := hid hnext
                          have Hno := hid hno
                          have Hk := hid hok
                          clear hnext hno hok
                          by_cases x1 : (c.toNat : Int) < 32
                          · by_cases x2 : (c.toNat : Int) = 9
                            · have hy := hid (show (v.take (i + 1)).all okC = true by rw [Hn.out, hb.out, Hk.out]; simp [x2])
                              have x2' : ((c.toNat : Int) != 9) = false := by simpa using x2
                              have x3' : ((c.toNat : Int) == 127) = false := by rw [x2]; rfl
                              clear x2
                              go_wp2
                              go_round
                              case rel => exact ⟨i + 1, by omega, by go_num, hy⟩
                              case measure => simp [intOf]; omega
                            · have R := hid (show lnR l = ([], [], false) by rw [Hdef2.out, Hok2.out, Hno.out (by rw [Hk.out]; simp [x2]; omega)]; rfl)
                              have x2' : ((c.toNat : Int) != 9) = true := by simpa using x2
                              go_wp2
                              exact bodyPost_ret (v := .tuple #[.agg #[.string ⟨#[]⟩, .string ⟨#[]⟩], .bool false]) (by simp [results, Tryd.results22, go_sem]) rfl ⟨by rw [R.out]; rfl, by (repeat (first | exact gr_refl _ _ | assumption | refine gr_drew ?_ | refine gr_drewN _ ?_ | refine gr_alloc ?_ _ | refine gr_set ?_ | refine gr_set_new ?_ (by first | omega | (simp; omega))))⟩
                          · by_cases x2 : (c.toNat : Int) = 127
                            · have R := hid (show lnR l = ([], [], false) by rw [Hdef2.out, Hok2.out, Hno.out (by rw [Hk.out]; simp [x2])]; rfl)
                              have x2' : ((c.toNat : Int) == 127) = true := by simpa using x2
                              go_wp2
                              exact bodyPost_ret (v := .tuple #[.agg #[.string ⟨#[]⟩, .string ⟨#[]⟩], .bool false]) (by simp [results, Tryd.results22, go_sem]) rfl ⟨by rw [R.out]; rfl, by (repeat (first | exact gr_refl _ _ | assumption | refine gr_drew ?_ | refine gr_drewN _ ?_ | refine gr_alloc ?_ _ | refine gr_set ?_ | refine gr_set_new ?_ (by first | omega | (simp; omega))))⟩
                            · have hy := hid (show (v.take (i + 1)).all okC = true by rw [Hn.out, hb.out, Hk.out]; simp [x2]; omega)
                              have x2' : ((c.toNat : Int) == 127) = false := by simpa using x2
                              clear x2
                              go_wp2
                              go_round
                              case rel => exact ⟨i + 1, by omega, by go_num, hy⟩
                              case measure => simp [intOf]; omega
                        · obtain rfl : i = v.length := by omega
                          have R := hid (show lnR l = (lowL p, v, true) by rw [Hdef2.out, Hok2.out, Ht.out]; have := hb.out; rw [List.take_length] at this; rw [this]; rfl)
                          clear hb hi hiv
                          have extv := Ev.out
                          go_wp2_with fail
                          go_region_with (go_at_call 40; refine (rlower_any ⟨p.toArray⟩ _ (by rw [Lib.size_eq]; simp; omega)).mono ?_; rintro e w2 ⟨rfl, g2⟩; rw [show (ByteArray.mk p.toArray).data.toList = p from rfl]; have B := gr_keep g2 (heap_alloc_new w _) (by simp); have d0 := (cell_of_block B 0).trans (show _ = some (.string ⟨#[]⟩) from rfl); have d1 := (cell_of_block B 1).trans (show _ = some (.string ⟨#[]⟩) from rfl); have f0 := free_of_block B 0; have f1 := free_of_block B 1; have hlt2 := lt_of_block B; have GW := gr_trans (gr_drew (World.grownBy_alloc w _ none)) g2; unfold str)
                          all_goals
                            go_wp2
                            obtain ⟨z0, z1⟩ := two_stored (x := .string ⟨(lowL p).toArray⟩) (y := .string ⟨v.toArray⟩) d0 d1
                            exact bodyPost_ret (v := .tuple #[.agg #[.string ⟨(lowL p).toArray⟩, .string ⟨v.toArray⟩], .bool true]) (by simp [results, Tryd.results22, go_sem, z0, z1]) rfl ⟨by rw [R.out]; rfl, by (repeat (first | exact gr_refl _ _ | assumption | refine gr_drew ?_ | refine gr_drewN _ ?_ | refine gr_alloc ?_ _ | refine gr_set ?_ | refine gr_set_new ?_ (by first | omega | (simp; omega))))⟩
              · have hv : v = [] := List.eq_nil_of_length_eq_zero (by omega)
                subst hv
                have hke : p.length + 1 + k = l.length := by simp at hsum; omega
                have hex : s.extract (p.length + 1 + k) l.length = ⟨#[]⟩ := by have := Ev.out; rw [← hke]; simpa using this
                have R := hid (show lnR l = (lowL p, [], true) by rw [Hdef2.out, Hok2.out, Ht.out]; rfl)
                go_wp2_with fail
                go_loop [6] (fun vk => vk = .int .i64 (l.length : Int)) (fun vk => 0)
                case atStart => rfl
                case round =>
                  obtain rfl := hrel
                  go_wp2_with fail
                  go_loop [7] (fun vk => vk = .int .i64 ((p.length + 1 + k : Nat) : Int)) (fun vk => 0)
                  case atStart => go_num
                  case round =>
                    obtain rfl := hrel
                    go_wp2_with fail
                    go_region_with (go_at_call 40; refine (rlower_any ⟨p.toArray⟩ _ (by rw [Lib.size_eq]; simp; omega)).mono ?_; rintro e w2 ⟨rfl, g2⟩; rw [show (ByteArray.mk p.toArray).data.toList = p from rfl]; have B := gr_keep g2 (heap_alloc_new w _) (by simp); have d0 := (cell_of_block B 0).trans (show _ = some (.string ⟨#[]⟩) from rfl); have d1 := (cell_of_block B 1).trans (show _ = some (.string ⟨#[]⟩) from rfl); have f0 := free_of_block B 0; have f1 := free_of_block B 1; have hlt2 := lt_of_block B; have GW := gr_trans (gr_drew (World.grownBy_alloc w _ none)) g2; unfold str)
                    all_goals
                      go_wp2
                      obtain ⟨z0, z1⟩ := two_stored (x := .string ⟨(lowL p).toArray⟩) (y := .string ByteArray.empty) d0 d1
                      exact bodyPost_ret (v := .tuple #[.agg #[.string ⟨(lowL p).toArray⟩, .string ByteArray.empty], .bool true]) (by simp [results, Tryd.results22, go_sem, z0, z1]) rfl ⟨by rw [R.out]; rfl, by (repeat (first | exact gr_refl _ _ | assumption | refine gr_drew ?_ | refine gr_drewN _ ?_ | refine gr_alloc ?_ _ | refine gr_set ?_ | refine gr_set_new ?_ (by first | omega | (simp; omega))))⟩
    · have hke : k = l.length := by omega
      have R : Hid (lnR l = ([], [], false)) := hid (by rw [Hdef.out, Hok.out, if_neg (show ¬ p.length < l.length by omega)]; rfl)
      clear hk hlt
      subst hke
      go_wp2
      exact bodyPost_ret (v := .tuple #[.agg #[.string ⟨#[]⟩, .string ⟨#[]⟩], .bool false]) (by simp [results, Tryd.results22, go_sem]) rfl ⟨by rw [R.out]; rfl, by (repeat (first | exact gr_refl _ _ | assumption | refine gr_drew ?_ | refine gr_drewN _ ?_ | refine gr_alloc ?_ _ | refine gr_set ?_ | refine gr_set_new ?_ (by first | omega | (simp; omega))))⟩
end Go.Proofs.YtnapfecalckajaaDoor
