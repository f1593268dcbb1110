/- The walk of HeadMade. -/
import Derived.Test.YtdfhdnnkpeodhaaDoorHead22
import Derived.Test.YtdfhdnnkpeodhaaDoorHead23
import Derived.Test.YtdfhdnnkpeodhaaDoorHead24
import Derived.Test.YtdfhdnnkpeodhaaDoorReg
import Derived.Deep.RegionHeld3
import Derived.Deep.DeepCutAuto
import Derived.Deep.RegionWith
namespace Go.Proofs.YtdfhdnnkpeodhaaDoor
open Go.RowKit

set_option maxRecDepth 100000 in
set_option maxHeartbeats 4000000 in
theorem head_made_walk (s t : ByteArray) (x y : UInt8) (m : Int) (w : World) (hm : w.cell? ⟨0, 0, none⟩ = some (.int .i64 m)) (hs : s.size ≤ 9223372036854775807) :
    Calls Tryd.prog 6 #[.string s, .string t, .agg #[.int .u8 (x.toNat : Int), .int .u8 (y.toNat : Int)]] w fun e w' => e = .returned (.bool true) ∧ w.grownBy w' none := by
  by_cases hb : tokB s.data.toList = true ∧ t.size ≤ 1000
  · by_cases h1 : t.size = 0
    · exact made_empty s t x y m w hm hs hb.1 hb.2 h1
    · by_cases h2 : 512 < t.size
      · exact made_long s t x y m w hm hs hb.1 hb.2 h2
      · exact made_right s t x y m w hm hs hb.1 hb.2 (by omega)
  obtain ⟨l, hl⟩ : ∃ l, l = s.data.toList := ⟨_, rfl⟩
  obtain ⟨v, hv⟩ : ∃ v, v = t.data.toList := ⟨_, rfl⟩
  have hlen : t.size = v.length := by rw [hv, ← Lib.size_eq]
  have hstr : ∀ k (h : k < t.size), t[k]'h = v.getD k 0 := by rw [hv]; exact strAt t
  have Hstr := hid hstr
  have htok := fun W => rtoken_any s W (by omega)
  rw [← hl] at htok
  have Hl := hid hl
  have Hv := hid hv
  have Hm := hid hm
  have G0 := World.grownBy_alloc w (.cells #[.int .u8 (x.toNat : Int), .int .u8 (y.toNat : Int)] 39) none
  have hblk := heap_alloc_new w (.cells #[.int .u8 (x.toNat : Int), .int .u8 (y.toNat : Int)] 39)
  have Hsp := hid (fun W => speaks_true W)
  cases hk : tokB l
  · rw [hk] at htok
    have Htok := hid htok
    clear hk htok hstr hl hv hm
    go_enter Tryd.func6, Tryd.ntmps6
    go_wp2_with fail
    refine (Hsp.out _).mono ?_
    rintro e w1 ⟨rfl, g1⟩
    go_wp2_with fail
    refine (Htok.out _).mono ?_
    rintro e w2 ⟨rfl, rfl⟩
    go_wp2
    go_ret
    exact ⟨rfl, gr_trans G0 g1⟩
  rw [hk] at htok
  have Htok := hid htok
  have Hk := hid hk
  clear hk htok hstr hl hv hm
  by_cases hv1 : 1000 < t.size
  · go_enter Tryd.func6, Tryd.ntmps6
    go_wp2_with fail
    refine (Hsp.out _).mono ?_
    rintro e w1 ⟨rfl, g1⟩
    go_wp2_with fail
    refine (Htok.out _).mono ?_
    rintro e w2 ⟨rfl, rfl⟩
    go_wp2
    go_ret
    exact ⟨rfl, gr_trans G0 g1⟩
  exact absurd ⟨by rw [← Hl.out]; exact Hk.out, by omega⟩ hb
end Go.Proofs.YtdfhdnnkpeodhaaDoor
