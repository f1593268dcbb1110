/- ssdp.place, ssdp.text; a configuration as a value. -/
import Derived.Test.YtnapfecalckajaaDoorSs2
import Derived.Test.YtnapfecalckajaaDoorTx
namespace Go.Proofs.YtnapfecalckajaaDoor
open Go.RowKit

theorem ba_app2 (a b : List UInt8) : ((⟨a.toArray⟩ : ByteArray) ++ (⟨b.toArray⟩ : ByteArray)) = ⟨(a ++ b).toArray⟩ := by
  apply ByteArray.ext
  rw [ByteArray.data_append]
  simp
theorem ret_str {a b : ByteArray} (h : a = b) : Ending.returned (.string a) = Ending.returned (.string b) := by rw [h]
/-- A configuration's cells: what is read of them. -/
structure CfOk (cs : Array Value) (lan : Nat) (u : List UInt8) : Prop where
  sz : cs.size = 28
  c18 : cs[18]? = some (.int .u32 (lan : Int))
  c27 : cs[27]? = some (str u)
  hl : lan < 4294967296
def locT : List UInt8 := [76, 79, 67, 65, 84, 73, 79, 78, 58, 32, 104, 116, 116, 112, 58, 47, 47]
def descT : List UInt8 := [58, 53, 48, 48, 48, 47, 100, 101, 115, 99, 46, 120, 109, 108]
def placeL (lan : Nat) : List UInt8 := locT ++ textL lan ++ descT
set_option maxRecDepth 20000 in
set_option maxHeartbeats 1000000 in
theorem place_any (cs : Array Value) (lan : Nat) (u : List UInt8) (w : World) (hc : CfOk cs lan u) (h10 : P10 w) :
    Calls Tryd.prog 19 #[.agg cs] w fun e w' => e = .returned (str (placeL lan)) ∧ w.grownBy w' none := by
  have h18 := hc.c18
  have hl := hc.hl
  have H10 := hid h10
  clear hc h10
  go_enter Tryd.func19, Tryd.ntmps19
  go_wp2_with fail
  have g1 := World.grownBy_alloc w (.cells cs 28) none
  refine (text_in lan hl _ (H10.out.grown g1)).mono ?_
  rintro e w2 ⟨rfl, g2⟩
  have G2 := hid (gr_trans g1 g2)
  clear g1 g2 h18
  have htl : (textL lan).length ≤ 15 := join4_len _ (beL_len 4 lan)
  have HP := hid (show placeL lan = locT ++ textL lan ++ descT from rfl)
  unfold str
  generalize textL lan = x at HP htl ⊢
  go_wp2_with fail
  go_ret
  refine ⟨ret_str ?_, G2.out⟩
  rw [HP.out, ← ba_app2, ← ba_app2]; rfl
/-- The lines of an answer. -/
def ansLines (lan : Nat) (name unique : List UInt8) : List (List UInt8) := [[72, 84, 84, 80, 47, 49, 46, 49, 32, 50, 48, 48, 32, 79, 75], [67, 65, 67, 72, 69, 45, 67, 79, 78, 84, 82, 79, 76, 58, 32, 109, 97, 120, 45, 97, 103, 101, 61, 49, 56, 48, 48], [69, 88, 84, 58], placeL lan, [83, 69, 82, 86, 69, 82, 58, 32, 104, 101, 97, 114, 116, 104, 47, 49, 32, 85, 80, 110, 80, 47, 49, 46, 49, 32, 104, 101, 97, 114, 116, 104, 47, 49], [83, 84, 58, 32] ++ name, [85, 83, 78, 58, 32] ++ unique]
def ansL (lan : Nat) (name unique : List UInt8) : List UInt8 := Lib.join (ansLines lan name unique) [13, 10] ++ [13, 10, 13, 10]
/-- A fresh row of bytes. -/
def TextPost (w : World) (L : List UInt8) (e : Ending) (w' : World) : Prop := ∃ g c, e = .returned (.slice (some ⟨g, 0, none⟩) L.length c) ∧ Row8 w' 5 g c L ∧ w.heap.size ≤ g ∧ w.grownBy w' none
set_option maxRecDepth 20000 in
set_option maxHeartbeats 1000000 in
theorem text_seven (xs : List (List UInt8)) (gb : Nat) (w : World) (h7 : xs.length = 7) (hc : ∀ (j : Nat) x, xs[j]? = some x → w.cell? ⟨gb, j, none⟩ = some (str x)) (hg : gb < w.heap.size) (hlen : (Lib.join xs [13, 10]).length ≤ 100000) :
    Calls Tryd.prog 18 #[.slice (some ⟨gb, 0, none⟩) 7 7] w (TextPost w (Lib.join xs [13, 10] ++ [13, 10, 13, 10])) := by
  have hj := Tryd.strings_Join gb 0 7 (xs.map (fun r => (⟨r.toArray⟩ : ByteArray))) ⟨#[13, 10]⟩ w (fun j x hx => by
    simp only [List.getElem?_map, Option.map_eq_some_iff] at hx
    obtain ⟨r, hr, rfl⟩ := hx
    rw [Nat.zero_add]
    exact hc j r hr) hg (by simp; omega) (by simp; omega) (by
      rw [List.map_map]
      rw [show ((fun x : ByteArray => x.data.toList) ∘ fun (r : List UInt8) => (⟨r.toArray⟩ : ByteArray)) = id from rfl, List.map_id]
      show (Lib.join xs [13, 10]).length ≤ _
      omega)
  rw [List.map_map, show ((fun x : ByteArray => x.data.toList) ∘ fun (r : List UInt8) => (⟨r.toArray⟩ : ByteArray)) = id from rfl, List.map_id, List.length_map, h7] at hj
  have HJ := hid hj
  clear hj hc
  obtain ⟨J, hJ⟩ : ∃ J, Lib.join xs [13, 10] = J := ⟨_, rfl⟩
  rw [hJ] at hlen
  have HJE := hid hJ
  clear hJ
  go_enter Tryd.func18, Tryd.ntmps18
  go_wp2_with fail
  refine HJ.out.mono ?_
  rw [HJE.out]
  rintro e w2 ⟨rfl, b2⟩
  have G2 := hid (gr_of_below b2)
  clear b2 HJ
  have hsz : (((⟨J.toArray⟩ : ByteArray) ++ (⟨#[13, 10]⟩ : ByteArray)) ++ (⟨#[13, 10]⟩ : ByteArray)).size ≤ maxLen := by
    rw [ByteArray.size_append, ByteArray.size_append, Lib.size_eq]
    show J.length + 2 + 2 ≤ _
    unfold maxLen; omega
  have HSZ := hid hsz
  clear hsz
  go_wp2_with (refine wpl_s2b rfl 9 29 5 _ rfl Tryd.underlying9 Tryd.underlying29 Tryd.underlying5 (((⟨J.toArray⟩ : ByteArray) ++ (⟨#[13, 10]⟩ : ByteArray)) ++ (⟨#[13, 10]⟩ : ByteArray)) rfl HSZ.out ?_; intro g c w3 hg hrow g3)
  rw [show (((⟨J.toArray⟩ : ByteArray) ++ (⟨#[13, 10]⟩ : ByteArray)) ++ (⟨#[13, 10]⟩ : ByteArray)) = ⟨(J ++ [13, 10, 13, 10]).toArray⟩ by rw [show J ++ [13, 10, 13, 10] = (J ++ [13, 10]) ++ [13, 10] by simp, ← ba_app2, ← ba_app2]] at hrow ⊢
  have HR := hid hrow
  have G3 := hid (gr_trans G2.out g3)
  have HG := hid (Nat.le_trans G2.out.size hg)
  clear hrow g3 hg
  go_wp2_with fail
  go_ret
  exact ⟨g, c, by rw [HJE.out, List.length_append]; rfl, by rw [HJE.out]; exact HR.out, HG.out, G3.out⟩
end Go.Proofs.YtnapfecalckajaaDoor
