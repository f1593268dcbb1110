/- inet.Text: an address as a text. -/
import Derived.Test.YtfceodbpkghkaaaGreatDoorOct1
import Derived.Test.YtfceodbpkghkaaaGreatDoorVal4
import Derived.Lib.Join
namespace Go.Proofs.YtfceodbpkghkaaaGreatDoor
open Go.RowKit

def digL (b : UInt8) : List UInt8 := Lib.decDigits b.toNat
def textL (a : Nat) : List UInt8 := Lib.join ((beL 4 a).map digL) [46]
/-- The digits of a byte, written out. -/
def digX (n : Nat) : List UInt8 := if n < 10 then [UInt8.ofNat (48 + n)] else if n < 100 then [UInt8.ofNat (48 + n / 10), UInt8.ofNat (48 + n % 10)] else [UInt8.ofNat (48 + n / 100), UInt8.ofNat (48 + n / 10 % 10), UInt8.ofNat (48 + n % 10)]
theorem digL_X (b : UInt8) : digL b = digX b.toNat := by
  have hb := UInt8.toNat_lt b
  unfold digL digX
  generalize b.toNat = n at hb
  by_cases h1 : n < 10
  · rw [dd_small h1, if_pos h1]
  · by_cases h2 : n < 100
    · rw [dd_big h1, dd_small (by omega), if_neg h1, if_pos h2]; rfl
    · rw [dd_big h1, dd_big (by omega), dd_small (by omega), if_neg h1, if_neg h2, Nat.div_div_eq_div_mul]; rfl
theorem all_bytes {p : UInt8 → Prop} (h : ∀ n : Fin 256, p (UInt8.ofNat n.val)) : ∀ c, p c := fun c => by
  have := h ⟨c.toNat, UInt8.toNat_lt c⟩
  simpa using this
theorem digX_len : ∀ b : UInt8, (digX b.toNat).length ≤ 3 ∧ 1 ≤ (digX b.toNat).length := all_bytes (by decide +kernel)
theorem digL_len (b : UInt8) : (digL b).length ≤ 3 ∧ 1 ≤ (digL b).length := by rw [digL_X]; exact digX_len b
theorem four {l : List UInt8} (h : l.length = 4) : ∃ a b c d, l = [a, b, c, d] := by
  match l, h with
  | [a, b, c, d], _ => exact ⟨a, b, c, d, rfl⟩
theorem join4 (a b c d : List UInt8) : Lib.join [a, b, c, d] [46] = a ++ 46 :: (b ++ 46 :: (c ++ 46 :: d)) := by
  simp [Lib.join, List.intercalate]
theorem join4_len (l : List UInt8) (h : l.length = 4) : (Lib.join (l.map digL) [46]).length ≤ 15 := by
  obtain ⟨a, b, c, d, rfl⟩ := four h
  rw [show [a, b, c, d].map digL = [digL a, digL b, digL c, digL d] from rfl, join4]
  have h1 := digL_len a
  have h2 := digL_len b
  have h3 := digL_len c
  have h4 := digL_len d
  simp; omega
theorem gr_grow (w : World) (k : Nat) (os : Array Obj) : w.grownBy (Go.Sort.grow (w.drewN k) os) none := by
  refine ⟨rfl, rfl, rfl, ?_, fun i hi _ => ?_⟩
  · simp [Go.Sort.grow, World.drewN]
  · simp [Go.Sort.grow, World.drewN, Array.getElem?_append_left hi]
theorem itoa_byte (b : UInt8) (w : World) (h10 : P10 w) : Calls Tryz.prog 101 #[.int .i64 (b.toNat : Int)] w fun e w' => e = .returned (.string ⟨(digL b).toArray⟩) ∧ w.grownBy w' none := by
  have hb := UInt8.toNat_lt b
  refine (Tryz.strconv_Itoa (b.toNat : Int) (by omega) (by omega) w h10).mono ?_
  rintro e w' ⟨rfl, k, os, rfl⟩
  refine ⟨?_, gr_grow w k os⟩
  have : Lib.itoa ((b.toNat : Nat) : Int) = digL b := by
    unfold Lib.itoa digL
    rw [if_neg (by omega)]; simp
  rw [this]
set_option maxRecDepth 20000 in
set_option maxHeartbeats 2000000 in
theorem text_in (a : Nat) (ha : a < 4294967296) (w : World) (h10 : P10 w) :
    Calls Tryz.prog 68 #[.int .u32 a] w fun e w' => e = .returned (str (textL a)) ∧ w.grownBy w' none := by
  obtain ⟨i0, hi, hz0, hz1, hz2⟩ := info_parts infoStr
  have hn := onum_any 4 (by omega) (by omega) a (by omega)
  obtain ⟨l, hl⟩ : ∃ l, l = beL 4 a := ⟨_, rfl⟩
  have hlen : l.length = 4 := by rw [hl]; exact beL_len 4 a
  have hT : textL a = Lib.join (l.map digL) [46] := by rw [hl]; rfl
  rw [← hl] at hn
  have HT := hid hT
  have Hn := hid hn
  have H10 := hid h10
  clear hT hn h10 hl
  go_enter Tryz.func68, Tryz.ntmps68
  go_wp2_with fail
  refine (Hn.out w).mono ?_
  rintro e w1 ⟨v, rfl, -, hb, g1⟩
  obtain ⟨ad, c, rfl, hc1, hc2, hc3⟩ := hb
  obtain ⟨bb, oo, rfl, hcell⟩ := hc3 (by intro e; rw [e] at hlen; simp at hlen)
  have Hcell := hid hcell
  rw [hlen]
  rw [hlen] at hcell
  clear hc3 hcell
  go_wp2_with fail
  go_loopw [3, 10] (fun vo vk wr => ∃ k : Nat, vk = .int .i64 k ∧ k ≤ 4 ∧ wr.ownsRow w1.heap.size 9 1 vo k (((l.take k).map digL).map fun x => Value.string ⟨x.toArray⟩) ∧ w1.grownBy wr none) (fun _ vk _ => 4 - (intOf vk).toNat)
  case atStart => exact ⟨0, rfl, by omega, World.ownsRow_nil _ _ _ _, gr_refl _ _⟩
  case round =>
    obtain ⟨k, rfl, hk, hown, gw⟩ := hrel
    have hsz := gw.size
    have hsz1 := g1.size
    by_cases hlt : k < 4
    · have hc := gw.cell (Hcell.out k (by omega)) (by simp)
      have R := hid (show ((l.take (k + 1)).map digL).map (fun x => Value.string ⟨x.toArray⟩) = ((l.take k).map digL).map (fun x => Value.string ⟨x.toArray⟩) ++ [.string ⟨(digL (l.getD k 0)).toArray⟩] by
        rw [List.take_succ_eq_append_getElem (by omega)]
        rw [show l.getD k 0 = l[k]'(by omega) by rw [List.getD_eq_getElem?_getD, List.getElem?_eq_getElem (by omega)]; rfl]
        rw [List.map_append, List.map_append]; rfl)
      generalize l.getD k 0 = b at hc R
      have hb8 : b.toNat < 256 := UInt8.toNat_lt b
      have hit := hid (fun W h => itoa_byte b W h)
      generalize digL b = x at hit R
      clear ha hlen
      go_wp2_with fail
      refine (hit.out _ (H10.out.grown (gr_trans g1 gw))).mono ?_
      rintro e w3 ⟨rfl, g3⟩
      have hown3 := hown.kept g3 (Classical.em _)
      clear hown
      go_wp2_with (at_builtin; refine wpList_append_own _ rfl _ _ 41 rfl w1.heap.size 9 i0 _ 1 16 Tryz.underlying41 hi hz0 hz1 hz2 rfl (by decide) _ _ _ rfl (hown3.alloc _) ⟨w3.heap.size, 0, none⟩ 1 1 [.string ⟨x.toArray⟩] rfl rfl ?c1 ?c2 ?c3 ?c4 ?c5 ?_)
      case c1 =>
        intro j u hj
        match j, hj with
        | 0, hj => simp at hj; subst hj; simp [Addr.add]
      case c2 => intro u hu; simp at hu; subst hu; rfl
      case c3 => unfold maxLen; omega
      case c4 => omega
      case c5 => have := g3.size; simp; omega
      · intro v' w4 hown' hgrow _
        have gw' := gr_own (gr_trans gw (gr_alloc g3 _)) (hown3.alloc _) (Nat.le_refl _) hgrow
        clear hgrow hown3
        go_wp2
        go_roundw
        case rel => exact ⟨k + 1, by go_num, by omega, by rw [R.out]; simpa using hown', gw'⟩
        case measure => simp [intOf]; omega
    · obtain rfl : k = 4 := by omega
      obtain ⟨g, cap, rfl, hgb, hcap, hcl⟩ := own_cell hown (by omega)
      have hlt : g < wr.heap.size := (hown.lt g rfl).2
      have hj := Tryz.strings_Join g 0 cap (l.map fun b => ⟨(digL b).toArray⟩) ⟨#[46]⟩ wr (fun j x hx => by
        rw [Nat.zero_add]
        refine hcl j (.string x) ?_
        rw [List.take_of_length_le (by omega), List.map_map]
        rw [List.getElem?_map] at hx ⊢
        cases hlj : l[j]? with
        | none => rw [hlj] at hx; simp at hx
        | some b => rw [hlj] at hx; simp at hx; subst hx; rfl) hlt (by simp; omega) (by simp; omega) (by
        rw [List.map_map, show ((fun x : ByteArray => x.data.toList) ∘ fun b : UInt8 => (ByteArray.mk (digL b).toArray)) = digL from rfl, show (ByteArray.mk #[46]).data.toList = [46] from rfl]
        have := join4_len l hlen
        omega)
      rw [List.map_map, show ((fun x : ByteArray => x.data.toList) ∘ fun b : UInt8 => (ByteArray.mk (digL b).toArray)) = digL from rfl, show (ByteArray.mk #[46]).data.toList = [46] from rfl, ← HT.out, List.length_map, hlen] at hj
      have Hj := hid hj
      clear hj hown hcl Hcell
      go_wp2_with fail
      refine Hj.out.mono ?_
      rintro e w5 ⟨rfl, hb5⟩
      go_wp2
      go_ret
      exact ⟨rfl, gr_trans (gr_trans g1 gw) (gr_of_below hb5)⟩
end Go.Proofs.YtfceodbpkghkaaaGreatDoor
