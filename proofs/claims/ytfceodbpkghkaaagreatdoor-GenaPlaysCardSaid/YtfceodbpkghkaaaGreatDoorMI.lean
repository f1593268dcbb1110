/- Texts of one proof, put together: In1, In2, In3, In4, In5, In6, In7, In8. -/
import Derived.Test.YtfceodbpkghkaaaGreatDoorOct1
import Derived.Test.YtfceodbpkghkaaaGreatDoorMV
import Derived.Lib.Join
import Derived.Deep.RegionWith
import Derived.Laws.BitsAllLaws
import Derived.Lib.SplitLaws
/- inet.Text: an address as a text. -/
namespace Go.Proofs.YtfceodbpkghkaaaGreatDoor
open Go.RowKit

def digL (b : UInt8) : List UInt8 := Lib.decDigits b.toNat
def textL (a : Nat) : List UInt8 := Lib.join ((beL 4 a).map digL) [46]
/-- The digits of a byte, written out. -/
def digX (n : Nat) : List UInt8 := if n < 10 then [UInt8.ofNat (48 + n)] else if n < 100 then [UInt8.ofNat (48 + n / 10), UInt8.ofNat (48 + n % 10)] else [UInt8.ofNat (48 + n / 100), UInt8.ofNat (48 + n / 10 % 10), UInt8.ofNat (48 + n % 10)]
theorem digL_X (b : UInt8) : digL b = digX b.toNat := by
  have hb := UInt8.toNat_lt b
  unfold digL digX
  generalize b.toNat = n at hb
  by_cases h1 : n < 10
  · rw [dd_small h1, if_pos h1]
  · by_cases h2 : n < 100
    · rw [dd_big h1, dd_small (by omega), if_neg h1, if_pos h2]; rfl
    · rw [dd_big h1, dd_big (by omega), dd_small (by omega), if_neg h1, if_neg h2, Nat.div_div_eq_div_mul]; rfl
theorem all_bytes {p : UInt8 → Prop} (h : ∀ n : Fin 256, p (UInt8.ofNat n.val)) : ∀ c, p c := fun c => by
  have := h ⟨c.toNat, UInt8.toNat_lt c⟩
  simpa using this
theorem digX_len : ∀ b : UInt8, (digX b.toNat).length ≤ 3 ∧ 1 ≤ (digX b.toNat).length := all_bytes (by decide +kernel)
theorem digL_len (b : UInt8) : (digL b).length ≤ 3 ∧ 1 ≤ (digL b).length := by rw [digL_X]; exact digX_len b
theorem four {l : List UInt8} (h : l.length = 4) : ∃ a b c d, l = [a, b, c, d] := by
  match l, h with
  | [a, b, c, d], _ => exact ⟨a, b, c, d, rfl⟩
theorem join4 (a b c d : List UInt8) : Lib.join [a, b, c, d] [46] = a ++ 46 :: (b ++ 46 :: (c ++ 46 :: d)) := by
  simp [Lib.join, List.intercalate]
theorem join4_len (l : List UInt8) (h : l.length = 4) : (Lib.join (l.map digL) [46]).length ≤ 15 := by
  obtain ⟨a, b, c, d, rfl⟩ := four h
  rw [show [a, b, c, d].map digL = [digL a, digL b, digL c, digL d] from rfl, join4]
  have h1 := digL_len a
  have h2 := digL_len b
  have h3 := digL_len c
  have h4 := digL_len d
  simp; omega
theorem gr_grow (w : World) (k : Nat) (os : Array Obj) : w.grownBy (Go.Sort.grow (w.drewN k) os) none := by
  refine ⟨rfl, rfl, rfl, ?_, fun i hi _ => ?_⟩
  · simp [Go.Sort.grow, World.drewN]
  · simp [Go.Sort.grow, World.drewN, Array.getElem?_append_left hi]
theorem itoa_byte (b : UInt8) (w : World) (h10 : P10 w) : Calls Tryz.prog 101 #[.int .i64 (b.toNat : Int)] w fun e w' => e = .returned (.string ⟨(digL b).toArray⟩) ∧ w.grownBy w' none := by
  have hb := UInt8.toNat_lt b
  refine (Tryz.strconv_Itoa (b.toNat : Int) (by omega) (by omega) w h10).mono ?_
  rintro e w' ⟨rfl, k, os, rfl⟩
  refine ⟨?_, gr_grow w k os⟩
  have : Lib.itoa ((b.toNat : Nat) : Int) = digL b := by
    unfold Lib.itoa digL
    rw [if_neg (by omega)]; simp
  rw [this]
set_option maxRecDepth 20000 in
set_option maxHeartbeats 2000000 in
theorem text_in (a : Nat) (ha : a < 4294967296) (w : World) (h10 : P10 w) :
    Calls Tryz.prog 68 #[.int .u32 a] w fun e w' => e = .returned (str (textL a)) ∧ w.grownBy w' none := by
  obtain ⟨i0, hi, hz0, hz1, hz2⟩ := info_parts infoStr
  have hn := onum_any 4 (by omega) (by omega) a (by omega)
  obtain ⟨l, hl⟩ : ∃ l, l = beL 4 a := ⟨_, rfl⟩
  have hlen : l.length = 4 := by rw [hl]; exact beL_len 4 a
  have hT : textL a = Lib.join (l.map digL) [46] := by rw [hl]; rfl
  rw [← hl] at hn
  have HT := hid hT
  have Hn := hid hn
  have H10 := hid h10
  clear hT hn h10 hl
  go_enter Tryz.func68, Tryz.ntmps68
  go_wp2_with fail
  refine (Hn.out w).mono ?_
  rintro e w1 ⟨v, rfl, -, hb, g1⟩
  obtain ⟨ad, c, rfl, hc1, hc2, hc3⟩ := hb
  obtain ⟨bb, oo, rfl, hcell⟩ := hc3 (by intro e; rw [e] at hlen; simp at hlen)
  have Hcell := hid hcell
  rw [hlen]
  rw [hlen] at hcell
  clear hc3 hcell
  go_wp2_with fail
  go_loopw [3, 10] (fun vo vk wr => ∃ k : Nat, vk = .int .i64 k ∧ k ≤ 4 ∧ wr.ownsRow w1.heap.size 9 1 vo k (((l.take k).map digL).map fun x => Value.string ⟨x.toArray⟩) ∧ w1.grownBy wr none) (fun _ vk _ => 4 - (intOf vk).toNat)
  case atStart => exact ⟨0, rfl, by omega, World.ownsRow_nil _ _ _ _, gr_refl _ _⟩
  case round =>
    obtain ⟨k, rfl, hk, hown, gw⟩ := hrel
    have hsz := gw.size
    have hsz1 := g1.size
    by_cases hlt : k < 4
    · have hc := gw.cell (Hcell.out k (by omega)) (by simp)
      have R := hid (show ((l.take (k + 1)).map digL).map (fun x => Value.string ⟨x.toArray⟩) = ((l.take k).map digL).map (fun x => Value.string ⟨x.toArray⟩) ++ [.string ⟨(digL (l.getD k 0)).toArray⟩] by
        rw [List.take_succ_eq_append_getElem (by omega)]
        rw [show l.getD k 0 = l[k]'(by omega) by rw [List.getD_eq_getElem?_getD, List.getElem?_eq_getElem (by omega)]; rfl]
        rw [List.map_append, List.map_append]; rfl)
      generalize l.getD k 0 = b at hc R
      have hb8 : b.toNat < 256 := UInt8.toNat_lt b
      have hit := hid (fun W h => itoa_byte b W h)
      generalize digL b = x at hit R
      clear ha hlen
      go_wp2_with fail
      refine (hit.out _ (H10.out.grown (gr_trans g1 gw))).mono ?_
      rintro e w3 ⟨rfl, g3⟩
      have hown3 := hown.kept g3 (Classical.em _)
      clear hown
      go_wp2_with (at_builtin; refine wpList_append_own _ rfl _ _ 41 rfl w1.heap.size 9 i0 _ 1 16 Tryz.underlying41 hi hz0 hz1 hz2 rfl (by decide) _ _ _ rfl (hown3.alloc _) ⟨w3.heap.size, 0, none⟩ 1 1 [.string ⟨x.toArray⟩] rfl rfl ?c1 ?c2 ?c3 ?c4 ?c5 ?_)
      case c1 =>
        intro j u hj
        match j, hj with
        | 0, hj => simp at hj; subst hj; simp [Addr.add]
      case c2 => intro u hu; simp at hu; subst hu; rfl
      case c3 => unfold maxLen; omega
      case c4 => omega
      case c5 => have := g3.size; simp; omega
      · intro v' w4 hown' hgrow _
        have gw' := gr_own (gr_trans gw (gr_alloc g3 _)) (hown3.alloc _) (Nat.le_refl _) hgrow
        clear hgrow hown3
        go_wp2
        go_roundw
        case rel => exact ⟨k + 1, by go_num, by omega, by rw [R.out]; simpa using hown', gw'⟩
        case measure => simp [intOf]; omega
    · obtain rfl : k = 4 := by omega
      obtain ⟨g, cap, rfl, hgb, hcap, hcl⟩ := own_cell hown (by omega)
      have hlt : g < wr.heap.size := (hown.lt g rfl).2
      have hj := Tryz.strings_Join g 0 cap (l.map fun b => ⟨(digL b).toArray⟩) ⟨#[46]⟩ wr (fun j x hx => by
        rw [Nat.zero_add]
        refine hcl j (.string x) ?_
        rw [List.take_of_length_le (by omega), List.map_map]
        rw [List.getElem?_map] at hx ⊢
        cases hlj : l[j]? with
        | none => rw [hlj] at hx; simp at hx
        | some b => rw [hlj] at hx; simp at hx; subst hx; rfl) hlt (by simp; omega) (by simp; omega) (by
        rw [List.map_map, show ((fun x : ByteArray => x.data.toList) ∘ fun b : UInt8 => (ByteArray.mk (digL b).toArray)) = digL from rfl, show (ByteArray.mk #[46]).data.toList = [46] from rfl]
        have := join4_len l hlen
        omega)
      rw [List.map_map, show ((fun x : ByteArray => x.data.toList) ∘ fun b : UInt8 => (ByteArray.mk (digL b).toArray)) = digL from rfl, show (ByteArray.mk #[46]).data.toList = [46] from rfl, ← HT.out, List.length_map, hlen] at hj
      have Hj := hid hj
      clear hj hown hcl Hcell
      go_wp2_with fail
      refine Hj.out.mono ?_
      rintro e w5 ⟨rfl, hb5⟩
      go_wp2
      go_ret
      exact ⟨rfl, gr_trans (gr_trans g1 gw) (gr_of_below hb5)⟩
end Go.Proofs.YtfceodbpkghkaaaGreatDoor
/- hearthref04.Digits, Text. -/
namespace Go.Proofs.YtfceodbpkghkaaaGreatDoor
open Go.RowKit

theorem conv_one {W : World} {b : Nat} {c : UInt8} (h : W.cell? ⟨b, 0, none⟩ = some (.int .u8 (c.toNat : Int))) : (convert 37 9 (.slice (some ⟨b, 0, none⟩) 1 1)).run Tryz.prog W = .ok (.string ⟨#[c]⟩) W := by
  rw [run_convert_bytes_string W 37 9 5 _ _ _ Tryz.underlying37 Tryz.underlying5 Tryz.underlying9]
  have := run_bytesToString (P := Tryz.prog) W ⟨b, 0, none⟩ 1 1 [(c.toNat : Int)] (by
    have := run_loadCells_list (P := Tryz.prog) W ⟨b, 0, none⟩ [Value.int .u8 (c.toNat : Int)] (by
      intro j v hj
      match j, hj with
      | 0, hj => simp at hj; subst hj; simpa [Addr.add] using h)
    simpa using this)
  rw [this]
  have := foldl_push_byteCells [c]
  simp at this
  simp
  rfl
end Go.Proofs.YtfceodbpkghkaaaGreatDoor
/- hearthref04.Text. -/
namespace Go.Proofs.YtfceodbpkghkaaaGreatDoor
open Go.RowKit

theorem i64_and255 (n : Int) : bits .and .i64 n 255 = n % 256 := by
  have h255 : (BitVec.ofInt 64 255).toNat = 2 ^ 8 - 1 := by decide
  have key : (BitVec.ofInt 64 n &&& BitVec.ofInt 64 255).toNat = (n % ((2 ^ 64 : Nat) : Int)).toNat % 2 ^ 8 := by
    rw [BitVec.toNat_and, BitVec.toNat_ofInt, h255, Nat.and_two_pow_sub_one_eq_mod]
  show IntKind.i64.wrap ((BitVec.ofInt 64 n &&& BitVec.ofInt 64 255).toNat : Nat) = n % 256
  rw [key, IntKind.wrap_i64]
  omega
theorem beL4 (a : Nat) : beL 4 a = [UInt8.ofNat (a / 16777216 % 256), UInt8.ofNat (a / 65536 % 256), UInt8.ofNat (a / 256 % 256), UInt8.ofNat (a % 256)] := by
  rw [beL_cons, beL_cons, beL_cons, beL_cons]; simp [beL]
theorem digL_size (b : UInt8) : (ByteArray.mk (digL b).toArray).size ≤ 3 := by rw [Lib.size_eq]; exact (digL_len b).1
end Go.Proofs.YtfceodbpkghkaaaGreatDoor
/- The plain law of an address's text: what the two readers of a text compute is the same. -/
namespace Go.Proofs.YtfceodbpkghkaaaGreatDoor
open Go.RowKit

/-- The reference's reader, byte by byte. -/
def prs : List UInt8 → Nat → Nat → Nat → Nat → Nat × Bool
  | [], a, n, d, s => if s = 0 ∨ 255 < n ∨ d ≠ 3 then (0, false) else (256 * a + n, true)
  | c :: l, a, n, d, s =>
    if c = 46 then (if s = 0 ∨ 255 < n ∨ 3 ≤ d then (0, false) else prs l (256 * a + n) 0 (d + 1) 0)
    else if c.toNat < 48 ∨ 57 < c.toNat ∨ s = 3 ∨ (0 < s ∧ n = 0) then (0, false) else prs l a (10 * n + (c.toNat - 48)) d (s + 1)
def prsR (l : List UInt8) : Nat × Bool := prs l 0 0 0 0
theorem digit_ne (m : Nat) (h : m < 10) : UInt8.ofNat (48 + m) ≠ 46 ∧ (UInt8.ofNat (48 + m)).toNat = 48 + m := by
  have h1 : (UInt8.ofNat (48 + m)).toNat = 48 + m := by simp; omega
  exact ⟨fun e => by rw [e] at h1; simp at h1; omega, h1⟩
theorem prs_digit (m : Nat) (h : m < 10) (l : List UInt8) (a n d s : Nat) (hs : s < 3) (hn : 0 < s → n ≠ 0) : prs (UInt8.ofNat (48 + m) :: l) a n d s = prs l a (10 * n + m) d (s + 1) := by
  obtain ⟨h1, h2⟩ := digit_ne m h
  rw [prs, if_neg h1, h2, if_neg (by omega)]
  rw [show 48 + m - 48 = m by omega]
theorem prs_digX (b : Nat) (hb : b < 256) (r : List UInt8) (a d : Nat) : prs (digX b ++ r) a 0 d 0 = prs r a b d (digX b).length := by
  unfold digX
  by_cases h1 : b < 10
  · rw [if_pos h1]
    show prs (UInt8.ofNat (48 + b) :: r) a 0 d 0 = _
    rw [prs_digit b h1 r a 0 d 0 (by omega) (by omega)]; simp
  · rw [if_neg h1]
    by_cases h2 : b < 100
    · rw [if_pos h2]
      show prs (UInt8.ofNat (48 + b / 10) :: UInt8.ofNat (48 + b % 10) :: r) a 0 d 0 = _
      rw [prs_digit _ (by omega) _ a 0 d 0 (by omega) (by omega), prs_digit _ (by omega) _ a _ d _ (by omega) (by omega)]
      rw [show 10 * (10 * 0 + b / 10) + b % 10 = b by omega]; rfl
    · rw [if_neg h2]
      show prs (UInt8.ofNat (48 + b / 100) :: UInt8.ofNat (48 + b / 10 % 10) :: UInt8.ofNat (48 + b % 10) :: r) a 0 d 0 = _
      rw [prs_digit _ (by omega) _ a 0 d 0 (by omega) (by omega), prs_digit _ (by omega) _ a _ d _ (by omega) (by omega), prs_digit _ (by omega) _ a _ d _ (by omega) (by omega)]
      rw [show 10 * (10 * (10 * 0 + b / 100) + b / 10 % 10) + b % 10 = b by omega]; rfl
theorem prs_dot (r : List UInt8) (a n d s : Nat) (hs : 1 ≤ s) (hn : n < 256) (hd : d < 3) : prs (46 :: r) a n d s = prs r (256 * a + n) 0 (d + 1) 0 := by
  rw [prs, if_pos rfl, if_neg (by omega)]
theorem digX_pos (b : Nat) : 1 ≤ (digX b).length := by unfold digX; split <;> (try split) <;> simp
def dotted (a b c d : Nat) : List UInt8 := digX a ++ 46 :: (digX b ++ 46 :: (digX c ++ 46 :: digX d))
theorem prs_dotted (a b c d : Nat) (ha : a < 256) (hb : b < 256) (hc : c < 256) (hd : d < 256) : prsR (dotted a b c d) = (256 * (256 * (256 * a + b) + c) + d, true) := by
  unfold prsR dotted
  rw [prs_digX a ha, prs_dot _ _ _ _ _ (digX_pos a) ha (by omega), prs_digX b hb, prs_dot _ _ _ _ _ (digX_pos b) hb (by omega), prs_digX c hc, prs_dot _ _ _ _ _ (digX_pos c) hc (by omega)]
  have h := prs_digX d hd [] (256 * (256 * (256 * 0 + a) + b) + c) (0 + 1 + 1 + 1)
  rw [List.append_nil] at h
  rw [h, prs, if_neg (by have := digX_pos d; omega)]
  simp
/-- What stands of a number, so far. -/
def pre (n s : Nat) : List UInt8 := if s = 0 then [] else digX n
def Inv (n s : Nat) : Prop := (s = 0 ∧ n = 0) ∨ (1 ≤ s ∧ s ≤ 3 ∧ (digX n).length = s ∧ n < 1000)
theorem digX_snoc (n e : Nat) (h1 : 1 ≤ n) (h2 : n < 100) (he : e < 10) : digX (10 * n + e) = digX n ++ [UInt8.ofNat (48 + e)] := by
  unfold digX
  rw [if_neg (show ¬ 10 * n + e < 10 by omega)]
  by_cases h3 : n < 10
  · rw [if_pos (show 10 * n + e < 100 by omega), if_pos h3, show (10 * n + e) / 10 = n by omega, show (10 * n + e) % 10 = e by omega]; rfl
  · rw [if_neg (show ¬ 10 * n + e < 100 by omega), if_neg h3, if_pos h2, show (10 * n + e) / 100 = n / 10 by omega, show (10 * n + e) / 10 % 10 = n % 10 by omega, show (10 * n + e) % 10 = e by omega]; rfl
theorem inv_step (n s e : Nat) (h : Inv n s) (hs : s ≠ 3) (hn : ¬ (0 < s ∧ n = 0)) (he : e < 10) : Inv (10 * n + e) (s + 1) ∧ pre (10 * n + e) (s + 1) = pre n s ++ [UInt8.ofNat (48 + e)] := by
  rcases h with ⟨rfl, rfl⟩ | ⟨h1, h2, h3, h4⟩
  · refine ⟨.inr ⟨by omega, by omega, ?_, by omega⟩, ?_⟩
    · unfold digX; rw [if_pos (by omega)]; rfl
    · unfold pre digX; rw [if_neg (by omega), if_pos (by omega), if_pos rfl]; simp
  · have hn1 : 1 ≤ n := by omega
    have hn2 : n < 100 := by
      apply Nat.lt_of_not_le; intro h
      unfold digX at h3
      rw [if_neg (by omega), if_neg (by omega)] at h3
      simp at h3; omega
    have hx := digX_snoc n e hn1 hn2 he
    refine ⟨.inr ⟨by omega, by omega, by rw [hx]; simp [h3], by omega⟩, ?_⟩
    unfold pre; rw [if_neg (by omega), if_neg (by omega), hx]
def jn : List Nat → List UInt8
  | [] => []
  | [n] => digX n
  | n :: m :: ns => digX n ++ 46 :: jn (m :: ns)
theorem jn_cons (n : Nat) (ns : List Nat) (h : ns ≠ []) : jn (n :: ns) = digX n ++ 46 :: jn ns := by
  cases ns with
  | nil => exact absurd rfl h
  | cons m ns => rfl
theorem prs_sound : ∀ (l : List UInt8) (a n d s x : Nat), Inv n s → d ≤ 3 → prs l a n d s = (x, true) →
    ∃ ns : List Nat, ns.length + d = 4 ∧ (∀ m ∈ ns, m < 256) ∧ pre n s ++ l = jn ns ∧ x = ns.foldl (fun a m => 256 * a + m) a
  | [], a, n, d, s, x, hi, hd, h => by
    rw [prs] at h
    by_cases hc : s = 0 ∨ 255 < n ∨ d ≠ 3
    · rw [if_pos hc] at h; simp at h
    · rw [if_neg hc] at h
      obtain rfl : 256 * a + n = x := by simpa using h
      exact ⟨[n], by simp; omega, by simp; omega, by unfold pre; rw [if_neg (by omega)]; simp [jn], rfl⟩
  | c :: l, a, n, d, s, x, hi, hd, h => by
    rw [prs] at h
    by_cases h46 : c = 46
    · rw [if_pos h46] at h
      by_cases hc : s = 0 ∨ 255 < n ∨ 3 ≤ d
      · rw [if_pos hc] at h; simp at h
      · rw [if_neg hc] at h
        obtain ⟨ns, h1, h2, h3, h4⟩ := prs_sound l _ _ _ _ x (.inl ⟨rfl, rfl⟩) (by omega) h
        refine ⟨n :: ns, by simp; omega, by simp; exact ⟨by omega, h2⟩, ?_, by rw [List.foldl_cons]; exact h4⟩
        have hne : ns ≠ [] := fun e => by rw [e] at h1; simp at h1; omega
        rw [jn_cons n ns hne, ← h3, h46]
        unfold pre; rw [if_neg (by omega), if_pos rfl]; simp
    · rw [if_neg h46] at h
      by_cases hc : c.toNat < 48 ∨ 57 < c.toNat ∨ s = 3 ∨ (0 < s ∧ n = 0)
      · rw [if_pos hc] at h; simp at h
      · rw [if_neg hc] at h
        obtain ⟨i1, i2⟩ := inv_step n s (c.toNat - 48) hi (by omega) (by omega) (by omega)
        obtain ⟨ns, h1, h2, h3, h4⟩ := prs_sound l _ _ _ _ x i1 hd h
        refine ⟨ns, h1, h2, ?_, h4⟩
        rw [← h3, i2]
        have : UInt8.ofNat (48 + (c.toNat - 48)) = c := by rw [show 48 + (c.toNat - 48) = c.toNat by omega]; simp
        rw [this]; simp
theorem textL_dotted (x : Nat) (hx : x < 4294967296) : ∃ a b c d, a < 256 ∧ b < 256 ∧ c < 256 ∧ d < 256 ∧ textL x = dotted a b c d ∧ x = 256 * (256 * (256 * a + b) + c) + d := by
  refine ⟨x / 16777216 % 256, x / 65536 % 256, x / 256 % 256, x % 256, by omega, by omega, by omega, by omega, ?_, by omega⟩
  unfold textL dotted
  rw [beL4]
  have e : ∀ m, m < 256 → digL (UInt8.ofNat m) = digX m := fun m hm => by rw [digL_X]; congr 1; simp; omega
  rw [← e _ (show x / 16777216 % 256 < 256 by omega), ← e _ (show x / 65536 % 256 < 256 by omega), ← e _ (show x / 256 % 256 < 256 by omega), ← e _ (show x % 256 < 256 by omega)]
  exact join4 _ _ _ _
theorem prs_text (x : Nat) (hx : x < 4294967296) : prsR (textL x) = (x, true) := by
  obtain ⟨a, b, c, d, ha, hb, hc, hd, e, ex⟩ := textL_dotted x hx
  rw [e, prs_dotted a b c d ha hb hc hd, ← ex]
theorem dotted_text (a b c d : Nat) (ha : a < 256) (hb : b < 256) (hc : c < 256) (hd : d < 256) : textL (256 * (256 * (256 * a + b) + c) + d) = dotted a b c d := by
  obtain ⟨a', b', c', d', ha', hb', hc', hd', e, ex⟩ := textL_dotted (256 * (256 * (256 * a + b) + c) + d) (by omega)
  obtain rfl : d' = d := by omega
  obtain rfl : c' = c := by omega
  obtain rfl : b' = b := by omega
  obtain rfl : a' = a := by omega
  exact e
theorem text_prs (l : List UInt8) (x : Nat) (h : prsR l = (x, true)) : x < 4294967296 ∧ l = textL x := by
  obtain ⟨ns, h1, h2, h3, h4⟩ := prs_sound l 0 0 0 0 x (.inl ⟨rfl, rfl⟩) (by omega) h
  match ns, h1 with
  | [a, b, c, d], _ =>
    simp at h2
    obtain ⟨ha, hb, hc, hd⟩ := h2
    have hx : x = 256 * (256 * (256 * a + b) + c) + d := by rw [h4]; simp
    refine ⟨by omega, ?_⟩
    rw [hx, dotted_text a b c d ha hb hc hd]
    simpa [pre, jn, dotted] using h3
end Go.Proofs.YtfceodbpkghkaaaGreatDoor
/- The plain law of inet.Parse. -/
namespace Go.Proofs.YtfceodbpkghkaaaGreatDoor
open Go.RowKit

theorem prs_form : ∀ (l : List UInt8) (a n d s : Nat), (prs l a n d s).2 = false → prs l a n d s = (0, false)
  | [], a, n, d, s, h => by
    rw [prs] at h ⊢
    by_cases hc : s = 0 ∨ 255 < n ∨ d ≠ 3
    · rw [if_pos hc]
    · rw [if_neg hc] at h; simp at h
  | c :: l, a, n, d, s, h => by
    rw [prs] at h ⊢
    by_cases h46 : c = 46
    · rw [if_pos h46] at h ⊢
      by_cases hc : s = 0 ∨ 255 < n ∨ 3 ≤ d
      · rw [if_pos hc]
      · rw [if_neg hc] at h ⊢; exact prs_form l _ _ _ _ h
    · rw [if_neg h46] at h ⊢
      by_cases hc : c.toNat < 48 ∨ 57 < c.toNat ∨ s = 3 ∨ (0 < s ∧ n = 0)
      · rw [if_pos hc]
      · rw [if_neg hc] at h ⊢; exact prs_form l _ _ _ _ h
/-- The number that a part makes, as Go reckons it; what the parts make. -/
def valP (p : List UInt8) : Int := p.foldl (fun n c => n * 10 + (c.toNat : Int) - 48) 0
def accA (a : Nat) (p : List UInt8) : Nat := (a * 256 + (valP p % 256).toNat) % 4294967296
def partsB (s : ByteArray) : List ByteArray := Lib.splitB ⟨#[46]⟩ 0 (Lib.countB s ⟨#[46]⟩) s
def accB (ps : List ByteArray) : Nat := ps.foldl (fun a p => accA a p.data.toList) 0
def parseB (s : ByteArray) : Nat × Bool := if s.size ≤ 15 ∧ textL (accB (partsB s)) = s.data.toList then (accB (partsB s), true) else (0, false)
theorem accA_lt (a : Nat) (p : List UInt8) : accA a p < 4294967296 := Nat.mod_lt _ (by omega)
theorem accB_lt (ps : List ByteArray) : accB ps < 4294967296 := by
  unfold accB
  suffices h : ∀ (ps : List ByteArray) a, a < 4294967296 → ps.foldl (fun a p => accA a p.data.toList) a < 4294967296 from h ps 0 (by omega)
  intro ps
  induction ps with
  | nil => intro a h; exact h
  | cons p ps ih => intro a _; exact ih _ (accA_lt _ _)
theorem index46 : ∀ (p r : List UInt8), p.count 46 = 0 → Lib.index (p ++ 46 :: r) [46] = (p.length : Int)
  | [], r, _ => by rw [List.nil_append, Lib.index]; simp [List.isPrefixOf]
  | b :: p, r, h => by
    by_cases hb : b = 46
    · subst hb; simp at h
    · rw [List.count_cons_of_ne (by simpa using hb)] at h
      have hp : ([46] : List UInt8).isPrefixOf (b :: (p ++ 46 :: r)) = false := by simp [List.isPrefixOf, Ne.symm hb]
      rw [List.cons_append, Lib.index, hp, index46 p r h]
      simp
theorem ba_eq {a : ByteArray} {x : List UInt8} (h : a.data.toList = x) : a = ⟨x.toArray⟩ := by subst h; rfl
theorem split46 (p r : List UInt8) (k : Nat) (h : p.count 46 = 0) :
    Lib.splitB ⟨#[46]⟩ 0 (k + 1) ⟨(p ++ 46 :: r).toArray⟩ = ⟨p.toArray⟩ :: Lib.splitB ⟨#[46]⟩ 0 k ⟨r.toArray⟩ := by
  have hi : Lib.indexB ⟨(p ++ 46 :: r).toArray⟩ ⟨#[46]⟩ = (p.length : Nat) := by
    show Lib.index (p ++ 46 :: r) [46] = _
    exact index46 p r h
  rw [Lib.splitB_hit _ _ _ _ _ hi]
  congr 1
  · apply ba_eq
    rw [Lib.extract_from_zero, Nat.add_zero]
    simp
  · congr 1
    apply ba_eq
    rw [Lib.extract_to_end]
    show List.drop (p.length + 1) (p ++ 46 :: r) = r
    rw [← List.drop_drop]; simp
theorem digX_no : ∀ b : UInt8, (digX b.toNat).count 46 = 0 := all_bytes (by decide +kernel)
theorem digX_val : ∀ b : UInt8, valP (digX b.toNat) = (b.toNat : Int) := all_bytes (by decide +kernel)
theorem dig_nv (n : Nat) (h : n < 256) : (digX n).count 46 = 0 ∧ valP (digX n) = (n : Int) := by
  have e : (UInt8.ofNat n).toNat = n := by simp; omega
  exact ⟨by rw [← e]; exact digX_no _, by have := digX_val (UInt8.ofNat n); rwa [e] at this⟩
theorem parts_dotted (s : ByteArray) (a b c d : Nat) (ha : a < 256) (hb : b < 256) (hc : c < 256) (hd : d < 256) (h : s.data.toList = dotted a b c d) :
    accB (partsB s) = 256 * (256 * (256 * a + b) + c) + d := by
  obtain ⟨a1, a2⟩ := dig_nv a ha
  obtain ⟨b1, b2⟩ := dig_nv b hb
  obtain ⟨c1, c2⟩ := dig_nv c hc
  obtain ⟨d1, d2⟩ := dig_nv d hd
  have hs : s = ⟨(dotted a b c d).toArray⟩ := ba_eq h
  have hcount : Lib.countB s ⟨#[46]⟩ = 3 := by
    have e : Lib.countB s ⟨#[46]⟩ = s.data.toList.count 46 := Lib.count_one 46 _
    rw [e, h]; simp [dotted, List.count_append, a1, b1, c1, d1]
  unfold partsB
  rw [hcount, hs]
  unfold dotted
  rw [split46 _ _ 2 a1, split46 _ _ 1 b1, split46 _ _ 0 c1]
  show accB [⟨(digX a).toArray⟩, ⟨(digX b).toArray⟩, ⟨(digX c).toArray⟩, ⟨(digX d).toArray⟩] = _
  unfold accB accA
  simp only [List.foldl_cons, List.foldl_nil, a2, b2, c2, d2]
  omega
/-- Both readers compute the same. -/
theorem parse_same (s : ByteArray) : parseB s = prsR s.data.toList := by
  cases h : (prsR s.data.toList).2
  · have h0 := prs_form _ _ _ _ _ h
    unfold prsR; rw [h0]
    unfold parseB
    rw [if_neg]
    rintro ⟨_, h2⟩
    have h3 := prs_text (accB (partsB s)) (accB_lt _)
    rw [h2] at h3
    rw [h3] at h; simp at h
  · obtain ⟨x, hx⟩ : ∃ x, prsR s.data.toList = (x, true) := ⟨(prsR s.data.toList).1, by rw [← h]⟩
    obtain ⟨hl, ht⟩ := text_prs _ x hx
    obtain ⟨a, b, c, d, ha, hb, hc, hd, e, ex⟩ := textL_dotted x hl
    have hp := parts_dotted s a b c d ha hb hc hd (ht.trans e)
    have hsz : s.size ≤ 15 := by
      rw [Lib.size_eq, ht]
      exact join4_len _ (beL_len 4 x)
    rw [hx]
    unfold parseB
    rw [if_pos ⟨hsz, by rw [hp, ← ex, ht]⟩, hp, ← ex]
end Go.Proofs.YtfceodbpkghkaaaGreatDoor
/- inet.Parse: its walk. -/
namespace Go.Proofs.YtfceodbpkghkaaaGreatDoor
open Go.RowKit

theorem size_extract (s : ByteArray) (a b : Nat) : (s.extract a b).size ≤ s.size := by
  rw [Lib.size_eq, Lib.extract_data, Lib.size_eq]; simp; omega
theorem split_size (sep : ByteArray) : ∀ (k : Nat) (s : ByteArray), ∀ p ∈ Lib.splitB sep 0 k s, p.size ≤ s.size
  | 0, s, p, h => by
    rw [Lib.splitB_zero] at h; simp at h; rw [h]; exact Nat.le_refl _
  | k + 1, s, p, h => by
    unfold Lib.splitB at h
    split at h
    · simp at h; rw [h]; exact Nat.le_refl _
    · rcases List.mem_cons.1 h with h | h
      · rw [h]; exact size_extract _ _ _
      · exact Nat.le_trans (split_size sep k _ p h) (size_extract _ _ _)
theorem valP_snoc (p : List UInt8) (c : UInt8) : valP (p ++ [c]) = valP p * 10 + (c.toNat : Int) - 48 := by unfold valP; rw [List.foldl_append]; rfl
theorem valP_take (p : List UInt8) (k : Nat) (h : k < p.length) : valP (p.take (k + 1)) = valP (p.take k) * 10 + ((p.getD k 0).toNat : Int) - 48 := by
  rw [List.take_succ_eq_append_getElem h, valP_snoc]
  rw [show p.getD k 0 = p[k] by rw [List.getD_eq_getElem?_getD, List.getElem?_eq_getElem h]; rfl]
def pw10 : Nat → Int
  | 0 => 1
  | k + 1 => 10 * pw10 k
theorem pw10_le : ∀ k, k ≤ 15 → 1 ≤ pw10 k ∧ pw10 k ≤ 1000000000000000 := by decide
theorem valP_pw (p : List UInt8) : ∀ k, k ≤ p.length → -(23 * pw10 k - 23) ≤ valP (p.take k) ∧ valP (p.take k) ≤ 23 * pw10 k - 23
  | 0, _ => by simp [valP, pw10]
  | k + 1, h => by
    have ih := valP_pw p k (by omega)
    have hc := UInt8.toNat_lt (p.getD k 0)
    rw [valP_take p k (by omega)]
    show -(23 * (10 * pw10 k) - 23) ≤ _ ∧ _ ≤ 23 * (10 * pw10 k) - 23
    omega
theorem valP_bd (p : List UInt8) (h : p.length ≤ 15) (k : Nat) (hk : k ≤ p.length) : -23000000000000000 ≤ valP (p.take k) ∧ valP (p.take k) ≤ 23000000000000000 := by
  have h1 := valP_pw p k hk
  have h2 := pw10_le k (by omega)
  omega
theorem accB_take (ps : List ByteArray) (k : Nat) (h : k < ps.length) : accB (ps.take (k + 1)) = accA (accB (ps.take k)) (ps[k]).data.toList := by
  unfold accB; rw [List.take_succ_eq_append_getElem h, List.foldl_append]; rfl
theorem or_acc (a : Nat) (l : List UInt8) : bits .or .u32 ((a : Int) * 256 % 4294967296) (bits .and .i64 (valP l) 255 % 4294967296) = ((accA a l : Nat) : Int) := by
  rw [i64_and255]
  obtain ⟨V, hV, hV2⟩ : ∃ V : Nat, valP l % 256 % 4294967296 = (V : Int) ∧ V < 256 ∧ (valP l % 256).toNat = V := ⟨(valP l % 256).toNat, by omega, by omega, rfl⟩
  obtain ⟨A, hA, hA2⟩ : ∃ A : Nat, (a : Int) * 256 % 4294967296 = (A : Int) ∧ A = a * 256 % 4294967296 := ⟨a * 256 % 4294967296, by omega, rfl⟩
  rw [hV, hA, u32_or_nat A V (by omega) (by omega), nat_join 8 A V (by omega) (by omega)]
  unfold accA
  rw [hV2.2]
  omega
set_option maxRecDepth 20000 in
set_option maxHeartbeats 4000000 in
theorem parse_in (s : ByteArray) (m : Int) (w : World) (hm : w.cell? ⟨0, 0, none⟩ = some (.int .i64 m)) (h10 : P10 w) :
    Calls Tryz.prog 27 #[.string s] w fun e w' => e = .returned (.tuple #[.int .u32 (parseB s).1, .bool (parseB s).2]) ∧ w.grownBy w' none := by
  by_cases h15 : 15 < s.size
  · have R := hid (show parseB s = (0, false) by unfold parseB; rw [if_neg (by omega)])
    go_enter Tryz.func27, Tryz.ntmps27
    go_wp2
    go_ret2
    exact ⟨by rw [R.out]; rfl, by (repeat (first | exact gr_refl _ _ | assumption | refine gr_drew ?_ | refine gr_drewN _ ?_ | refine gr_alloc ?_ _ | refine gr_set ?_ | refine gr_set_new ?_ (by first | omega | (simp; omega))))⟩
  have h15' : s.size ≤ 15 := by omega
  have hspl := Tryz.strings_Split s ⟨#[46]⟩ m w (by omega) hm (by decide)
  have hR : parseB s = if textL (accB (partsB s)) = s.data.toList then (accB (partsB s), true) else (0, false) := by
    unfold parseB
    by_cases h : textL (accB (partsB s)) = s.data.toList
    · rw [if_pos ⟨h15', h⟩, if_pos h]
    · rw [if_neg (fun x => h x.2), if_neg h]
  have hpl : (partsB s).length = Lib.countB s ⟨#[46]⟩ + 1 := Lib.splitB_all _ (by decide) 0 _ s rfl
  have hcl := Lib.countB_le ⟨#[46]⟩ (by decide) s.size s (Nat.le_refl _)
  have hsz : ∀ p ∈ partsB s, p.size ≤ 15 := fun p hp => Nat.le_trans (split_size _ _ s p hp) h15'
  rw [show Lib.splitB ⟨#[46]⟩ 0 (Lib.countB s ⟨#[46]⟩) s = partsB s from rfl, ← hpl] at hspl
  have hcell : ∀ k (h : k < (partsB s).length), (w.alloc (.cells ((partsB s).map Value.string).toArray 9)).cell? ⟨w.heap.size, k, none⟩ = some (.string (partsB s)[k]) := fun k h => by
    refine (cell_of_block (heap_alloc_new w _) k).trans ?_
    simp [h]
  have hN : (partsB s).length ≤ 16 := by omega
  generalize partsB s = ps at *
  have Hs := hid hspl
  have HR := hid hR
  have Hsz := hid hsz
  have Hcell := hid hcell
  have H10 := hid h10
  have G0 : w.grownBy (w.alloc (.cells (ps.map Value.string).toArray 9)) none := World.grownBy_alloc w _ none
  generalize (w.alloc (.cells (ps.map Value.string).toArray 9)) = w1 at *
  clear hspl hR hsz hcell h10 hpl hcl hm h15
  go_enter Tryz.func27, Tryz.ntmps27
  go_wp2_with fail
  refine Hs.out.mono ?_
  rintro e w' ⟨rfl, rfl⟩
  go_wp2_with fail
  go_loopw [2, 15] (fun va vk wr => ∃ k : Nat, k ≤ ps.length ∧ vk = .int .i64 k ∧ va = .int .u32 ((accB (ps.take k) : Nat) : Int) ∧ w'.grownBy wr none) (fun _ vk _ => ps.length - (intOf vk).toNat)
  case atStart => exact ⟨0, Nat.zero_le _, rfl, by simp [accB], gr_refl _ _⟩
  case round =>
    obtain ⟨k, hk, rfl, rfl, gw⟩ := hrel
    by_cases hlt : k < ps.length
    · have hc := gw.cell (Hcell.out k hlt) (by simp)
      have hp := Hsz.out ps[k] (List.getElem_mem hlt)
      have ha := hid (accB_take ps k hlt)
      have hal := hid (accB_lt (ps.take k))
      generalize accB (ps.take k) = a at *
      generalize ps[k] = p at hc hp ha
      obtain ⟨l, hl⟩ : ∃ l, l = p.data.toList := ⟨_, rfl⟩
      have hll : l.length ≤ 15 := by rw [hl, ← Lib.size_eq]; exact hp
      have hps : p.size = l.length := by rw [hl, ← Lib.size_eq]
      have Hl := hid hl
      have Hps := hid hps
      clear hl hps
      go_wp2_with (refine wpl_s2b rfl 9 37 5 _ rfl Tryz.underlying9 Tryz.underlying37 Tryz.underlying5 p rfl (by unfold maxLen; omega) ?_; intro g cap w3 hg hrow g3)
      rw [← Hl.out] at hrow ha
      rw [Hps.out]
      have gw3 := gr_trans gw g3
      clear gw g3 hg hc
      go_loopw [6, 22] (fun vn vj wq => ∃ j : Nat, j ≤ l.length ∧ vj = .int .i64 j ∧ vn = .int .i64 (valP (l.take j)) ∧ wq = w3) (fun _ vj _ => l.length - (intOf vj).toNat)
      case atStart => exact ⟨0, Nat.zero_le _, rfl, rfl, rfl⟩
      case round =>
        obtain ⟨j, hj, rfl, rfl, rfl⟩ := hrel
        have hbd := valP_bd l (by omega) j hj
        by_cases hjl : j < l.length
        · have hc := hrow.cell (i := j) hjl
          have hv := hid (valP_take l j hjl)
          have hb8 := UInt8.toNat_lt (l.getD j 0)
          generalize l.getD j 0 = c at hc hv hb8
          go_wp2
          go_roundw
          case rel => exact ⟨j + 1, by omega, by go_num, by rw [hv.out], trivial⟩
          case measure => simp [intOf]; omega
        · obtain rfl : j = l.length := by omega
          have hacc := hid (show bits .or .u32 ((a : Int) * 256 % 4294967296) (bits .and .i64 (valP l) 255 % 4294967296) = ((accB (ps.take (k + 1)) : Nat) : Int) by rw [ha.out, or_acc])
          have ht : l.take l.length = l := List.take_length
          go_wp2
          go_roundw
          case rel => exact ⟨k + 1, by omega, by go_num, by rw [hacc.out], gw3⟩
          case measure => simp [intOf]; omega
    · obtain rfl : k = ps.length := by omega
      have ht := hid (text_in (accB ps) (accB_lt ps) wr (H10.out.grown (gr_trans G0 gw)))
      rw [List.take_length]
      have hal := hid (accB_lt ps)
      have hse := Lib.toList_data s
      generalize accB ps = a at *
      by_cases he : textL a = s.data.toList
      · have R := hid (show parseB s = (a, true) by rw [HR.out, if_pos he])
        have e0 : (textL a == s.toList) = true := by rw [Lib.toList_data, he]; simp
        have E0 := hid e0
        clear he e0 hse
        go_wp2_with fail
        refine ht.out.mono ?_
        rintro e w4 ⟨rfl, g4⟩
        unfold str
        have e0 := E0.out
        go_wp2
        go_ret2
        exact ⟨by rw [R.out]; rfl, gr_trans (gr_trans G0 gw) g4⟩
      · have R := hid (show parseB s = (0, false) by rw [HR.out, if_neg he])
        have e0 : (textL a == s.toList) = false := by rw [Lib.toList_data]; simpa using he
        have E0 := hid e0
        clear he e0 hse
        go_wp2_with fail
        refine ht.out.mono ?_
        rintro e w4 ⟨rfl, g4⟩
        unfold str
        have e0 := E0.out
        go_wp2
        go_ret2
        exact ⟨by rw [R.out]; rfl, gr_trans (gr_trans G0 gw) g4⟩
end Go.Proofs.YtfceodbpkghkaaaGreatDoor
/- hearthref04.Parse: its walk. -/
namespace Go.Proofs.YtfceodbpkghkaaaGreatDoor
open Go.RowKit

theorem strAt (s : ByteArray) (k : Nat) (h : k < s.size) : s[k]'h = s.data.toList.getD k 0 := by
  rw [List.getD_eq_getElem?_getD, List.getElem?_eq_getElem (by simpa using h)]
  rfl
theorem drop_at (l : List UInt8) (k : Nat) (h : k < l.length) : l.drop k = l.getD k 0 :: l.drop (k + 1) := by
  rw [List.drop_eq_getElem_cons h]
  rw [show l.getD k 0 = l[k] by rw [List.getD_eq_getElem?_getD, List.getElem?_eq_getElem h]; rfl]
structure PS (k a n d z len : Nat) : Prop where
  hk : k ≤ len
  ha : a < 256 ^ d
  hn : n < 10 ^ z
  hd : d ≤ 3
  hz : z ≤ 3
theorem PS.abd {k a n d z len : Nat} (h : PS k a n d z len) : a < 16777216 ∧ n < 1000 := by
  have h1 : 256 ^ d ≤ 256 ^ 3 := Nat.pow_le_pow_right (by omega) h.hd
  have h2 : 10 ^ z ≤ 10 ^ 3 := Nat.pow_le_pow_right (by omega) h.hz
  have := h.ha
  have := h.hn
  exact ⟨by omega, by omega⟩
def PRel (l : List UInt8) (va vn vd vz vk : Value) : Prop :=
  (∃ k a n d z : Nat, PS k a n d z l.length ∧ prsR l = prs (l.drop k) a n d z ∧ va = .int .u64 a ∧ vn = .int .i64 n ∧ vd = .int .i64 d ∧ vz = .int .i64 z ∧ vk = .int .i64 k) ∨
  (∃ a d : Nat, a < 4294967296 ∧ d ≤ 3 ∧ prsR l = (if d ≠ 3 then (0, false) else (a, true)) ∧ va = .int .u64 a ∧ vn = .int .i64 0 ∧ vd = .int .i64 d ∧ vz = .int .i64 0 ∧ vk = .int .i64 (l.length + 1 : Nat))
set_option maxRecDepth 20000 in
set_option maxHeartbeats 4000000 in
theorem rparse_in (s : ByteArray) (w : World) (hs : s.size ≤ 100000) :
    Calls Tryz.prog 29 #[.string s] w fun e w' => e = .returned (.tuple #[.int .u32 (prsR s.data.toList).1, .bool (prsR s.data.toList).2]) ∧ w = w' := by
  obtain ⟨l, hl⟩ : ∃ l, l = s.data.toList := ⟨_, rfl⟩
  have hlen : s.size = l.length := by rw [hl, ← Lib.size_eq]
  have hstr : ∀ k (h : k < s.size), s[k]'h = l.getD k 0 := by rw [hl]; exact strAt s
  rw [← hl]
  have Hstr := hid hstr
  clear hstr hl
  go_enter Tryz.func29, Tryz.ntmps29
  go_wp2_with fail
  go_loop [4, 5, 6, 7, 8] (fun va vn vd vz vk => PRel l va vn vd vz vk) (fun _ _ _ _ vk => l.length + 2 - (intOf vk).toNat)
  case atStart => exact .inl ⟨0, 0, 0, 0, 0, ⟨Nat.zero_le _, by decide, by decide, by omega, by omega⟩, rfl, rfl, rfl, rfl, rfl, rfl⟩
  case round =>
    rcases hrel with ⟨k, a, n, d, z, ps, hp, rfl, rfl, rfl, rfl, rfl⟩ | ⟨a, d, ha, hd, hp, rfl, rfl, rfl, rfl, rfl⟩
    · obtain ⟨hab, hnb⟩ := ps.abd
      obtain ⟨hk, hpa, hpn, hd, hz⟩ := ps
      have Hpa := hid hpa
      have Hpn := hid hpn
      clear hpa hpn
      by_cases hlt : k < l.length
      · have hc : s[k]'(by omega) = l.getD k 0 := Hstr.out k (by omega)
        rw [drop_at l k hlt] at hp
        generalize l.getD k 0 = c at hc hp
        rw [prs] at hp
        by_cases h46 : c = 46
        · rw [if_pos h46] at hp
          subst h46
          by_cases hz0 : z = 0
          · rw [if_pos (.inl hz0)] at hp
            have R := hid hp
            have t0 : ((z : Int) == 0) = true := by simp; omega
            clear hp hz0
            go_wp2
            go_ret2
            exact ⟨by rw [R.out]; rfl, rfl⟩
          · have t0 : ((z : Int) == 0) = false := by simp; omega
            by_cases hn5 : 255 < n
            · rw [if_pos (.inr (.inl hn5))] at hp
              have R := hid hp
              clear hp hz0
              go_wp2
              go_ret2
              exact ⟨by rw [R.out]; rfl, rfl⟩
            · by_cases hd3 : 3 ≤ d
              · rw [if_pos (.inr (.inr hd3))] at hp
                have R := hid hp
                clear hp hz0
                go_wp2
                go_ret2
                exact ⟨by rw [R.out]; rfl, rfl⟩
              · rw [if_neg (by omega)] at hp
                have R := hid hp
                have K := hid (show PS (k + 1) (256 * a + n) 0 (d + 1) 0 l.length from ⟨by omega, by have := Hpa.out; rw [Nat.pow_succ]; omega, by decide, by omega, by omega⟩)
                clear hp hz0
                go_wp2
                go_round
                case rel => exact .inl ⟨k + 1, 256 * a + n, 0, d + 1, 0, K.out, R.out, by go_num, rfl, by go_num, rfl, by go_num⟩
                case measure => simp [intOf]; omega
        · rw [if_neg h46] at hp
          have n46 : ((c.toNat : Int) == 46) = false := by
            simp only [beq_eq_false_iff_ne, ne_eq]; intro h; apply h46; apply UInt8.toNat_inj.1; simpa using (by omega : c.toNat = 46)
          clear h46
          by_cases c1 : c.toNat < 48
          · rw [if_pos (.inl c1)] at hp
            have R := hid hp
            clear hp
            have c1i : (c.toNat : Int) < 48 := by omega
            go_wp2
            go_ret2
            exact ⟨by rw [R.out]; rfl, rfl⟩
          · by_cases c2 : 57 < c.toNat
            · rw [if_pos (.inr (.inl c2))] at hp
              have R := hid hp
              clear hp
              have c2i : (57 : Int) < (c.toNat : Int) := by omega
              have c1i : ¬ (c.toNat : Int) < 48 := by omega
              go_wp2
              go_ret2
              exact ⟨by rw [R.out]; rfl, rfl⟩
            · have c1i : ¬ (c.toNat : Int) < 48 := by omega
              have c2i : ¬ (57 : Int) < (c.toNat : Int) := by omega
              by_cases hz3 : z = 3
              · rw [if_pos (.inr (.inr (.inl hz3)))] at hp
                have R := hid hp
                clear hp
                have t3 : ((z : Int) == 3) = true := by simp; omega
                clear hz3
                go_wp2
                go_ret2
                exact ⟨by rw [R.out]; rfl, rfl⟩
              · have t3 : ((z : Int) == 3) = false := by simp; omega
                by_cases hz0 : 0 < z
                · by_cases hn0 : n = 0
                  · rw [if_pos (.inr (.inr (.inr ⟨hz0, hn0⟩)))] at hp
                    have R := hid hp
                    clear hp
                    have t0 : ((n : Int) == 0) = true := by simp; omega
                    clear hz3 hn0
                    go_wp2
                    go_ret2
                    exact ⟨by rw [R.out]; rfl, rfl⟩
                  · have t0 : ((n : Int) == 0) = false := by simp; omega
                    rw [if_neg (by omega)] at hp
                    have R := hid hp
                    have K := hid (show PS (k + 1) a (10 * n + (c.toNat - 48)) d (z + 1) l.length from ⟨by omega, Hpa.out, by have := Hpn.out; rw [Nat.pow_succ]; omega, hd, by omega⟩)
                    clear hp hz3
                    go_wp2
                    go_round
                    case rel => exact .inl ⟨k + 1, a, 10 * n + (c.toNat - 48), d, z + 1, K.out, R.out, rfl, by first | go_num | (congr 1; omega), rfl, by go_num, by go_num⟩
                    case measure => simp [intOf]; omega
                · rw [if_neg (by omega)] at hp
                  have R := hid hp
                  have K := hid (show PS (k + 1) a (10 * n + (c.toNat - 48)) d (z + 1) l.length from ⟨by omega, Hpa.out, by have := Hpn.out; rw [Nat.pow_succ]; omega, hd, by omega⟩)
                  clear hp hz3
                  go_wp2
                  go_round
                  case rel => exact .inl ⟨k + 1, a, 10 * n + (c.toNat - 48), d, z + 1, K.out, R.out, rfl, by first | go_num | (congr 1; omega), rfl, by go_num, by go_num⟩
                  case measure => simp [intOf]; omega
      · obtain rfl : k = l.length := by omega
        rw [List.drop_length, prs] at hp
        by_cases hz0 : z = 0
        · rw [if_pos (.inl hz0)] at hp
          have R := hid hp
          have t0 : ((z : Int) == 0) = true := by simp; omega
          clear hp hz0
          go_wp2
          go_ret2
          exact ⟨by rw [R.out]; rfl, rfl⟩
        · have t0 : ((z : Int) == 0) = false := by simp; omega
          by_cases hn5 : 255 < n
          · rw [if_pos (.inr (.inl hn5))] at hp
            have R := hid hp
            clear hp hz0
            go_wp2
            go_ret2
            exact ⟨by rw [R.out]; rfl, rfl⟩
          · have R := hid (show prsR l = if d ≠ 3 then (0, false) else (256 * a + n, true) by
              rw [hp]
              by_cases hd3 : d = 3
              · rw [if_neg (by omega), if_neg (by omega)]
              · rw [if_pos (by omega), if_pos hd3])
            clear hp hz0
            go_wp2
            go_round
            case rel => exact .inr ⟨256 * a + n, d, by omega, hd, R.out, by go_num, rfl, rfl, rfl, by go_num⟩
            case measure => simp [intOf]
    · by_cases hd3 : d = 3
      · have R := hid (show prsR l = (a, true) by rw [hp, if_neg (by omega)])
        subst hd3
        clear hp
        go_wp2
        go_ret2
        exact ⟨by rw [R.out]; rfl, rfl⟩
      · have R := hid (show prsR l = (0, false) by rw [hp, if_pos hd3])
        have t3 : ((d : Int) != 3) = true := by simp only [bne_iff_ne, ne_eq]; omega
        clear hp hd3
        go_wp2
        go_ret2
        exact ⟨by rw [R.out]; rfl, rfl⟩
end Go.Proofs.YtfceodbpkghkaaaGreatDoor
/- The walk of InetTexts. -/
namespace Go.Proofs.YtfceodbpkghkaaaGreatDoor
open Go.RowKit

def ex1 : List UInt8 := [49, 57, 50, 46, 49, 54, 56, 46, 48, 49, 46, 49]
def ex2 : List UInt8 := [49, 57, 50, 46, 49, 54, 56, 46, 49, 46, 49]
theorem ex1_no : parseB ⟨ex1.toArray⟩ = (0, false) := by rw [parse_same]; decide
theorem ex2_is : textL 3232235777 = ex2 := (text_prs ex2 3232235777 (by decide)).2.symm
abbrev MaxCell (m : Int) (w : World) : Prop := w.cell? ⟨0, 0, none⟩ = some (.int .i64 m)
end Go.Proofs.YtfceodbpkghkaaaGreatDoor
