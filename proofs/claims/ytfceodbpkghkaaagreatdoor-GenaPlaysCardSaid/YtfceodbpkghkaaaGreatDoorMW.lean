/- Texts of one proof, put together: Ge9, Fs2. -/
import Derived.Test.YtfceodbpkghkaaaGreatDoorOct1
import Derived.Test.YtfceodbpkghkaaaGreatDoorPairs
import Derived.OwnWalk
/- head.Get, hearthref15.Get, beside octet (one name for what both lay). -/
namespace Go.Proofs.YtfceodbpkghkaaaGreatDoor
open Go.RowKit

/-- The values of a name. -/
def getN (ns vs : Nat → ByteArray) (name : ByteArray) : Nat → List ByteArray
  | 0 => []
  | k + 1 => if ns k = name then getN ns vs name k ++ [vs k] else getN ns vs name k
theorem getN_le (ns vs : Nat → ByteArray) (name : ByteArray) : ∀ k, (getN ns vs name k).length ≤ k
  | 0 => Nat.le_refl _
  | k + 1 => by
    have := getN_le ns vs name k
    unfold getN; split <;> simp <;> omega
def GetPost (w : World) (xs : List ByteArray) (e : Ending) (w' : World) : Prop :=
  ∃ v, e = .returned v ∧ w'.ownsRow w.heap.size 9 1 v xs.length (xs.map Value.string) ∧ w.grownBy w' none
set_option maxHeartbeats 2000000 in
theorem get_any (w : World) (a : Option Addr) (len cap : Nat) (ns vs : Nat → ByteArray) (name : ByteArray) (h : PairsAt w a len ns vs) (hlen : len ≤ 200000) :
    Calls Tryz.prog 37 #[.slice a len cap, .string name] w (GetPost w (getN ns vs name len)) := by
  obtain ⟨i0, hi, hz0, hz1, hz2⟩ := info_parts infoStr
  go_enter Tryz.func37, Tryz.ntmps37
  go_wp2_with fail
  go_loopw [4, 9] (fun vo vk wr => ∃ k : Nat, vk = .int .i64 k ∧ k ≤ len ∧ wr.ownsRow w.heap.size 9 1 vo (getN ns vs name k).length ((getN ns vs name k).map Value.string) ∧ w.grownBy wr none) (fun _ vk _ => len - (intOf vk).toNat)
  case atStart => exact ⟨0, rfl, Nat.zero_le _, World.ownsRow_nil _ _ _ _, gr_refl _ _⟩
  case round =>
    obtain ⟨k, rfl, hk, hown, gw⟩ := hrel
    have gl := getN_le ns vs name k
    have hsz := gw.size
    by_cases hkl : k < len
    · rcases h with h0 | ⟨b, o, rfl, hp⟩
      · omega
      have c0 := ((hp k hkl).grown gw).c0
      have c1 := ((hp k hkl).grown gw).c1
      clear hp
      by_cases he : ns k = name
      · have R := hid (show getN ns vs name (k + 1) = getN ns vs name k ++ [vs k] by simp only [getN]; rw [if_pos he])
        have heq : ((ns k).toList == name.toList) = true := by rw [toList_beq]; simpa using he
        clear he
        go_wp2_with (at_builtin; refine wpList_append_own _ rfl _ _ 41 rfl w.heap.size 9 i0 _ 1 16 Tryz.underlying41 hi hz0 hz1 hz2 rfl (by decide) _ _ _ rfl ((hown.alloc _).alloc _) ⟨wr.heap.size + 1, 0, none⟩ 1 1 [.string (vs k)] rfl rfl ?c1 ?c2 ?c3 ?c4 ?c5 ?_)
        case c1 =>
          intro j u hj
          match j, hj with
          | 0, hj => simp at hj; subst hj; simp [Addr.add]
        case c2 => intro u hu; simp at hu; subst hu; rfl
        case c3 => unfold maxLen; omega
        case c4 => omega
        case c5 => simp; omega
        · intro v' w1 hown' hgrow _
          have hg' := gr_own (gr_alloc (gr_alloc gw _) _) ((hown.alloc _).alloc _) (Nat.le_refl _) hgrow
          clear hgrow hown
          go_wp2
          go_roundw
          case rel => exact ⟨k + 1, by go_num, by omega, by rw [R.out]; simpa using hown', hg'⟩
          case measure => simp [intOf]; omega
      · have R := hid (show getN ns vs name (k + 1) = getN ns vs name k by simp only [getN]; rw [if_neg he])
        have heq : ((ns k).toList == name.toList) = false := by rw [toList_beq]; simpa using he
        clear he
        go_wp2
        go_roundw
        case rel => exact ⟨k + 1, by go_num, by omega, by rw [R.out]; exact hown.alloc _, by (repeat (first | exact gr_refl _ _ | assumption | refine gr_drew ?_ | refine gr_drewN _ ?_ | refine gr_alloc ?_ _ | refine gr_set ?_ | refine gr_set_new ?_ (by first | omega | (simp; omega))))⟩
        case measure => simp [intOf]; omega
    · obtain rfl : k = len := by omega
      go_wp2
      go_ret
      exact ⟨_, rfl, hown, gw⟩

set_option maxHeartbeats 2000000 in
theorem rget_any (w : World) (a : Option Addr) (len cap : Nat) (ns vs : Nat → ByteArray) (name : ByteArray) (h : PairsAt w a len ns vs) (hlen : len ≤ 100000) :
    Calls Tryz.prog 88 #[.slice a len cap, .string name] w (GetPost w (getN ns vs name len)) := by
  obtain ⟨i0, hi, hz0, hz1, hz2⟩ := info_parts infoStr
  go_enter Tryz.func88, Tryz.ntmps88
  go_wp2_with fail
  go_loopw [5, 6] (fun vo vk wr => ∃ k : Nat, vk = .int .i64 k ∧ k ≤ len ∧ wr.ownsRow w.heap.size 9 1 vo (getN ns vs name k).length ((getN ns vs name k).map Value.string) ∧ w.grownBy wr none) (fun _ vk _ => len - (intOf vk).toNat)
  case atStart => exact ⟨0, rfl, Nat.zero_le _, World.ownsRow_made w #[] 0 (Nat.le_refl _) (by unfold maxLen; omega) rfl, gr_alloc (gr_refl _ _) _⟩
  case round =>
    obtain ⟨k, rfl, hk, hown, gw⟩ := hrel
    have gl := getN_le ns vs name k
    have hsz := gw.size
    by_cases hkl : k < len
    · rcases h with h0 | ⟨b, o, rfl, hp⟩
      · omega
      have c0 := ((hp k hkl).grown gw).c0
      have c1 := ((hp k hkl).grown gw).c1
      clear hp
      by_cases he : ns k = name
      · have R := hid (show getN ns vs name (k + 1) = getN ns vs name k ++ [vs k] by simp only [getN]; rw [if_pos he])
        have heq : ((ns k).toList == name.toList) = true := by rw [toList_beq]; simpa using he
        clear he
        go_wp2_with (at_builtin; refine wpList_append_own _ rfl _ _ 41 rfl w.heap.size 9 i0 _ 1 16 Tryz.underlying41 hi hz0 hz1 hz2 rfl (by decide) _ _ _ rfl (hown.alloc _) ⟨wr.heap.size, 0, none⟩ 1 1 [.string (vs k)] rfl rfl ?c1 ?c2 ?c3 ?c4 ?c5 ?_)
        case c1 =>
          intro j u hj
          match j, hj with
          | 0, hj => simp at hj; subst hj; simp [Addr.add]
        case c2 => intro u hu; simp at hu; subst hu; rfl
        case c3 => unfold maxLen; omega
        case c4 => omega
        case c5 => simp; omega
        · intro v' w1 hown' hgrow _
          have hg' := gr_own (gr_alloc gw _) (hown.alloc _) (Nat.le_refl _) hgrow
          clear hgrow hown
          go_wp2
          go_roundw
          case rel => exact ⟨k + 1, by go_num, by omega, by rw [R.out]; simpa using hown', hg'⟩
          case measure => simp [intOf]; omega
      · have R := hid (show getN ns vs name (k + 1) = getN ns vs name k by simp only [getN]; rw [if_neg he])
        have heq : ((ns k).toList == name.toList) = false := by rw [toList_beq]; simpa using he
        clear he
        go_wp2
        go_roundw
        case rel => exact ⟨k + 1, by go_num, by omega, by rw [R.out]; exact hown, by (repeat (first | exact gr_refl _ _ | assumption | refine gr_drew ?_ | refine gr_drewN _ ?_ | refine gr_alloc ?_ _ | refine gr_set ?_ | refine gr_set_new ?_ (by first | omega | (simp; omega))))⟩
        case measure => simp [intOf]; omega
    · obtain rfl : k = len := by omega
      go_wp2
      go_ret
      exact ⟨_, rfl, hown, gw⟩
end Go.Proofs.YtfceodbpkghkaaaGreatDoor
/- Rows of strings and of fields, head.Get of such. -/
namespace Go.Proofs.YtfceodbpkghkaaaGreatDoor
open Go.RowKit

theorem blk_ne {w : World} {g k : Nat} {cs cs' : Array Value} {T T' : TypeId} {r r' : Nat × Nat} (h : w.heap[g]? = some (.cells cs T r)) (h' : w.heap[k]? = some (.cells cs' T' r')) (hT : T ≠ T') : some g ≠ some k := by
  intro e
  obtain rfl := Option.some.inj e
  rw [h] at h'
  simp only [Option.some.injEq, Obj.cells.injEq] at h'
  exact hT h'.2.1
/-- A row of strings. -/
def SAt (w : World) (v : Value) (xs : List (List UInt8)) : Prop :=
  ∃ a cap, v = .slice a xs.length cap ∧ xs.length ≤ cap ∧ ∀ i x, xs[i]? = some x → ∃ g, a = some ⟨g, 0, none⟩ ∧ w.cell? ⟨g, i, none⟩ = some (str x)
theorem SAt.grow {w w' : World} {v : Value} {xs : List (List UInt8)} (h : SAt w v xs) (g : w.grownBy w' none) : SAt w' v xs := by
  obtain ⟨a, cap, rfl, h1, h2⟩ := h
  refine ⟨a, cap, rfl, h1, fun i x hx => ?_⟩
  obtain ⟨g0, e, hc⟩ := h2 i x hx
  exact ⟨g0, e, g.cell hc (by simp)⟩
theorem sat_of_own {w : World} {base : Nat} {v : Value} {xs : List (List UInt8)} (h : w.ownsRow base 9 1 v xs.length (xs.map str)) : SAt w v xs := by
  rcases Nat.eq_zero_or_pos xs.length with h0 | hp
  · obtain ⟨a, cap, rfl, hc⟩ := own_shape h
    refine ⟨a, cap, rfl, hc, fun i x hx => ?_⟩
    have := (List.getElem?_eq_some_iff.1 hx).1
    omega
  · obtain ⟨g, cap, rfl, hb, hc, hcell⟩ := own_cell h hp
    exact ⟨_, cap, rfl, hc, fun i x hx => ⟨g, rfl, hcell i (str x) (by rw [List.getElem?_map, hx]; rfl)⟩⟩
/-- Fields as they lie in memory. -/
def FsAt (W : World) (v : Value) (fs : List (List UInt8 × List UInt8)) : Prop :=
  (v = .slice none 0 0 ∧ fs = []) ∨ ∃ g cap cs, v = .slice (some ⟨g, 0, none⟩) fs.length cap ∧ W.heap[g]? = some (.cells cs 47 (0, 0)) ∧ fs.length ≤ cap ∧ cap ≤ maxLen ∧ cs.toList.take (fs.length * 2) = (fs.flatMap fun f => [str f.1, str f.2]) ∧ fs ≠ []
theorem FsAt.nil (W : World) : FsAt W (.slice none 0 0) [] := .inl ⟨rfl, rfl⟩
theorem FsAt.shape {W : World} {v : Value} {fs : List (List UInt8 × List UInt8)} (h : FsAt W v fs) : ∃ a c, v = .slice a fs.length c := by
  rcases h with ⟨rfl, rfl⟩ | ⟨g, cap, cs, rfl, _⟩
  · exact ⟨none, 0, rfl⟩
  · exact ⟨_, cap, rfl⟩
theorem FsAt.empty {W : World} {v : Value} (h : FsAt W v []) : v = .slice none 0 0 := by
  rcases h with ⟨h, _⟩ | ⟨g, cap, cs, _, _, _, _, _, h⟩
  · exact h
  · exact absurd rfl h
theorem FsAt.grow {W W' : World} {v : Value} {fs : List (List UInt8 × List UInt8)} (h : FsAt W v fs) (g : W.grownBy W' none) : FsAt W' v fs := by
  rcases h with h | ⟨g0, cap, cs, rfl, hh, r⟩
  · exact .inl h
  · exact .inr ⟨g0, cap, cs, rfl, gr_keep g hh (by simp), r⟩
def fsN (fs : List (List UInt8 × List UInt8)) (i : Nat) : ByteArray := ⟨(fs.getD i ([], [])).1.toArray⟩
def fsV (fs : List (List UInt8 × List UInt8)) (i : Nat) : ByteArray := ⟨(fs.getD i ([], [])).2.toArray⟩
theorem flat_get (fs : List (List UInt8 × List UInt8)) : ∀ (i : Nat), i < fs.length → (fs.flatMap fun f => [str f.1, str f.2])[i * 2]? = some (str (fs.getD i ([], [])).1) ∧ (fs.flatMap fun f => [str f.1, str f.2])[i * 2 + 1]? = some (str (fs.getD i ([], [])).2) := by
  induction fs with
  | nil => intro i hi; simp at hi
  | cons f r ih =>
    intro i hi
    cases i with
    | zero => exact ⟨rfl, rfl⟩
    | succ i =>
      have := ih i (by simpa using hi)
      rw [show (i + 1) * 2 = i * 2 + 2 by omega, show i * 2 + 2 + 1 = i * 2 + 1 + 2 by omega]
      exact this
theorem FsAt.pairs {w : World} {a : Option Addr} {n c : Nat} {fs : List (List UInt8 × List UInt8)} (h : FsAt w (.slice a n c) fs) : PairsAt w a n (fsN fs) (fsV fs) := by
  rcases h with ⟨h, rfl⟩ | ⟨g, cap, cs, e, hh, h1, h2, h3, -⟩
  · cases h; exact .inl rfl
  · cases e
    refine .inr ⟨g, 0, rfl, fun i hi => ?_⟩
    obtain ⟨e1, e2⟩ := flat_get fs i hi
    rw [← h3, List.getElem?_take, if_pos (by omega)] at e1 e2
    constructor
    · have e1' : cs.toList[i * 2]? = some (Value.string (fsN fs i)) := e1
      simp only [World.cell?, hh, Nat.zero_add]; simpa using e1'
    · have e2' : cs.toList[i * 2 + 1]? = some (Value.string (fsV fs i)) := e2
      simp only [World.cell?, hh, Nat.zero_add]; simpa using e2'
def getL (fs : List (List UInt8 × List UInt8)) (name : List UInt8) : List (List UInt8) := (fs.filter fun f => f.1 == name).map (·.2)
theorem getN_list (name : List UInt8) (fs : List (List UInt8 × List UInt8)) : ∀ k, k ≤ fs.length → (getN (fsN fs) (fsV fs) ⟨name.toArray⟩ k).map Value.string = (getL (fs.take k) name).map str := by
  intro k
  induction k with
  | zero => intro _; simp [getN, getL]
  | succ k ih =>
    intro hk
    have ih' := ih (by omega)
    have hx : fs[k]? = some (fs.getD k ([], [])) := by rw [List.getD_eq_getElem?_getD, List.getElem?_eq_getElem (by omega)]; rfl
    have ht : fs.take (k + 1) = fs.take k ++ [fs.getD k ([], [])] := by rw [List.take_add_one, hx]; rfl
    rw [ht]
    unfold getN getL
    rw [List.filter_append, List.map_append, List.map_append]
    have he : (fsN fs k = ⟨name.toArray⟩) ↔ (fs.getD k ([], [])).1 = name := by
      unfold fsN
      constructor
      · intro h
        have := congrArg (fun b => b.data.toList) h
        simpa using this
      · intro h; rw [h]
    by_cases hn : (fs.getD k ([], [])).1 = name
    · rw [if_pos (he.2 hn), List.map_append, ih', show fsV fs k = ⟨(fs.getD k ([], [])).2.toArray⟩ from rfl]
      generalize fs.getD k ([], []) = f at hn
      rw [List.filter_cons_of_pos (by simpa using hn)]
      rfl
    · rw [if_neg (fun h => hn (he.1 h)), ih']
      generalize fs.getD k ([], []) = f at hn
      rw [List.filter_cons_of_neg (by simpa using hn)]
      simp [getL]
theorem get_fs (w : World) (v : Value) (fs : List (List UInt8 × List UInt8)) (name : List UInt8) (h : FsAt w v fs) (hl : fs.length ≤ 200000) :
    Calls Tryz.prog 37 #[v, .string ⟨name.toArray⟩] w fun e w' => ∃ v', e = .returned v' ∧ w'.ownsRow w.heap.size 9 1 v' (getL fs name).length ((getL fs name).map str) ∧ w.grownBy w' none := by
  obtain ⟨a, c, rfl⟩ := h.shape
  refine (get_any w a fs.length c (fsN fs) (fsV fs) ⟨name.toArray⟩ h.pairs hl).mono ?_
  rintro e w' ⟨v', rfl, hown, g⟩
  have hg := getN_list name fs fs.length (Nat.le_refl _)
  rw [List.take_length] at hg
  have hlen : (getN (fsN fs) (fsV fs) ⟨name.toArray⟩ fs.length).length = (getL fs name).length := by have := congrArg List.length hg; simpa using this
  rw [hg, hlen] at hown
  exact ⟨v', rfl, hown, g⟩
theorem get_sat (w : World) (v : Value) (fs : List (List UInt8 × List UInt8)) (name : List UInt8) (h : FsAt w v fs) (hl : fs.length ≤ 200000) :
    Calls Tryz.prog 37 #[v, .string ⟨name.toArray⟩] w fun e w' => ∃ v', e = .returned v' ∧ SAt w' v' (getL fs name) ∧ w.grownBy w' none := by
  refine (get_fs w v fs name h hl).mono ?_
  rintro e w' ⟨v', rfl, hown, g⟩
  exact ⟨v', rfl, sat_of_own hown, g⟩
/-- The fields of a head's lines; none: one is none. -/
def flatF (fs : List (List UInt8 × List UInt8)) : List Value := fs.flatMap fun f => [str f.1, str f.2]
theorem flatF_snoc (fs : List (List UInt8 × List UInt8)) (x y : List UInt8) : flatF (fs ++ [(x, y)]) = flatF fs ++ [str x, str y] := by
  unfold flatF; rw [List.flatMap_append]; rfl
theorem infoField : (Tryz.prog.info? 47).map (fun i => (i.zero, i.size, i.bytes)) = some (some (.agg #[.string ⟨#[]⟩, .string ⟨#[]⟩]), 2, 32) := by kernel_rfl
/-- One field in a new block. -/
def FsNew (w0 : World) (x y : List UInt8) (v : Value) (w : World) : Prop := ∃ gg cc, v = .slice (some ⟨gg, 0, none⟩) 1 cc ∧ w.heap[gg]? = some (.cells #[str x, str y] 47 (0, 0)) ∧ w0.heap.size ≤ gg
theorem FsNew.kept {w0 w w' : World} {x y : List UInt8} {v : Value} {row : Option Nat} (h : FsNew w0 x y v w) (g : w.grownBy w' row) (hr : ∀ k, row = some k → k < w0.heap.size) : FsNew w0 x y v w' := by
  obtain ⟨gg, cc, rfl, h1, h2⟩ := h
  refine ⟨gg, cc, rfl, gr_keep g h1 ?_, h2⟩
  intro e
  have := hr gg e.symm
  omega
theorem fs_of_row {w : World} {base : Nat} {v : Value} {fs : List (List UInt8 × List UInt8)} (h : w.ownsRow base 47 2 v fs.length (flatF fs)) (hz : fs = [] → v = .slice none 0 0) : FsAt w v fs := by
  rcases h.2 with ⟨rfl, h0⟩ | ⟨g, cap, cur, rfl, hg, hh, hc, hm, hs, ht⟩
  · exact .inl ⟨rfl, List.eq_nil_of_length_eq_zero h0⟩
  · by_cases hf : fs = []
    · exact .inl ⟨hz hf, hf⟩
    · exact .inr ⟨g, cap, cur, rfl, hh, hc, hm, ht, hf⟩
theorem own_ne_fs {w : World} {base size n g : Nat} {e T : TypeId} {v : Value} {xs : List Value} {cs : Array Value} {r : Nat × Nat} (h : w.ownsRow base e size v n xs) (hx : w.heap[g]? = some (.cells cs T r)) (hT : T ≠ e) : some g ≠ v.ownBlock := by
  rcases h.2 with ⟨rfl, _⟩ | ⟨g', cap, cur, rfl, hb, hh, _⟩
  · simp [Value.ownBlock]
  · exact blk_ne hx hh hT
end Go.Proofs.YtfceodbpkghkaaaGreatDoor
