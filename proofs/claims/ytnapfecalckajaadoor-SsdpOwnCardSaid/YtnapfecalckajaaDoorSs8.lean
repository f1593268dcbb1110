/- What hearthref23.Search appends; its answers' texts. -/
import Derived.Test.YtnapfecalckajaaDoorSs5
import Derived.Test.YtnapfecalckajaaDoorSs7
import Derived.ArgAppend
namespace Go.Proofs.YtnapfecalckajaaDoor
open Go.RowKit

/-- A row of the call's own that began as an empty one without room. -/
def OutR (w : World) (B g0 : Nat) (v : Value) (xs : List Value) : Prop :=
  (xs = [] ∧ v = .slice (some ⟨g0, 0, none⟩) 0 0) ∨ (xs ≠ [] ∧ w.ownsRow B 9 1 v xs.length xs)
theorem OutR.shape {w : World} {B g0 : Nat} {v : Value} {xs : List Value} (h : OutR w B g0 v xs) : ∃ a c, v = .slice a xs.length c := by
  rcases h with ⟨rfl, rfl⟩ | ⟨_, h⟩
  · exact ⟨_, _, rfl⟩
  · obtain ⟨a, c, rfl, _⟩ := row_shape h; exact ⟨a, c, rfl⟩
theorem OutR.ne {w : World} {B g0 g : Nat} {v : Value} {xs : List Value} (h : OutR w B g0 v xs) (hg : g < B) (h0 : g ≠ g0) : some g ≠ v.ownBlock := by
  rcases h with ⟨_, rfl⟩ | ⟨_, h⟩
  · intro e; exact h0 (by simpa [Value.ownBlock] using e)
  · intro e; have := (h.lt g e.symm).1; omega
theorem OutR.grow {w w' : World} {B g0 : Nat} {v : Value} {xs : List Value} (h : OutR w B g0 v xs) (g : w.grownBy w' none) : OutR w' B g0 v xs := by
  rcases h with h | ⟨h1, h⟩
  · exact .inl h
  · exact .inr ⟨h1, row_none h g⟩
theorem OutR.old {w w0 : World} {B g0 : Nat} {v : Value} {xs : List Value} (h : OutR w B g0 v xs) (hB : w0.heap.size ≤ B) (h0 : w0.heap.size ≤ g0) : ∀ r, v.ownBlock = some r → w0.heap.size ≤ r := by
  intro r e
  rcases h with ⟨_, rfl⟩ | ⟨_, h⟩
  · have : g0 = r := by simpa [Value.ownBlock] using e
    omega
  · have := (h.lt r e).1; omega
theorem OutR.lt {w : World} {B g0 : Nat} {v : Value} {xs : List Value} (h : OutR w B g0 v xs) (h0 : g0 < w.heap.size) : ∀ r, v.ownBlock = some r → r < w.heap.size := by
  intro r e
  rcases h with ⟨_, rfl⟩ | ⟨_, h⟩
  · have : g0 = r := by simpa [Value.ownBlock] using e
    omega
  · exact (h.lt r e).2
theorem wp_append_out {w : World} {o : Oper} {a : Act} {K : Act → World → Prop} {Q : Exit → Act → World → Prop} (s x : Operand)
    (ho : o.op = .call { callee := .builtin .append, args := #[s, x], argTypes := #[35, 35] }) (B g0 : Nat) (v : Value) (xs : List Value) (hs : a.eval s = v) (h : OutR w B g0 v xs)
    (g c : Nat) (u : Value) (hx : a.eval x = .slice (some ⟨g, 0, none⟩) 1 c) (hc : w.cell? ⟨g, 0, none⟩ = some u) (h1 : u.oneCell' = true) (hl : xs.length ≤ 1000) (hB : B ≤ w.heap.size)
    (hK : ∀ v' w', OutR w' B g0 v' (xs ++ [u]) → w.grownBy w' v.ownBlock → K (a.put o.dst v') w') : o.wp Tryd.prog a w K Q := by
  obtain ⟨i0, hi, hz0, hz1, hz2⟩ := info_parts infoStr
  have hcs : ∀ (j : Nat) (y : Value), ([u] : List Value)[j]? = some y → w.cell? ((⟨g, 0, none⟩ : Addr).add j) = some y := fun j y hj => by
    match j, hj with
    | 0, hj => simp at hj; subst hj; simpa [Addr.add] using hc
  rcases h with ⟨rfl, rfl⟩ | ⟨hne, hown⟩
  · obtain ⟨v', w', hr, r1, r2⟩ := run_append_arg_grows (P := Tryd.prog) w 35 o.type 9 i0 _ 1 16 Tryd.underlying35 hi hz0 hz1 hz2 rfl (by decide) ⟨g0, 0, none⟩ 0 0 [] rfl (fun j y hj => by simp at hj) ⟨g, 0, none⟩ 1 c [u] rfl hcs (by decide) (by unfold maxLen; omega) (by omega)
    unfold Oper.wp execOp
    simp only [ho, resolve, invoke, builtin, Sem.run_bind, Sem.run_pure, Result.andThen_ok, List.map_toArray, List.map_cons, List.map_nil, hs, hx, hr]
    exact hK v' w' (.inr ⟨by simp, row_le r1 hB⟩) (gr_none r2)
  · obtain ⟨v', w', hr, r1, r2, _⟩ := run_append_own (P := Tryd.prog) w B 35 o.type 9 i0 _ 1 16 Tryd.underlying35 hi hz0 hz1 hz2 rfl (by decide) v xs.length xs hown ⟨g, 0, none⟩ 1 c [u] rfl hcs (fun y hy => by obtain rfl := List.mem_singleton.1 hy; exact h1) (by unfold maxLen; omega) (by omega) hB
    unfold Oper.wp execOp
    simp only [ho, resolve, invoke, builtin, Sem.run_bind, Sem.run_pure, Result.andThen_ok, List.map_toArray, List.map_cons, List.map_nil, hs, hx, hr]
    exact hK v' w' (.inr ⟨by simp, by simpa using r1⟩) r2
def hd1T : List UInt8 := [72, 84, 84, 80, 47, 49, 46, 49, 32, 50, 48, 48, 32, 79, 75, 13, 10, 67, 65, 67, 72, 69, 45, 67, 79, 78, 84, 82, 79, 76, 58, 32, 109, 97, 120, 45, 97, 103, 101, 61, 49, 56, 48, 48, 13, 10, 69, 88, 84, 58, 13, 10]
def hd2T : List UInt8 := [83, 69, 82, 86, 69, 82, 58, 32, 104, 101, 97, 114, 116, 104, 47, 49, 32, 85, 80, 110, 80, 47, 49, 46, 49, 32, 104, 101, 97, 114, 116, 104, 47, 49, 13, 10]
def stcT : List UInt8 := [83, 84, 58, 32]
def usnT : List UInt8 := [13, 10, 85, 83, 78, 58, 32]
theorem ansL_parts (lan : Nat) (x y : List UInt8) : ansL lan x y = ((((((hd1T ++ (placeL lan ++ [13, 10])) ++ hd2T) ++ stcT) ++ x) ++ usnT) ++ y) ++ crlf4 := by
  unfold ansL ansLines
  simp only [Lib.join_cons, Lib.joinTail, List.map_cons, List.map_nil, List.flatten_cons, List.flatten_nil, List.append_nil]
  simp [hd1T, hd2T, stcT, usnT, crlf4]
end Go.Proofs.YtnapfecalckajaaDoor
