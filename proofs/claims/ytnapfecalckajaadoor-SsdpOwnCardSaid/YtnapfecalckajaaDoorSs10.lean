/- What a right search's text asks for (plain); how many answers it has. -/
import Derived.Test.YtnapfecalckajaaDoorSs5
namespace Go.Proofs.YtnapfecalckajaaDoor

def q0T : List UInt8 := [77, 45, 83, 69, 65, 82, 67, 72, 32, 42, 32, 72, 84, 84, 80, 47, 49, 46, 49]
def q1T : List UInt8 := [72, 79, 83, 84, 58, 32, 50, 51, 57, 46, 50, 53, 53, 46, 50, 53, 53, 46, 50, 53, 48, 58, 49, 57, 48, 48]
def q2T : List UInt8 := [77, 65, 78, 58, 32, 34, 115, 115, 100, 112, 58, 100, 105, 115, 99, 111, 118, 101, 114, 34]
def q3T : List UInt8 := [77, 88, 58, 32, 50]
def q4T (n : List UInt8) : List UInt8 := 83 :: 84 :: 58 :: 32 :: n
def askB (n : List UInt8) : List UInt8 := q0T ++ 13 :: 10 :: (q1T ++ 13 :: 10 :: (q2T ++ 13 :: 10 :: (q3T ++ 13 :: 10 :: q4T n)))
def askT (n : List UInt8) : List UInt8 := askB n ++ crlf4
def visL (n : List UInt8) : Prop := ∀ c ∈ n, 33 ≤ c.toNat ∧ c.toNat ≤ 126
theorem lns_plain (l : List UInt8) (h : 13 ∉ l) : lns l = [l] := lns_none l (fun _ hc => h (List.mem_of_getElem? hc.1))
theorem vis_no {n : List UInt8} (h : visL n) (c : UInt8) (hc : c.toNat < 33) : c ∉ n := fun hm => by have := h c hm; omega
theorem ask_pieces {n : List UInt8} (h : visL n) : lns (askB n) = [q0T, q1T, q2T, q3T, q4T n] := by
  unfold askB
  rw [lns_app, lns_app, lns_app, lns_app, lns_plain q0T (by decide), lns_plain q1T (by decide), lns_plain q2T (by decide), lns_plain q3T (by decide), lns_plain (q4T n) ?_]
  · rfl
  · unfold q4T
    have := vis_no h 13 (by decide)
    simp [this]
theorem blk_vis : ∀ c : UInt8, 33 ≤ c.toNat ∧ c.toNat ≤ 126 → blk c = false ∧ okC c = true := by
  intro c hc
  have h1 : c ≠ 32 := fun e => by subst e; simp at hc
  have h2 : c ≠ 9 := fun e => by subst e; simp at hc
  refine ⟨by unfold blk; simp [h1, h2], ?_⟩
  unfold okC
  have h3 : ((c.toNat : Int) != 127) = true := by rw [bne_iff_ne]; omega
  rw [h3]
  simp
  left; omega
theorem dropWhile_vis {n : List UInt8} (h : ∀ c ∈ n, blk c = false) : n.dropWhile blk = n := by
  cases n with
  | nil => rfl
  | cons c n => rw [List.dropWhile_cons_of_neg (by simp [h c (by simp)])]
theorem q4_line {n : List UInt8} (h : visL n) : lnR (q4T n) = ([115, 116], n, true) := by
  have hc : cutB (q4T n) 58 = ([83, 84], 32 :: n, true) := by
    rw [cut58]
    have hp : lnP (q4T n) = [83, 84] := by unfold lnP q4T; simp
    rw [if_pos (by rw [hp]; unfold q4T; simp), hp]
    unfold lnD
    rw [hp]; rfl
  have ht : Lib.trimS (32 :: n) [32, 9] = n := by
    rw [trimS_eq, List.dropWhile_cons_of_pos (by decide), dropWhile_vis (fun c hm => (blk_vis c (h c hm)).1)]
    unfold rdB
    rw [dropWhile_vis (fun c hm => (blk_vis c (h c (by simpa using hm))).1), List.reverse_reverse]
  have hd : lnR (q4T n) = (if ((cutB (q4T n) 58).2.2 && (Lib.trimS (cutB (q4T n) 58).2.1 [32, 9]).all okC) && tokB (cutB (q4T n) 58).1 then (lowL (cutB (q4T n) 58).1, Lib.trimS (cutB (q4T n) 58).2.1 [32, 9], true) else ([], [], false)) := rfl
  have ho : n.all okC = true := List.all_eq_true.2 (fun c hm => (blk_vis c (h c hm)).2)
  rw [hd, hc]
  dsimp only
  rw [ht, ho]
  rfl
theorem q0_start : stR q0T = (msearchT, [42], 1, true) := by decide +kernel
theorem q1_line : lnR q1T = ([104, 111, 115, 116], [50, 51, 57, 46, 50, 53, 53, 46, 50, 53, 53, 46, 50, 53, 48, 58, 49, 57, 48, 48], true) := by decide +kernel
theorem q2_line : lnR q2T = (manT, discT, true) := by decide +kernel
theorem q3_line : lnR q3T = (mxT, [50], true) := by decide +kernel
theorem askB_len (n : List UInt8) : (askT n).length = 86 + n.length := by
  unfold askT askB q0T q1T q2T q3T q4T crlf4
  simp; omega
theorem ask_is {n : List UInt8} (h : visL n) (hl : n.length ≤ 400) : askL (ssF (askT n)) = some n := by
  have hs : ssF (askT n) = some [([104, 111, 115, 116], [50, 51, 57, 46, 50, 53, 53, 46, 50, 53, 53, 46, 50, 53, 48, 58, 49, 57, 48, 48]), (manT, discT), (mxT, [50]), (stT, n)] := by
    unfold ssF
    rw [if_pos ⟨hasSuffix_app _ _, by rw [askB_len]; omega⟩]
    unfold askT
    rw [trimSuffix_app, ask_pieces h]
    unfold ofPieces
    rw [List.headD_cons, q0_start, if_pos ⟨rfl, rfl, rfl, rfl⟩]
    show fieldsL [q1T, q2T, q3T, q4T n] = _
    unfold fieldsL fieldsL fieldsL fieldsL fieldsL
    rw [q1_line, q2_line, q3_line, q4_line h]
    rfl
  rw [hs]
  unfold askL
  have h1 : oneL [([104, 111, 115, 116], [50, 51, 57, 46, 50, 53, 53, 46, 50, 53, 53, 46, 50, 53, 48, 58, 49, 57, 48, 48]), (manT, discT), (mxT, [50]), (stT, n)] manT = (discT, true) := by kernel_rfl
  have h2 : oneL [([104, 111, 115, 116], [50, 51, 57, 46, 50, 53, 53, 46, 50, 53, 53, 46, 50, 53, 48, 58, 49, 57, 48, 48]), (manT, discT), (mxT, [50]), (stT, n)] stT = (n, true) := by kernel_rfl
  have h3 : oneL [([104, 111, 115, 116], [50, 51, 57, 46, 50, 53, 53, 46, 50, 53, 53, 46, 50, 53, 48, 58, 49, 57, 48, 48]), (manT, discT), (mxT, [50]), (stT, n)] mxT = ([50], true) := by kernel_rfl
  have h4 : numR 10 9999999 [50] = (2, true) := by decide +kernel
  dsimp only
  rw [h1, h2, h3]
  dsimp only
  rw [h4, if_pos ⟨rfl, rfl, rfl, by decide⟩]
def wantN (names : List (List UInt8)) (o : List UInt8) : Nat := (names.filter fun x => x == o || o == allT).length
theorem ansA_count (lan : Nat) (u o : List UInt8) : (ansA lan o (prsU u)).length = wantN (nmL u) o := by
  unfold ansA selS prsU wantN
  rw [List.length_map, List.filter_map, List.length_map]
  congr 1
  apply List.filter_congr
  intro x _
  show (o == allT || o == x) = (x == o || o == allT)
  rw [Bool.or_comm, Bool.beq_comm]
theorem want_all (u : List UInt8) : wantN (nmL u) allT = 6 := by
  unfold wantN
  rw [List.filter_eq_self.2 (fun x _ => by simp)]; rfl
theorem want_root (u : List UInt8) : wantN (nmL u) rootT = 1 := by
  unfold wantN nmL
  have h0 : (ownU u == rootT) = false := by rw [beq_eq_false_iff_ne]; simp [rootT, ownU, uuT]
  have h1 : (rootT == allT) = false := by decide
  have h2 : (dev1T == rootT) = false := by decide
  have h3 : (dev2T == rootT) = false := by decide
  have h4 : (ser1T == rootT) = false := by decide
  have h5 : (ser2T == rootT) = false := by decide
  simp [h0, h1, h2, h3, h4, h5]
end Go.Proofs.YtnapfecalckajaaDoor
