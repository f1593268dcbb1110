/- A request that http.Ask writes is read as it was written: the plain law. It speaks of no program. -/
import Derived.Test.YtldbcdiomkkinaaGreatDoorHb1
namespace Go.Proofs.YtldbcdiomkkinaaGreatDoor
open Go.RowKit

def postL : List UInt8 := [80, 79, 83, 84]
def slxL : List UInt8 := [47, 120]
def hostL : List UInt8 := [104, 111, 115, 116]
def firstA : List UInt8 := askFirst postL slxL
def hostT (hn : List UInt8) : List UInt8 := hn ++ [58, 32, 104]
theorem ask_shape (hn body : List UInt8) : askL postL slxL [(hn, [104])] body = firstA ++ 13 :: 10 :: (hostT hn ++ 13 :: 10 :: (clenL body.length ++ 13 :: 10 :: (13 :: 10 :: body))) := by
  unfold askL writeL rowsW
  rw [show (firstA : List UInt8) = askFirst postL slxL from rfl]
  generalize askFirst postL slxL = F
  rw [List.cons_append, List.cons_append, Lib.join_cons]
  unfold Lib.joinTail hostT lineF
  simp
/-- What is read of it. -/
def rqA (body : List UInt8) : Rq := ⟨postL, slxL, 1, [(hostL, [104]), (clowL, Lib.itoa (body.length : Int))], body, true⟩
def pdA (body : List UInt8) : Pd := ⟨0, rqA body⟩
theorem getL_two (d : List UInt8) (n : List UInt8) : getL [(hostL, [104]), (clowL, d)] n = (if hostL == n then [[104]] else []) ++ (if clowL == n then [d] else []) := by
  unfold getL
  rw [List.filter_cons, List.filter_cons, List.filter_nil]
  split <;> split <;> rfl
theorem head_ask (hn body : List UInt8) (x : Nat) (hh : lnR (hostT hn) = (hostL, [104], true)) (h10 : 10 ∉ hostT hn) (hl : (hostT hn).length ≤ 20) (hb : body.length ≤ 8192) :
    headS ⟨askL postL slxL [(hn, [104])] body, 0, false, Rq.zero, x⟩ = (⟨body, 1, false, { rqA body with body := [] }, body.length⟩, none) := by
  have hf10 : 10 ∉ firstA := by decide
  have hfne : firstA ≠ [] := by decide
  have hne : hostT hn ≠ [] := by unfold hostT; simp
  have hcne : clenL body.length ≠ [] := by unfold clenL; simp
  have hnum := numR_dec (n := body.length) (by omega)
  have hcl : (clenL body.length).length ≤ 37 := by
    have := Lib.itoa_length_le (body.length : Int) (by omega) (by omega)
    unfold clenL
    simp
    omega
  have hst : stR firstA = (postL, slxL, 1, true) := by kernel_rfl
  have hL1 : lineL (askL postL slxL [(hn, [104])] body) = some (firstA, false, hostT hn ++ 13 :: 10 :: (clenL body.length ++ 13 :: 10 :: (13 :: 10 :: body))) := by
    rw [ask_shape]; exact line_crlf _ _ hf10
  have hB : blockL (askL postL slxL [(hn, [104])] body) 1 = some ([firstA, hostT hn, clenL body.length], false, body) := by
    rw [ask_shape]
    unfold blockL
    obtain ⟨f, hf⟩ : ∃ f, (firstA ++ 13 :: 10 :: (hostT hn ++ 13 :: 10 :: (clenL body.length ++ 13 :: 10 :: (13 :: 10 :: body)))).length + 1 = f + 1 + 1 + 1 + 1 := ⟨_, by
      have : (firstA ++ 13 :: 10 :: (hostT hn ++ 13 :: 10 :: (clenL body.length ++ 13 :: 10 :: (13 :: 10 :: body)))).length = ((firstA ++ 13 :: 10 :: (hostT hn ++ 13 :: 10 :: (clenL body.length ++ 13 :: 10 :: (13 :: 10 :: body)))).length - 3) + 3 := by simp; omega
      rw [this]⟩
    rw [hf, block_step _ _ _ _ _ hf10 (fun h => hfne h.1), block_step _ _ _ _ _ h10 (fun h => hne h.1), block_step _ _ _ _ _ (clen_no10 _) (fun h => hcne h.1)]
    exact block_end _ _ _ _ (by simp)
  have hlen : (askL postL slxL [(hn, [104])] body).length - body.length ≤ 4096 := by
    rw [ask_shape]
    simp [show firstA.length = 16 from rfl]
    omega
  unfold headS
  dsimp only
  rw [hL1]
  dsimp only
  rw [if_neg (fun h => hfne h.1), hB]
  dsimp only
  rw [if_pos hlen]
  unfold judgeS
  dsimp only [List.headD_cons, List.tail_cons]
  rw [hst]
  dsimp only
  rw [if_neg (by decide), if_neg (by decide)]
  have hfs : fieldsL [hostT hn, clenL body.length] = some [(hostL, [104]), (clowL, Lib.itoa (body.length : Int))] := by
    unfold fieldsL fieldsL fieldsL
    rw [hh, clen_line]
    rfl
  rw [hfs]
  dsimp only
  have g1 : getL [(hostL, [104]), (clowL, Lib.itoa (body.length : Int))] [104, 111, 115, 116] = [[104]] := by rw [getL_two]; rfl
  rw [g1, if_neg (by simp), if_neg (by simp)]
  have hfr : framingL { Rq.zero with method := postL, target := slxL, minor := 1, fields := [(hostL, [104]), (clowL, Lib.itoa (body.length : Int))] } = (0, 1, body.length) := by
    unfold framingL
    dsimp only
    rw [getL_two, getL_two]
    rw [show ((if hostL == [116, 114, 97, 110, 115, 102, 101, 114, 45, 101, 110, 99, 111, 100, 105, 110, 103] then [[104]] else []) ++ (if clowL == [116, 114, 97, 110, 115, 102, 101, 114, 45, 101, 110, 99, 111, 100, 105, 110, 103] then [Lib.itoa (body.length : Int)] else []) : List (List UInt8)) = [] from rfl]
    rw [show ((if hostL == [99, 111, 110, 116, 101, 110, 116, 45, 108, 101, 110, 103, 116, 104] then [[104]] else []) ++ (if clowL == [99, 111, 110, 116, 101, 110, 116, 45, 108, 101, 110, 103, 116, 104] then [Lib.itoa (body.length : Int)] else []) : List (List UInt8)) = [Lib.itoa (body.length : Int)] from rfl]
    rw [if_neg (by simp)]
    dsimp only
    rw [hnum]
    dsimp only
    rw [if_pos rfl, if_neg (by omega)]
    rfl
  have hkp : keepL { Rq.zero with method := postL, target := slxL, minor := 1, fields := [(hostL, [104]), (clowL, Lib.itoa (body.length : Int))] } = true := by
    unfold keepL
    dsimp only
    rw [getL_two]
    rfl
  rw [hfr, hkp]
  dsimp only
  rw [if_neg (by simp), if_neg (by decide)]
  rfl
/-- A request is read, and the reader waits for the next one. -/
theorem ask_read (hn body : List UInt8) (x : Nat) (hh : lnR (hostT hn) = (hostL, [104], true)) (h10 : 10 ∉ hostT hn) (hl : (hostT hn).length ≤ 20) (hb : body.length ≤ 8192) :
    feedL (Ps.idle x) (askL postL slxL [(hn, [104])] body) = ([pdA body], Ps.idle body.length) := by
  unfold feedL
  rw [if_neg (show ¬ (Ps.idle x).stage = 5 from (by decide : ¬ (0 : Nat) = 5))]
  have e0 : ∀ l : List UInt8, ({ Ps.idle x with rest := (Ps.idle x).rest ++ l } : Ps) = ⟨l, 0, false, Rq.zero, x⟩ := fun l => rfl
  rw [e0]
  have hlong : 16 ≤ (askL postL slxL [(hn, [104])] body).length := by
    rw [ask_shape]
    simp [show firstA.length = 16 from rfl]
  obtain ⟨f, hf⟩ : ∃ f, 2 * ((Ps.idle x).rest ++ askL postL slxL [(hn, [104])] body).length + 2 = f + 1 + 1 + 1 := ⟨2 * ((Ps.idle x).rest ++ askL postL slxL [(hn, [104])] body).length + 2 - 3, by
    have : 16 ≤ ((Ps.idle x).rest ++ askL postL slxL [(hn, [104])] body).length := by rw [List.length_append]; omega
    omega⟩
  rw [hf]
  have h1 : stepS ⟨askL postL slxL [(hn, [104])] body, 0, false, Rq.zero, x⟩ = (⟨body, 1, false, { rqA body with body := [] }, body.length⟩, none) := head_ask hn body x hh h10 hl hb
  have h2 : stepS ⟨body, 1, false, { rqA body with body := [] }, body.length⟩ = (Ps.idle body.length, some (pdA body)) := by
    show bodyS _ = _
    unfold bodyS
    dsimp only
    rw [if_neg (by omega), List.take_length, List.drop_length]
    rfl
  rw [go_on h1 (by rintro (h | ⟨_, h, _⟩); exact absurd h (by decide : ¬ (1 : Nat) = 5); exact absurd h (by decide : ¬ (1 : Nat) = 0)), go_on h2 (by rintro (h | ⟨h, _⟩); exact absurd h (by decide : ¬ (0 : Nat) = 5); exact absurd h (by simp)), go_fin (idle_step _) (.inr ⟨rfl, rfl, rfl⟩)]
  rfl
theorem host_great : lnR (hostT [72, 79, 83, 84]) = (hostL, [104], true) := by kernel_rfl
theorem host_small : lnR (hostT [72, 111, 115, 116]) = (hostL, [104], true) := by kernel_rfl
end Go.Proofs.YtldbcdiomkkinaaGreatDoor
