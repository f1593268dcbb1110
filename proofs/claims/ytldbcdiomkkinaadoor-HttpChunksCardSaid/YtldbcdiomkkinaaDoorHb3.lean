/- A body in pieces is read as the same body: the plain law. It speaks of no program. -/
import Derived.Test.YtldbcdiomkkinaaDoorHb2
import Derived.Test.YtldbcdiomkkinaaDoorHty
namespace Go.Proofs.YtldbcdiomkkinaaDoor
open Go.RowKit

def hexB : List UInt8 := [48, 49, 50, 51, 52, 53, 54, 55, 56, 57, 97, 98, 99, 100, 101, 102]
def hexC (k : Nat) : UInt8 := hexB.getD (k % 16) 0
/-- Four digits of a number. -/
def hex4 (n : Nat) : List UInt8 := [hexC (n / 4096), hexC (n / 256), hexC (n / 16), hexC n]
/-- A piece, as it is written. -/
def chunkT (d : List UInt8) : List UInt8 := hex4 d.length ++ 13 :: 10 :: (d ++ [13, 10])
def endT : List UInt8 := [48, 13, 10, 13, 10]
def headT : List UInt8 := [80, 79, 83, 84, 32, 47, 120, 32, 72, 84, 84, 80, 47, 49, 46, 49, 13, 10, 72, 111, 115, 116, 58, 32, 104, 13, 10, 84, 114, 97, 110, 115, 102, 101, 114, 45, 69, 110, 99, 111, 100, 105, 110, 103, 58, 32, 99, 104, 117, 110, 107, 101, 100, 13, 10, 13, 10]
def rqC (body : List UInt8) : Rq := ⟨postL, slxL, 1, [(hostL, [104]), ([116, 114, 97, 110, 115, 102, 101, 114, 45, 101, 110, 99, 111, 100, 105, 110, 103], [99, 104, 117, 110, 107, 101, 100])], body, true⟩
/-- A reader that waits for a piece's size. -/
def Ps.size (body : List UInt8) (x : Nat) : Ps := ⟨[], 2, false, rqC body, x⟩
set_option maxRecDepth 20000 in
theorem head_read : feedL Ps.new headT = ([], Ps.size [] 0) := by kernel_rfl
theorem valN_hex (k : Nat) : valN (hexC k) = ((k % 16 : Nat) : Int) :=
  (by decide : ∀ a : Fin 16, valN (hexB.getD a.val 0) = (a.val : Int)) ⟨k % 16, Nat.mod_lt _ (by decide)⟩
theorem hex_plain (k : Nat) : hexC k ≠ 10 ∧ hexC k ≠ 59 :=
  (by decide : ∀ a : Fin 16, hexB.getD a.val 0 ≠ 10 ∧ hexB.getD a.val 0 ≠ 59) ⟨k % 16, Nat.mod_lt _ (by decide)⟩
theorem numGo_hex (k : Nat) (n : Int) (l : List UInt8) : numGo 16 n (hexC k :: l) = numGo 16 (n * 16 + ((k % 16 : Nat) : Int)) l := by
  rw [numGo, valN_hex, if_neg (by omega)]
theorem numR_hex {n : Nat} (h : n < 65536) : numR 16 268435455 (hex4 n) = ((n : Int), true) := by
  unfold numR hex4
  rw [if_neg (by simp), numGo_hex, numGo_hex, numGo_hex, numGo_hex, numGo]
  unfold numFin
  dsimp only
  rw [if_neg (by omega)]
  simp only [Prod.mk.injEq, and_true]
  omega
theorem hex_no10 (n : Nat) : 10 ∉ hex4 n := fun h => by
  unfold hex4 at h
  simp only [List.mem_cons, List.not_mem_nil, or_false] at h
  rcases h with h | h | h | h
  · exact (hex_plain _).1 h.symm
  · exact (hex_plain _).1 h.symm
  · exact (hex_plain _).1 h.symm
  · exact (hex_plain _).1 h.symm
theorem hex_cut (n : Nat) : (cutB (hex4 n) 59).1 = hex4 n := by
  have h : 59 ∉ hex4 n := fun h => by
    unfold hex4 at h
    simp only [List.mem_cons, List.not_mem_nil, or_false] at h
    rcases h with h | h | h | h
    · exact (hex_plain _).2 h.symm
    · exact (hex_plain _).2 h.symm
    · exact (hex_plain _).2 h.symm
    · exact (hex_plain _).2 h.symm
  unfold cutB
  rw [ix_none _ _ h, if_neg (by decide)]
theorem size_step (body d R : List UInt8) (x : Nat) (h0 : 0 < d.length) (hd : body.length + d.length ≤ 8192) :
    sizeS ⟨hex4 d.length ++ 13 :: 10 :: R, 2, false, rqC body, x⟩ = (⟨R, 3, false, rqC body, d.length⟩, none) := by
  have hL := line_crlf (hex4 d.length) R (hex_no10 _)
  have hl4 : (hex4 d.length).length = 4 := rfl
  unfold sizeS
  dsimp only
  rw [hL]
  dsimp only
  rw [if_neg (by simp [hl4]; omega), hex_cut, numR_hex (by omega)]
  dsimp only
  rw [if_neg (by simp), if_neg (by show ¬ ((d.length : Int) > 8192 - (body.length : Int)); omega), if_neg (by omega)]
  rfl
theorem chunk_step (body d : List UInt8) :
    chunkS ⟨d ++ [13, 10], 3, false, rqC body, d.length⟩ = (Ps.size (body ++ d) d.length, none) := by
  have e1 : (d ++ [13, 10]).getD d.length 0 = 13 := by rw [List.getD_eq_getElem?_getD, List.getElem?_append_right (Nat.le_refl _)]; simp
  have e2 : (d ++ [13, 10]).getD (d.length + 1) 0 = 10 := by rw [List.getD_eq_getElem?_getD, List.getElem?_append_right (by omega)]; simp
  unfold chunkS
  dsimp only
  rw [if_neg (by rintro (⟨_, h⟩ | ⟨_, h⟩); exact h e1; exact h e2), if_neg (by simp)]
  have e3 : List.take d.length (d ++ [13, 10]) = d := by simp
  have e4 : List.drop (d.length + 2) (d ++ [13, 10]) = [] := List.drop_eq_nil_of_le (by simp)
  rw [e3, e4]
  rfl
theorem wait_step (body : List UInt8) (x : Nat) : stepS (Ps.size body x) = (Ps.size body x, none) := by
  show sizeS (Ps.size body x) = _
  unfold sizeS
  rfl
theorem piece_read (body d : List UInt8) (x : Nat) (h0 : 0 < d.length) (hd : body.length + d.length ≤ 8192) :
    feedL (Ps.size body x) (chunkT d) = ([], Ps.size (body ++ d) d.length) := by
  unfold feedL
  rw [if_neg (show ¬ (Ps.size body x).stage = 5 from (by decide : ¬ (2 : Nat) = 5))]
  have e0 : ∀ l : List UInt8, ({ Ps.size body x with rest := (Ps.size body x).rest ++ l } : Ps) = ⟨l, 2, false, rqC body, x⟩ := fun l => rfl
  rw [e0]
  obtain ⟨f, hf⟩ : ∃ f, 2 * ((Ps.size body x).rest ++ chunkT d).length + 2 = f + 1 + 1 + 1 := ⟨2 * ((Ps.size body x).rest ++ chunkT d).length + 2 - 3, by
    have : 4 ≤ ((Ps.size body x).rest ++ chunkT d).length := by rw [List.length_append]; unfold chunkT; rw [List.length_append]; have : (hex4 d.length).length = 4 := rfl; omega
    omega⟩
  rw [hf]
  have h1 : stepS ⟨chunkT d, 2, false, rqC body, x⟩ = (⟨d ++ [13, 10], 3, false, rqC body, d.length⟩, none) := size_step body d (d ++ [13, 10]) x h0 hd
  have h2 : stepS ⟨d ++ [13, 10], 3, false, rqC body, d.length⟩ = (Ps.size (body ++ d) d.length, none) := chunk_step body d
  rw [go_on h1 (by rintro (h | ⟨_, h, _⟩); exact absurd h (by decide : ¬ (3 : Nat) = 5); exact absurd h (by decide : ¬ (3 : Nat) = 2)), go_on h2 (by rintro (h | ⟨_, h, _⟩); exact absurd h (by decide : ¬ (2 : Nat) = 5); exact absurd h (by decide : ¬ (2 : Nat) = 3)), go_fin (wait_step _ _) (.inr ⟨rfl, rfl, rfl⟩)]
  rfl
theorem end_read (body : List UInt8) (x : Nat) (hd : body.length ≤ 8192) :
    feedL (Ps.size body x) endT = ([⟨0, rqC body⟩], Ps.idle 0) := by
  unfold feedL
  rw [if_neg (show ¬ (Ps.size body x).stage = 5 from (by decide : ¬ (2 : Nat) = 5))]
  have e0 : ∀ l : List UInt8, ({ Ps.size body x with rest := (Ps.size body x).rest ++ l } : Ps) = ⟨l, 2, false, rqC body, x⟩ := fun l => rfl
  rw [e0]
  obtain ⟨f, hf⟩ : ∃ f, 2 * ((Ps.size body x).rest ++ endT).length + 2 = f + 1 + 1 + 1 := ⟨9, rfl⟩
  rw [hf]
  have h1 : stepS ⟨endT, 2, false, rqC body, x⟩ = (⟨[13, 10], 4, false, rqC body, 0⟩, none) := by
    show sizeS ⟨endT, 2, false, rqC body, x⟩ = _
    unfold sizeS
    dsimp only
    rw [show lineL endT = some ([48], false, [13, 10]) from rfl]
    dsimp only
    rw [if_neg (by decide), show numR 16 268435455 (cutB [48] 59).1 = (0, true) from by kernel_rfl]
    dsimp only
    rw [if_neg (by simp), if_neg (by show ¬ ((0 : Int) > 8192 - (body.length : Int)); omega), if_pos rfl]
    rfl
  have h2 : stepS ⟨[13, 10], 4, false, rqC body, 0⟩ = (Ps.idle 0, some ⟨0, rqC body⟩) := by
    show trailerS ⟨[13, 10], 4, false, rqC body, 0⟩ = _
    unfold trailerS
    dsimp only
    rw [show blockL [13, 10] 0 = some ([], false, []) from rfl]
    dsimp only
    rw [if_neg (by decide), if_neg (by decide)]
    rfl
  rw [go_on h1 (by rintro (h | ⟨_, h, _⟩); exact absurd h (by decide : ¬ (4 : Nat) = 5); exact absurd h (by decide : ¬ (4 : Nat) = 2)), go_on h2 (by rintro (h | ⟨h, _⟩); exact absurd h (by decide : ¬ (0 : Nat) = 5); exact absurd h (by simp)), go_fin (idle_step _) (.inr ⟨rfl, rfl, rfl⟩)]
  rfl
/-- Pieces one behind the other. -/
def piecesT (ds : List (List UInt8)) : List UInt8 := ds.flatMap chunkT
theorem size_inv (body : List UInt8) (x : Nat) (hb : body.length ≤ 8192) (hx : x ≤ 8192) : PsInv (Ps.size body x) :=
  ⟨Nat.zero_le _, hx, by show body.length + (if (2 : Nat) = 3 then x else 0) ≤ 8192; simpa using hb, by show (2 : Nat) ≤ 5; omega, fun h => absurd h (by show ¬ (2 : Nat) = 0; decide)⟩
theorem piecesT_len : ∀ ds : List (List UInt8), (piecesT ds).length = ds.length * 8 + ds.flatten.length
  | [] => rfl
  | d :: ds => by
    have ih := piecesT_len ds
    unfold piecesT at ih ⊢
    rw [List.flatMap_cons, List.length_append, ih, List.flatten_cons, List.length_append, List.length_cons]
    have : (chunkT d).length = 8 + d.length := by
      unfold chunkT
      rw [List.length_append]
      simp [show (hex4 d.length).length = 4 from rfl]
      omega
    omega
theorem pieces_read : ∀ (ds : List (List UInt8)) (body : List UInt8) (x : Nat), (∀ d ∈ ds, 0 < d.length) → body.length + ds.flatten.length ≤ 8192 → ds.length ≤ 1000 → x ≤ 8192 →
    feedL (Ps.size body x) (piecesT ds ++ endT) = ([⟨0, rqC (body ++ ds.flatten)⟩], Ps.idle 0)
  | [], body, x, _, hl, _, _ => by
    show feedL (Ps.size body x) endT = _
    rw [end_read body x (by simpa using hl)]
    simp
  | d :: ds, body, x, h0, hl, hn, hx => by
    rw [List.flatten_cons, List.length_append] at hl
    have hd0 := h0 d (List.mem_cons_self ..)
    have hpl := piecesT_len ds
    have e : piecesT (d :: ds) ++ endT = chunkT d ++ (piecesT ds ++ endT) := by unfold piecesT; rw [List.flatMap_cons, List.append_assoc]
    have hcl : (chunkT d).length = 8 + d.length := by
      unfold chunkT
      rw [List.length_append]
      simp [show (hex4 d.length).length = 4 from rfl]
      omega
    rw [List.length_cons] at hn
    rw [e, feedL_app (size_inv body x (by omega) hx) (by show 0 + ((chunkT d).length + (piecesT ds ++ endT).length) ≤ 100000; rw [List.length_append, hpl, hcl]; show 0 + (8 + d.length + (ds.length * 8 + ds.flatten.length + 5)) ≤ 100000; omega), piece_read body d x hd0 (by omega)]
    dsimp only
    rw [pieces_read ds (body ++ d) d.length (fun y hy => h0 y (List.mem_cons_of_mem _ hy)) (by rw [List.length_append]; omega) (by omega) (by omega)]
    simp
/-- All of it. -/
theorem chunks_read (ds : List (List UInt8)) (h0 : ∀ d ∈ ds, 0 < d.length) (hl : ds.flatten.length ≤ 8192) (hn : ds.length ≤ 1000) :
    feedL Ps.new (headT ++ (piecesT ds ++ endT)) = ([⟨0, rqC ds.flatten⟩], Ps.idle 0) := by
  have hpl := piecesT_len ds
  rw [feedL_app new_inv (by show 0 + (headT.length + (piecesT ds ++ endT).length) ≤ 100000; rw [List.length_append, hpl]; show 0 + (57 + (ds.length * 8 + ds.flatten.length + 5)) ≤ 100000; omega), head_read]
  dsimp only
  rw [pieces_read ds [] 0 h0 (by simpa using hl) hn (Nat.zero_le _)]
  rfl
end Go.Proofs.YtldbcdiomkkinaaDoor
