/- Feed as one law; the reader's plain model over feeds; the document's example, by evaluation. -/
import Derived.Test.YtldbcdiomkkinaaGreatDoorHtw
namespace Go.Proofs.YtldbcdiomkkinaaGreatDoor
open Go.RowKit
set_option linter.unusedVariables false

theorem feed_http (b : Nat) (s : Ps) (w : World) (mx : Int) (l : List UInt8) (v : Value) (h : PAt w b s) (hi : PsInv s) (hm : w.cell? ⟨0, 0, none⟩ = some (.int .i64 mx)) (hb0 : b ≠ 0) (hv : Bytes w v l) (hl : s.rest.length + l.length ≤ 200000) :
    Calls Tryz.prog 16 #[.pointer (some ⟨b, 0, none⟩), v] w (FeedPost w b (feedL s l)) := by
  by_cases h5 : s.stage = 5
  · exact feed_dead b s w l v h h5
  · exact feed_live b s w mx l v (h.live h5) hi h5 hm hb0 hv hl
theorem SF.rest {s : Ps} {r : Ps × Option Pd} (h : SF s r) (h5 : s.stage ≠ 5) (hd : r.1.stage = 5 → r.1.rest.length ≤ s.rest.length) : r.1.rest.length ≤ s.rest.length := by
  rcases h.2 with h | ⟨-, h⟩ | h
  · exact hd h
  · rw [h]
    exact Nat.le_refl _
  · have := mu_ge r.1
    unfold muS at h this
    split at h <;> split at h <;> omega
def text1 : List UInt8 := [80, 79, 83, 84, 32, 47, 99, 32, 72, 84, 84, 80, 47, 49, 46, 49, 13, 10, 72, 111, 115, 116, 58, 32, 97, 13, 10, 67, 111, 110, 116, 101, 110, 116, 45, 76, 101, 110, 103, 116, 104, 58, 32, 50, 13, 10, 13, 10, 104, 105]
def text2 : List UInt8 := [80, 79, 83, 84, 32, 47, 99, 32, 72, 84, 84, 80, 47, 49, 46, 49, 13, 10, 72, 111, 115, 116, 58, 32, 97, 13, 10, 13, 10, 104, 105]
def check1 (r : List Pd × Ps) : Bool := match r.1 with | [p] => p.req.body == [104, 105] && p.req.keep && r.2.stage == 0 | _ => false
def check2 (r : List Pd × Ps) : Bool := match r.1 with | [p] => p.status == 411 && r.2.stage == 5 | _ => false
set_option maxRecDepth 20000 in
theorem text1_read : check1 (feedL Ps.new text1) = true := by kernel_rfl
set_option maxRecDepth 20000 in
theorem text2_read : check2 (feedL Ps.new text2) = true := by kernel_rfl
end Go.Proofs.YtldbcdiomkkinaaGreatDoor
