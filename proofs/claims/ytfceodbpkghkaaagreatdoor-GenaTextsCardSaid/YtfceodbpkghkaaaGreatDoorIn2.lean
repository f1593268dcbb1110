/- hearthref04.Digits, Text. -/
import Derived.Test.YtfceodbpkghkaaaGreatDoorIn1
import Derived.Deep.RegionWith
namespace Go.Proofs.YtfceodbpkghkaaaGreatDoor
open Go.RowKit

theorem conv_one {W : World} {b : Nat} {c : UInt8} (h : W.cell? ⟨b, 0, none⟩ = some (.int .u8 (c.toNat : Int))) : (convert 37 9 (.slice (some ⟨b, 0, none⟩) 1 1)).run Tryz.prog W = .ok (.string ⟨#[c]⟩) W := by
  rw [run_convert_bytes_string W 37 9 5 _ _ _ Tryz.underlying37 Tryz.underlying5 Tryz.underlying9]
  have := run_bytesToString (P := Tryz.prog) W ⟨b, 0, none⟩ 1 1 [(c.toNat : Int)] (by
    have := run_loadCells_list (P := Tryz.prog) W ⟨b, 0, none⟩ [Value.int .u8 (c.toNat : Int)] (by
      intro j v hj
      match j, hj with
      | 0, hj => simp at hj; subst hj; simpa [Addr.add] using h)
    simpa using this)
  rw [this]
  have := foldl_push_byteCells [c]
  simp at this
  simp
  rfl
end Go.Proofs.YtfceodbpkghkaaaGreatDoor
