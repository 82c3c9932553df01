/- []byte(s) of any string. No condition. -/
import Derived.Test.YtlpjcfiibbcdjaaGreatDoorLib3
import Derived.Lib.ConvBytes
namespace Go.Proofs.YtlpjcfiibbcdjaaGreatDoor
open Go.ChangeShapes Go.WideShapes Go.ChangeAt Go.RowKit
theorem conv_bytes (w : World) (bs : List UInt8) : ∃ c w1, (convert 9 41 (.string ⟨bs.toArray⟩)).run Tryz.prog w = .ok (.slice (some ⟨w.heap.size, 0, none⟩) bs.length c) w1 ∧
    Sl encB w1 (some ⟨w.heap.size, 0, none⟩) bs.length bs ∧ bs.length ≤ c ∧ Below w.heap.size w w1 ∧ w1.heap.size = w.heap.size + 1 := by
  have hr := Lib.run_convert_string_bytes (P := Tryz.prog) w 9 41 5 ⟨bs.toArray⟩ Tryz.underlying9 Tryz.underlying41 Tryz.underlying5
  have hsz : (⟨bs.toArray⟩ : ByteArray).size = bs.length := by simp [ByteArray.size]
  rw [hsz] at hr
  refine ⟨_, _, hr, ⟨rfl, fun _ => ⟨w.heap.size, 0, rfl, by rw [Lib.bytesWorld_size]; omega, fun i hi => ?_⟩⟩, grownCap_ge _ _ _ _, ⟨?_, ?_, ?_, by rw [Lib.bytesWorld_size]; omega, fun k hk => Lib.bytesWorld_at_old _ _ _ _ hk⟩, Lib.bytesWorld_size _ _ _⟩
  · rw [Nat.zero_add, Lib.bytesWorld_cell _ _ _ i (by rw [hsz]; exact hi)]
    simp [List.getD, hi, encB]
  · simp [Lib.bytesWorld, World.freeze, World.alloc, World.drew, -World.alloc_eq, -World.drew_eq]
  · simp [Lib.bytesWorld, World.freeze, World.alloc, World.drew, -World.alloc_eq, -World.drew_eq]
  · simp [Lib.bytesWorld, World.freeze, World.alloc, World.drew, -World.alloc_eq, -World.drew_eq]
end Go.Proofs.YtlpjcfiibbcdjaaGreatDoor
