/- bytes that came in. No condition. -/
import Derived.Test.YtlpjcfiibbcdjaaGreatDoorLib3
import Derived.Lib.SmallJoins
import Derived.OpenShut
namespace Go.Proofs.YtlpjcfiibbcdjaaGreatDoor
open Go.ChangeShapes Go.WideShapes Go.ChangeAt Go.RowKit Go.Joins Go.Deep
section
variable {H : Type} {enc : TypeId × Value → H} {w : World} {r : Reach} {b0 : Nat} {v : Value} {d : DataW H} {p : List MemPlace}
set_option maxRecDepth 100000 in
theorem row_of {fuel : Nat} {v : Value} {x : DataW H × List MemPlace} (hf : DataW.trod enc Tryz.prog w 0 (fun _ => true) true fuel 41 [v] = some x) : ∃ a n cap z, v = .slice a n cap ∧ IsRow .u8 w a n cap z := by
  rcases open_ints Tryz.underlying41 Tryz.underlying5 (by kernel_rfl) hf with ⟨hcs, _⟩ | ⟨x, l, c, zs, hcs, _, hl, hm, hz, _, hcell, hwz⟩
  · simp at hcs
    exact ⟨none, 0, 0, [], hcs, .inl ⟨rfl, rfl, rfl, rfl⟩⟩
  · simp at hcs
    exact ⟨_, _, _, zs, hcs, .inr ⟨_, rfl, hl, hm, by simpa using hz, hcell, hwz⟩⟩
set_option maxRecDepth 100000 in
theorem open_bytes (hv : Value.okWide Tryz.prog w r b0 41 v) (h : DataW.Trod enc Tryz.prog w 0 (fun _ => true) true 41 v d p) : ∃ a n cap z, v = .slice a n cap ∧ IsRow .u8 w a n cap z := by
  obtain ⟨a, n, cap, rfl⟩ := okWide_slice Tryz.underlying41 hv
  obtain ⟨fuel, hf⟩ := h
  exact row_of (by simpa [Value.cells] using hf)
end
end Go.Proofs.YtlpjcfiibbcdjaaGreatDoor
