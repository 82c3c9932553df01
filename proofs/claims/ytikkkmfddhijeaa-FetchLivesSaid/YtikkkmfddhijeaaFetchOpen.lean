/- Jobs and replies that came in. No condition. -/
import Derived.Test.YtikkkmfddhijeaaFetchFn
import Derived.Lib.SmallJoins
import Derived.OpenShut
namespace Go.Proofs.Ytikkkmfddhijeaa
open Go.ChangeShapes Go.WideShapes Go.ChangeAt Go.RowKit Go.Joins
section
variable {H : Type} {enc : TypeId × Value → H} {w : World} {r : Reach} {b0 : Nat} {v : Value} {d : DataW H} {p : List MemPlace}
theorem row_of {fuel : Nat} {v : Value} {x : DataW H × List MemPlace} (hf : DataW.trod enc Try.prog w 0 (fun _ => true) true fuel 22 [v] = some x) : ∃ a n cap z, v = .slice a n cap ∧ IsRow .u8 w a n cap z := by
  rcases open_ints Try.underlying22 Try.underlying5 (by kernel_rfl) hf with ⟨hcs, _⟩ | ⟨x, l, c, zs, hcs, _, hl, hm, hz, _, hcell, hwz⟩
  · simp at hcs
    exact ⟨none, 0, 0, [], hcs, .inl ⟨rfl, rfl, rfl, rfl⟩⟩
  · simp at hcs
    exact ⟨_, _, _, zs, hcs, .inr ⟨_, rfl, hl, hm, by simpa using hz, hcell, hwz⟩⟩
theorem int_of {k : IntKind} {t : TypeId} {fuel : Nat} {v : Value} {x : DataW H × List MemPlace} (ht : Try.prog.underlying t = some (.int k)) (hf : DataW.trod enc Try.prog w 0 (fun _ => true) true fuel t [v] = some x) : ∃ n, v = .int k n ∧ (Lit.int k n).wf = true := by
  obtain ⟨n, hcs, _, hw⟩ := DataW.trod_int ht hf
  simp at hcs
  exact ⟨n, hcs, hw⟩
theorem open_job (hv : Value.okWide Try.prog w r b0 24 v) (h : DataW.Trod enc Try.prog w 0 (fun _ => true) true 24 v d p) :
    ∃ s c a n cap z, v = .agg #[.int .i64 s, .int .i64 c, .slice a n cap] ∧ (Lit.int .i64 s).wf = true ∧ (Lit.int .i64 c).wf = true ∧ IsRow .u8 w a n cap z := by
  obtain ⟨v0, v1, v2, y0, y1, y2, n, rfl, _, _, h0, h1, h2⟩ := open_agg3 Try.underlying24 (by kernel_rfl) (by kernel_rfl) hv h
  obtain ⟨s, rfl, hs⟩ := int_of Try.underlying3 h0
  obtain ⟨c, rfl, hc⟩ := int_of Try.underlying3 h1
  obtain ⟨a, n, cap, z, rfl, hr⟩ := row_of h2
  exact ⟨s, c, a, n, cap, z, rfl, hs, hc, hr⟩
theorem open_reply (hv : Value.okWide Try.prog w r b0 27 v) (h : DataW.Trod enc Try.prog w 0 (fun _ => true) true 27 v d p) :
    ∃ f a n cap z sum, v = .agg #[.int .i64 f, .slice a n cap, .int .u32 sum] ∧ (Lit.int .i64 f).wf = true ∧ IsRow .u8 w a n cap z ∧ (Lit.int .u32 sum).wf = true := by
  obtain ⟨v0, v1, v2, y0, y1, y2, n, rfl, _, _, h0, h1, h2⟩ := open_agg3 Try.underlying27 (by kernel_rfl) (by kernel_rfl) hv h
  obtain ⟨f, rfl, hs⟩ := int_of Try.underlying3 h0
  obtain ⟨sum, rfl, hc⟩ := int_of Try.underlying25 h2
  obtain ⟨a, n, cap, z, rfl, hr⟩ := row_of h1
  exact ⟨f, a, n, cap, z, sum, rfl, hs, hr, hc⟩
end
end Go.Proofs.Ytikkkmfddhijeaa
