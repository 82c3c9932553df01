/- Tears and geometries that came in. No condition. -/
import Derived.Test.YtdnnodpchjnleaaNorLaw
import Derived.Lib.SmallJoins
import Derived.OpenShut
namespace Go.Proofs.Ytdnnodpchjnleaa
open Go.ChangeShapes Go.WideShapes Go.ChangeAt Go.RowKit Go.Joins
section
variable {H : Type} {enc : TypeId × Value → H} {w : World} {r : Reach} {b0 : Nat} {v : Value} {d : DataW H} {p : List MemPlace}
theorem int_of {k : IntKind} {t : TypeId} {fuel : Nat} {v : Value} {x : DataW H × List MemPlace} (ht : Try.prog.underlying t = some (.int k)) (hf : DataW.trod enc Try.prog w 0 (fun _ => true) true fuel t [v] = some x) : ∃ n, v = .int k n ∧ (Lit.int k n).wf = true := by
  obtain ⟨n, hcs, _, hw⟩ := DataW.trod_int ht hf
  simp at hcs
  exact ⟨n, hcs, hw⟩
theorem row_of {fuel : Nat} {v : Value} {x : DataW H × List MemPlace} (hf : DataW.trod enc Try.prog w 0 (fun _ => true) true fuel 23 [v] = some x) : ∃ a n cap z, v = .slice a n cap ∧ IsRow .u8 w a n cap z := by
  rcases open_ints Try.underlying23 Try.underlying5 (by kernel_rfl) hf with ⟨hcs, _⟩ | ⟨x, l, c, zs, hcs, _, hl, hm, hz, _, hcell, hwz⟩
  · simp at hcs
    exact ⟨none, 0, 0, [], hcs, .inl ⟨rfl, rfl, rfl, rfl⟩⟩
  · simp at hcs
    exact ⟨_, _, _, zs, hcs, .inr ⟨_, rfl, hl, hm, by simpa using hz, hcell, hwz⟩⟩
theorem open_bytes (hv : Value.okWide Try.prog w r b0 23 v) (h : DataW.Trod enc Try.prog w 0 (fun _ => true) true 23 v d p) : ∃ a n cap z, v = .slice a n cap ∧ IsRow .u8 w a n cap z := by
  obtain ⟨a, n, cap, rfl⟩ := okWide_slice Try.underlying23 hv
  obtain ⟨fuel, hf⟩ := h
  exact row_of (by simpa [Value.cells] using hf)
theorem open_tear (hv : Value.okWide Try.prog w r b0 40 v) (h : DataW.Trod enc Try.prog w 0 (fun _ => true) true 40 v d p) :
    ∃ (keep : Int) (m : UInt8), v = .agg #[.int .i64 keep, .int .u8 (m.toNat : Int)] ∧ (Lit.int .i64 keep).wf = true := by
  obtain ⟨v0, v1, y0, y1, n, rfl, _, _, h0, h1⟩ := open_agg2 Try.underlying40 (by kernel_rfl) (by kernel_rfl) hv h
  obtain ⟨s, rfl, hs⟩ := int_of Try.underlying3 h0
  obtain ⟨c, rfl, hc⟩ := int_of Try.underlying5 h1
  exact ⟨s, _, by rw [u8_of_int hc], hs⟩
theorem open_geo (hv : Value.okWide Try.prog w r b0 43 v) (h : DataW.Trod enc Try.prog w 0 (fun _ => true) true 43 v d p) :
    ∃ (s z l : Int), v = .agg #[.int .i64 s, .int .i64 z, .int .i64 l] ∧ (Lit.int .i64 s).wf = true ∧ (Lit.int .i64 z).wf = true ∧ (Lit.int .i64 l).wf = true := by
  obtain ⟨v0, v1, v2, y0, y1, y2, n, rfl, _, _, h0, h1, h2⟩ := open_agg3 Try.underlying43 (by kernel_rfl) (by kernel_rfl) hv h
  obtain ⟨s, rfl, hs⟩ := int_of Try.underlying3 h0
  obtain ⟨z, rfl, hz⟩ := int_of Try.underlying3 h1
  obtain ⟨l, rfl, hl⟩ := int_of Try.underlying3 h2
  exact ⟨s, z, l, rfl, hs, hz, hl⟩
end
end Go.Proofs.Ytdnnodpchjnleaa
