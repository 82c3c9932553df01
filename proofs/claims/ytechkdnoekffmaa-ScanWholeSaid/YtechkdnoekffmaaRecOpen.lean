/- A record that came in. No condition. -/
import Derived.Test.YtechkdnoekffmaaLib
import Derived.Lib.SmallJoins
import Derived.OpenShut
namespace Go.Proofs.Ytechkdnoekffmaa
open Go.ChangeShapes Go.WideShapes Go.ChangeAt Go.RowKit Go.Joins Go.Deep
section
variable {H : Type} {enc : TypeId × Value → H} {w : World} {r : Reach} {b0 : Nat} {v : Value} {d : DataW H} {p : List MemPlace}
theorem row_of {fuel : Nat} {v : Value} {x : DataW H × List MemPlace} (hf : DataW.trod enc Try.prog w 0 (fun _ => true) true fuel 24 [v] = some x) : ∃ a n cap z, v = .slice a n cap ∧ IsRow .u8 w a n cap z := by
  rcases open_ints Try.underlying24 Try.underlying5 (by kernel_rfl) hf with ⟨hcs, _⟩ | ⟨x, l, c, zs, hcs, _, hl, hm, hz, _, hcell, hwz⟩
  · simp at hcs
    exact ⟨none, 0, 0, [], hcs, .inl ⟨rfl, rfl, rfl, rfl⟩⟩
  · simp at hcs
    exact ⟨_, _, _, zs, hcs, .inr ⟨_, rfl, hl, hm, by simpa using hz, hcell, hwz⟩⟩
theorem int_of {k : IntKind} {t : TypeId} {fuel : Nat} {v : Value} {x : DataW H × List MemPlace} (ht : Try.prog.underlying t = some (.int k)) (hf : DataW.trod enc Try.prog w 0 (fun _ => true) true fuel t [v] = some x) : ∃ n, v = .int k n ∧ (Lit.int k n).wf = true := by
  obtain ⟨n, hcs, _, hw⟩ := DataW.trod_int ht hf
  simp at hcs
  exact ⟨n, hcs, hw⟩
theorem str_of {t : TypeId} {fuel : Nat} {v : Value} {x : DataW H × List MemPlace} (ht : Try.prog.underlying t = some .string) (hf : DataW.trod enc Try.prog w 0 (fun _ => true) true fuel t [v] = some x) : ∃ s : ByteArray, v = .string s ∧ s.size ≤ maxLen := by
  obtain ⟨s, hcs, _, hw⟩ := DataW.trod_string ht hf
  simp at hcs
  exact ⟨s, hcs, hw⟩
theorem open_bytes (hv : Value.okWide Try.prog w r b0 24 v) (h : DataW.Trod enc Try.prog w 0 (fun _ => true) true 24 v d p) : ∃ a n cap z, v = .slice a n cap ∧ IsRow .u8 w a n cap z := by
  obtain ⟨a, n, cap, rfl⟩ := okWide_slice Try.underlying24 hv
  obtain ⟨fuel, hf⟩ := h
  exact row_of (by simpa [Value.cells] using hf)
theorem array5' {α : Type} {cs : Array α} (h : cs.size = 5) : ∃ c0 c1 c2 c3 c4, cs = #[c0, c1, c2, c3, c4] := by
  obtain ⟨l⟩ := cs
  match l, h with
  | [c0, c1, c2, c3, c4], _ => exact ⟨c0, c1, c2, c3, c4, rfl⟩
theorem open_rec (hv : Value.okWide Try.prog w r b0 28 v) (h : DataW.Trod enc Try.prog w 0 (fun _ => true) true 28 v d p) :
    ∃ k t ks a n cap z c, v = .agg #[.int .i64 k, .int .u32 t, .string ks, .slice a n cap, .int .i64 c] ∧ (Lit.int .i64 k).wf = true ∧ (Lit.int .u32 t).wf = true ∧ ks.size ≤ maxLen ∧ IsRow .u8 w a n cap z ∧ (Lit.int .i64 c).wf = true := by
  obtain ⟨cs, rfl, hsz⟩ := okWide_struct Try.underlying28 hv
  obtain ⟨c0, c1, c2, c3, c4, rfl⟩ := array5' (hsz.trans (show Try.prog.cellsOf 28 = 5 by kernel_rfl))
  obtain ⟨fuel, hf⟩ := h
  obtain ⟨xs, m, _, _, _, hlen, hg⟩ := DataW.trod_struct Try.underlying28 hf
  match xs, hlen with
  | [y0, y1, y2, y3, y4], _ =>
    have g0 : DataW.trod enc Try.prog w 0 (fun _ => true) true m 3 [c0] = some y0 := hg 0 _ rfl
    have g1 : DataW.trod enc Try.prog w 0 (fun _ => true) true m 26 [c1] = some y1 := hg 1 _ rfl
    have g2 : DataW.trod enc Try.prog w 0 (fun _ => true) true m 9 [c2] = some y2 := hg 2 _ rfl
    have g3 : DataW.trod enc Try.prog w 0 (fun _ => true) true m 24 [c3] = some y3 := hg 3 _ rfl
    have g4 : DataW.trod enc Try.prog w 0 (fun _ => true) true m 3 [c4] = some y4 := hg 4 _ rfl
    obtain ⟨k, rfl, hk⟩ := int_of Try.underlying3 g0
    obtain ⟨t, rfl, ht⟩ := int_of Try.underlying26 g1
    obtain ⟨ks, rfl, hks⟩ := str_of Try.underlying9 g2
    obtain ⟨a, n, cap, z, rfl, hr⟩ := row_of g3
    obtain ⟨c, rfl, hc⟩ := int_of Try.underlying3 g4
    exact ⟨k, t, ks, a, n, cap, z, c, rfl, hk, ht, hks, hr, hc⟩
end
end Go.Proofs.Ytechkdnoekffmaa
