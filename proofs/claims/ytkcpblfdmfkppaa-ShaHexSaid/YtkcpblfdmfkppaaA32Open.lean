/- arrays of 32 bytes that came in. No condition. -/
import Derived.Test.YtkcpblfdmfkppaaBytesOpen
namespace Go.Proofs.Ytkcpblfdmfkppaa
open Go.ChangeShapes Go.WideShapes Go.ChangeAt Go.RowKit Go.Joins Go.Deep
/-- An array of 32 bytes. -/
def IsA32 (A : Array Value) : Prop := ∃ bs : List UInt8, bs.length = 32 ∧ A = (bs.map encB).toArray
theorem list_of32 {α : Type} (n : Nat) (P : Nat → α → Prop) (h : ∀ i, i < n → ∃ x, P i x) : ∃ L : List α, L.length = n ∧ ∀ i (hi : i < L.length), P i L[i] := by
  induction n with
  | zero => exact ⟨[], rfl, fun i hi => by simp at hi⟩
  | succ n ih =>
    obtain ⟨L, hl, hL⟩ := ih (fun i hi => h i (by omega))
    obtain ⟨x, hx⟩ := h n (by omega)
    refine ⟨L ++ [x], by simp [hl], fun i hi => ?_⟩
    by_cases hin : i < L.length
    · rw [List.getElem_append_left hin]; exact hL i hin
    · have : i = n := by simp at hi; omega
      subst this
      rw [List.getElem_append_right (by omega)]
      simpa [hl] using hx
section
variable {H : Type} {enc : TypeId × Value → H} {w : World} {r : Reach} {b0 : Nat} {v : Value} {d : DataW H} {p : List MemPlace}
theorem open_a32 (hv : Value.okWide Try.prog w r b0 24 v) (h : DataW.Trod enc Try.prog w 0 (fun _ => true) true 24 v d p) : ∃ A, v = .agg A ∧ IsA32 A := by
  have hu := Try.underlying24
  simp only [Value.okWide, hu] at hv
  obtain ⟨A, rfl, _, _⟩ := hv
  refine ⟨A, rfl, ?_⟩
  obtain ⟨fuel, hf⟩ := h
  obtain ⟨xs, m, _, _, hcl, hl, hg⟩ := DataW.trod_array hu hf
  have hc1 : Try.prog.cellsOf 5 = 1 := by kernel_rfl
  have hc32 : Try.prog.cellsOf 24 = 32 := by kernel_rfl
  have hsz : A.toList.length = 32 := by rw [← hc32, ← hcl]; rfl
  obtain ⟨L, hL, hat⟩ := list_of32 32 (fun i (x : UInt8) => A[i]? = some (encB x)) (fun i hi => by
    have h1 := hg i hi
    rw [hc1, Nat.mul_one, List.getElem?_eq_getElem (by omega)] at h1
    have hi2 : i < A.toList.length := by omega
    have e : (List.drop i (Value.agg A).cells.toList).take 1 = [A.toList[i]] := by
      show (List.drop i A.toList).take 1 = _
      rw [List.drop_eq_getElem_cons hi2]
      rfl
    rw [e] at h1
    obtain ⟨a, ea, _, wa⟩ := DataW.trod_int Try.underlying5 h1
    refine ⟨UInt8.ofNat a.toNat, ?_⟩
    have hb : 0 ≤ a ∧ a < 256 := by
      simp [Lit.wf, IntKind.min, IntKind.max, IntKind.signed, IntKind.bits] at wa
      omega
    rw [← encB_of hb.1 hb.2]
    have e2 : A[i]? = some A.toList[i] := by
      rw [← Array.getElem?_toList, List.getElem?_eq_getElem hi2]
    rw [e2]
    simpa using ea)
  refine ⟨L, hL, ?_⟩
  apply Array.ext
  · simp [hL]
    simpa using hsz
  · intro i h1 h2
    have h3 := hat i (by simpa using h2)
    rw [Array.getElem?_eq_getElem h1] at h3
    simpa using h3
end
end Go.Proofs.Ytkcpblfdmfkppaa
