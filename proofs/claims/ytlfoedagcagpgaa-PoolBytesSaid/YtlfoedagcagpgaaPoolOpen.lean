/- pool: constants that came in. No condition. -/
import Derived.Test.YtlfoedagcagpgaaPoolFix
import Derived.Lib.SmallJoins
import Derived.OpenShut
namespace Go.Proofs.Ytlfoedagcagpgaa
open Go.ChangeShapes Go.WideShapes Go.ChangeAt Go.RowKit Go.Joins Go.Deep
theorem list_of {α : Type} (n : Nat) (P : Nat → α → Prop) (h : ∀ i, i < n → ∃ x, P i x) : ∃ L : List α, L.length = n ∧ ∀ i (hi : i < L.length), P i L[i] := by
  induction n with
  | zero => exact ⟨[], rfl, fun i hi => by simp at hi⟩
  | succ n ih =>
    obtain ⟨L, hl, hL⟩ := ih (fun i hi => h i (by omega))
    obtain ⟨x, hx⟩ := h n (by omega)
    refine ⟨L ++ [x], by simp [hl], fun i hi => ?_⟩
    by_cases hin : i < L.length
    · rw [List.getElem_append_left hin]; exact hL i hin
    · have : i = n := by simp at hi; omega
      subst this
      rw [List.getElem_append_right (by omega)]
      simpa [hl] using hx
def KWf (c : KV) : Prop := (Lit.int .i64 c.tag).wf = true ∧ (Lit.int .i64 c.a).wf = true ∧ (Lit.int .i64 c.b).wf = true ∧ (Lit.int .i64 c.n).wf = true
/-- A slice of constants that came in. -/
def IsKs (w : World) (a : Option Addr) (n cap : Nat) : Prop := n ≤ cap ∧ n ≤ maxLen ∧ ∃ L, Ks w a n L ∧ ∀ c ∈ L, KWf c
section
variable {H : Type} {enc : TypeId × Value → H} {w : World} {r : Reach} {b0 : Nat} {v : Value} {d : DataW H} {p : List MemPlace}
theorem int_ofK {k : IntKind} {t : TypeId} {fuel : Nat} {v : Value} {x : DataW H × List MemPlace} (ht : Try.prog.underlying t = some (.int k)) (hf : DataW.trod enc Try.prog w 0 (fun _ => true) true fuel t [v] = some x) : ∃ n, v = .int k n ∧ (Lit.int k n).wf = true := by
  obtain ⟨n, hcs, _, hw⟩ := DataW.trod_int ht hf
  simp at hcs
  exact ⟨n, hcs, hw⟩
theorem str_ofK {fuel : Nat} {v : Value} {x : DataW H × List MemPlace} (hf : DataW.trod enc Try.prog w 0 (fun _ => true) true fuel 9 [v] = some x) : ∃ s : List UInt8, v = .string ⟨s.toArray⟩ := by
  obtain ⟨n, hcs, _⟩ := DataW.trod_string Try.underlying9 hf
  simp at hcs
  exact ⟨n.data.toList, by rw [hcs]⟩
theorem add_twoK (b off k j : Nat) : ((⟨b, off, none⟩ : Addr).add k).add j = ⟨b, off + k + j, none⟩ := by rw [addr_add, addr_add]
theorem add_zeroK (x : Addr) (k : Nat) : (x.add (0 * k)).add 0 = x := by simp [Addr.add]
theorem cells_konst5 : Try.prog.cellsOf 28 = 5 := by kernel_rfl
theorem open_konsts (hv : Value.okWide Try.prog w r b0 22 v) (h : DataW.Trod enc Try.prog w 0 (fun _ => true) true 22 v d p) : ∃ a n cap, v = .slice a n cap ∧ IsKs w a n cap := by
  obtain ⟨a, n, cap, rfl⟩ := okWide_slice Try.underlying22 hv
  refine ⟨a, n, cap, rfl, ?_⟩
  obtain ⟨fuel, hf⟩ := h
  rcases open_slice Try.underlying22 hf with ⟨hcs, _⟩ | ⟨x, len, c, m, n', D, Pl, hcs, _, hl, hm, hmm, _, hi⟩
  · simp [Value.cells] at hcs
    obtain ⟨rfl, rfl, rfl⟩ := hcs
    exact ⟨by omega, by unfold maxLen; omega, [], Ss.nil _ _, fun c hc => by cases hc⟩
  · simp [Value.cells] at hcs
    obtain ⟨rfl, rfl, rfl⟩ := hcs
    simp only [if_true] at hmm
    subst hmm
    refine ⟨hl, by omega, ?_⟩
    by_cases hn : 0 < n
    · have hsp : x.spot = none := by
        obtain ⟨cs', hc, ht⟩ := hi 0 (by omega)
        rw [cells_konst5] at hc
        obtain ⟨_, hcl, hat⟩ := World.cells?_some hc
        match cs', hcl with
        | [c0, c1, c2, c3, c4], _ =>
          have q0 := hat 0 (by omega)
          rw [add_zeroK] at q0
          exact World.cell?_spot q0
      obtain ⟨b, off, spot⟩ := x
      simp only at hsp
      subst hsp
      have key : ∀ i, i < n → ∃ c : KV, (∀ j, j < 5 → w.cell? ⟨b, off + i * 5 + j, none⟩ = c.cells[j]?) ∧ KWf c := by
        intro i hin
        obtain ⟨cs', hc, ht⟩ := hi i (by omega)
        rw [cells_konst5] at hc
        obtain ⟨_, hcl, hat⟩ := World.cells?_some hc
        match cs', hcl with
        | [c0, c1, c2, c3, c4], _ =>
          obtain ⟨xs, k, _, _, _, hlen, hg⟩ := DataW.trod_struct Try.underlying28 ht
          match xs, hlen with
          | [y0, y1, y2, y3, y4], _ =>
            have g0 : DataW.trod enc Try.prog w 0 (fun _ => true) true k 3 [c0] = some y0 := hg 0 _ rfl
            have g1 : DataW.trod enc Try.prog w 0 (fun _ => true) true k 3 [c1] = some y1 := hg 1 _ rfl
            have g2 : DataW.trod enc Try.prog w 0 (fun _ => true) true k 3 [c2] = some y2 := hg 2 _ rfl
            have g3 : DataW.trod enc Try.prog w 0 (fun _ => true) true k 2 [c3] = some y3 := hg 3 _ rfl
            have g4 : DataW.trod enc Try.prog w 0 (fun _ => true) true k 9 [c4] = some y4 := hg 4 _ rfl
            obtain ⟨e0, rfl, w0⟩ := int_ofK Try.underlying3 g0
            obtain ⟨e1, rfl, w1⟩ := int_ofK Try.underlying3 g1
            obtain ⟨e2, rfl, w2⟩ := int_ofK Try.underlying3 g2
            obtain ⟨e3, rfl, w3⟩ := int_ofK Try.underlying2 g3
            obtain ⟨e4, rfl⟩ := str_ofK g4
            refine ⟨⟨e0, e1, e2, e3, e4⟩, fun j hj => ?_, w0, w1, w2, w3⟩
            have q := hat j (by omega)
            rw [add_twoK] at q
            exact q
      obtain ⟨L, hL, hat⟩ := list_of n _ key
      refine ⟨L, ⟨hL, fun _ => ⟨b, off, rfl, ?_, fun i hi j hj => (hat i hi).1 j hj⟩⟩, fun c hc => ?_⟩
      · have q := (hat 0 (by omega)).1 0 (by omega)
        exact World.block_lt_of_cell? w _ q
      · obtain ⟨i, hi, rfl⟩ := List.getElem_of_mem hc
        exact (hat i hi).2
    · have h0 : n = 0 := by omega
      subst h0
      exact ⟨[], Ss.nil _ _, fun c hc => by cases hc⟩
end
end Go.Proofs.Ytlfoedagcagpgaa
