/- slices of slices of bytes that came in. No condition. -/
import Derived.Test.YtbcldlbmbdfejaaBytesOpen
import Derived.Test.YtbcldlbmbdfejaaSs
namespace Go.Proofs.Ytbcldlbmbdfejaa
open Go.ChangeShapes Go.WideShapes Go.ChangeAt Go.RowKit Go.Joins Go.Deep
/-- A slice of bytes that lies in a row. -/
structure BV where
  da : Option Addr
  dn : Nat
  dc : Nat
  data : List UInt8
def BV.enc (f : BV) : Value := .slice f.da f.dn f.dc
def BVf (w : World) (f : BV) : Prop := Sl encB w f.da f.dn f.data ∧ f.dn ≤ f.dc ∧ f.dn ≤ maxLen
theorem BVf.below {w w' : World} {f : BV} (h : BVf w f) (hb : Below w.heap.size w w') : BVf w' f := ⟨h.1.below hb, h.2⟩
/-- A slice of slices of bytes that came in. -/
def IsBss (w : World) (a : Option Addr) (n cap : Nat) : Prop := n ≤ cap ∧ n ≤ maxLen ∧ ∃ F : List BV, Sl BV.enc w a n F ∧ ∀ f ∈ F, BVf w f
theorem list_ofB {α : Type} (n : Nat) (P : Nat → α → Prop) (h : ∀ i, i < n → ∃ x, P i x) : ∃ L : List α, L.length = n ∧ ∀ i (hi : i < L.length), P i L[i] := by
  induction n with
  | zero => exact ⟨[], rfl, fun i hi => by simp at hi⟩
  | succ n ih =>
    obtain ⟨L, hl, hL⟩ := ih (fun i hi => h i (by omega))
    obtain ⟨x, hx⟩ := h n (by omega)
    refine ⟨L ++ [x], by simp [hl], fun i hi => ?_⟩
    by_cases hin : i < L.length
    · rw [List.getElem_append_left hin]; exact hL i hin
    · have : i = n := by simp at hi; omega
      subst this
      rw [List.getElem_append_right (by omega)]
      simpa [hl] using hx
section
variable {H : Type} {enc : TypeId × Value → H} {w : World} {r : Reach} {b0 : Nat} {v : Value} {d : DataW H} {p : List MemPlace}
theorem cells_bs : Try.prog.cellsOf 35 = 1 := by kernel_rfl
set_option maxRecDepth 100000 in
theorem open_bss (hv : Value.okWide Try.prog w r b0 31 v) (h : DataW.Trod enc Try.prog w 0 (fun _ => true) true 31 v d p) : ∃ a n cap, v = .slice a n cap ∧ IsBss w a n cap := by
  obtain ⟨a, n, cap, rfl⟩ := okWide_slice Try.underlying31 hv
  refine ⟨a, n, cap, rfl, ?_⟩
  obtain ⟨fuel, hf⟩ := h
  rcases open_slice Try.underlying31 hf with ⟨hcs, _⟩ | ⟨x, len, c, m, n', D, Pl, hcs, _, hl, hm, hmm, _, hi⟩
  · simp [Value.cells] at hcs
    obtain ⟨rfl, rfl, rfl⟩ := hcs
    exact ⟨by omega, by unfold maxLen; omega, [], Sl.nil _ _, fun c hc => by cases hc⟩
  · simp [Value.cells] at hcs
    obtain ⟨rfl, rfl, rfl⟩ := hcs
    simp only [if_true] at hmm
    subst hmm
    refine ⟨hl, by omega, ?_⟩
    by_cases hn : 0 < n
    · have hsp : x.spot = none := by
        obtain ⟨cs', hc, ht⟩ := hi 0 (by omega)
        rw [cells_bs] at hc
        obtain ⟨_, hcl, hat⟩ := World.cells?_some hc
        match cs', hcl with
        | [c0], _ =>
          have q0 := hat 0 (by omega)
          have e : (x.add (0 * 1)).add 0 = x := by simp [Addr.add]
          rw [e] at q0
          exact World.cell?_spot q0
      obtain ⟨b, off, spot⟩ := x
      simp only at hsp
      subst hsp
      have key : ∀ i, i < n → ∃ c : BV, w.cell? ⟨b, off + i, none⟩ = some c.enc ∧ BVf w c := by
        intro i hin
        obtain ⟨cs', hc, ht⟩ := hi i (by omega)
        rw [cells_bs] at hc
        obtain ⟨_, hcl, hat⟩ := World.cells?_some hc
        match cs', hcl with
        | [c0], _ =>
          obtain ⟨ad, m, cm, z, rfl, hr⟩ := row_of ht
          have hcap := Row.cap hr
          obtain ⟨ds, hds, hml⟩ := Bs.ofRow hr
          refine ⟨⟨ad, m, cm, ds⟩, ?_, hds.sl, hcap, hml⟩
          have q := hat 0 (by omega)
          rw [addr_add, addr_add] at q
          simpa [BV.enc] using q
      obtain ⟨L, hL, hat⟩ := list_ofB n _ key
      refine ⟨L, ⟨hL, fun _ => ⟨b, off, rfl, ?_, fun i hi => (hat i hi).1⟩⟩, fun c hc => ?_⟩
      · have q := (hat 0 (by omega)).1
        exact World.block_lt_of_cell? w _ q
      · obtain ⟨i, hi, rfl⟩ := List.getElem_of_mem hc
        exact (hat i hi).2
    · have h0 : n = 0 := by omega
      subst h0
      exact ⟨[], Sl.nil _ _, fun c hc => by cases hc⟩
end
end Go.Proofs.Ytbcldlbmbdfejaa
