/- image: instructions that came in. No condition. -/
import Derived.Test.YtbcldlbmbdfejaaImgLaw2
import Derived.Lib.SmallJoins
import Derived.OpenShut
namespace Go.Proofs.Ytbcldlbmbdfejaa
open Go.ChangeShapes Go.WideShapes Go.ChangeAt Go.RowKit Go.Joins Go.Deep
/-- A slice of instructions that came in. -/
def IsLs (w : World) (a : Option Addr) (n cap : Nat) : Prop := n ≤ cap ∧ n ≤ maxLen ∧ ∃ L, Ls w a n L ∧ ∀ r ∈ L, r.right
section
variable {H : Type} {enc : TypeId × Value → H} {w : World} {r : Reach} {b0 : Nat} {v : Value} {d : DataW H} {p : List MemPlace}
theorem int_ofL {k : IntKind} {t : TypeId} {fuel : Nat} {v : Value} {x : DataW H × List MemPlace} (ht : Try.prog.underlying t = some (.int k)) (hf : DataW.trod enc Try.prog w 0 (fun _ => true) true fuel t [v] = some x) : ∃ n, v = .int k n ∧ (Lit.int k n).wf = true := by
  obtain ⟨n, hcs, _, hw⟩ := DataW.trod_int ht hf
  simp at hcs
  exact ⟨n, hcs, hw⟩
theorem add_twoL (b off k j : Nat) : ((⟨b, off, none⟩ : Addr).add k).add j = ⟨b, off + k + j, none⟩ := by rw [addr_add, addr_add]
theorem add_zeroL (x : Addr) (k : Nat) : (x.add (0 * k)).add 0 = x := by simp [Addr.add]
theorem cells_link4 : Try.prog.cellsOf 54 = 4 := by kernel_rfl
theorem wf_u8L {n : Int} (h : (Lit.int .u8 n).wf = true) : ∃ k : Nat, n = k ∧ k < 256 := by
  unfold Lit.wf at h
  simp only [Bool.and_eq_true, decide_eq_true_eq] at h
  have h1 : 0 ≤ n := h.1
  have h2 : n ≤ 255 := h.2
  exact ⟨n.toNat, by omega, by omega⟩
theorem wf_i64L {n : Int} (h : (Lit.int .i64 n).wf = true) : IntR n := bounds_i64 h
set_option maxRecDepth 100000 in
theorem open_links (hv : Value.okWide Try.prog w r b0 47 v) (h : DataW.Trod enc Try.prog w 0 (fun _ => true) true 47 v d p) : ∃ a n cap, v = .slice a n cap ∧ IsLs w a n cap := by
  obtain ⟨a, n, cap, rfl⟩ := okWide_slice Try.underlying47 hv
  refine ⟨a, n, cap, rfl, ?_⟩
  obtain ⟨fuel, hf⟩ := h
  rcases open_slice Try.underlying47 hf with ⟨hcs, _⟩ | ⟨x, len, c, m, n', D, Pl, hcs, _, hl, hm, hmm, _, hi⟩
  · simp [Value.cells] at hcs
    obtain ⟨rfl, rfl, rfl⟩ := hcs
    exact ⟨by omega, by unfold maxLen; omega, [], Ss.nil _ _, fun c hc => by cases hc⟩
  · simp [Value.cells] at hcs
    obtain ⟨rfl, rfl, rfl⟩ := hcs
    simp only [if_true] at hmm
    subst hmm
    refine ⟨hl, by omega, ?_⟩
    by_cases hn : 0 < n
    · have hsp : x.spot = none := by
        obtain ⟨cs', hc, ht⟩ := hi 0 (by omega)
        rw [cells_link4] at hc
        obtain ⟨_, hcl, hat⟩ := World.cells?_some hc
        match cs', hcl with
        | [c0, c1, c2, c3], _ =>
          have q0 := hat 0 (by omega)
          rw [add_zeroL] at q0
          exact World.cell?_spot q0
      obtain ⟨b, off, spot⟩ := x
      simp only at hsp
      subst hsp
      have key : ∀ i, i < n → ∃ c : LK, (∀ j, j < 4 → w.cell? ⟨b, off + i * 4 + j, none⟩ = c.cells[j]?) ∧ c.right := by
        intro i hin
        obtain ⟨cs', hc, ht⟩ := hi i (by omega)
        rw [cells_link4] at hc
        obtain ⟨_, hcl, hat⟩ := World.cells?_some hc
        match cs', hcl with
        | [c0, c1, c2, c3], _ =>
          obtain ⟨xs, k, _, _, _, hlen, hg⟩ := DataW.trod_struct Try.underlying54 ht
          match xs, hlen with
          | [y0, y1, y2, y3], _ =>
            have g0 : DataW.trod enc Try.prog w 0 (fun _ => true) true k 5 [c0] = some y0 := hg 0 _ rfl
            have g1 : DataW.trod enc Try.prog w 0 (fun _ => true) true k 3 [c1] = some y1 := hg 1 _ rfl
            have g2 : DataW.trod enc Try.prog w 0 (fun _ => true) true k 3 [c2] = some y2 := hg 2 _ rfl
            have g3 : DataW.trod enc Try.prog w 0 (fun _ => true) true k 2 [c3] = some y3 := hg 3 _ rfl
            obtain ⟨e0, rfl, w0⟩ := int_ofL Try.underlying5 g0
            obtain ⟨e1, rfl, w1⟩ := int_ofL Try.underlying3 g1
            obtain ⟨e2, rfl, w2⟩ := int_ofL Try.underlying3 g2
            obtain ⟨e3, rfl, w3⟩ := int_ofL Try.underlying2 g3
            obtain ⟨m, rfl, hm⟩ := wf_u8L w0
            refine ⟨⟨m, e1, e2, e3⟩, fun j hj => ?_, hm, wf_i64L w1, wf_i64L w2, wf_i64L w3⟩
            have q := hat j (by omega)
            rw [add_twoL] at q
            exact q
      obtain ⟨L, hL, hat⟩ := list_ofB n _ key
      refine ⟨L, ⟨hL, fun _ => ⟨b, off, rfl, ?_, fun i hi j hj => (hat i hi).1 j hj⟩⟩, fun c hc => ?_⟩
      · have q := (hat 0 (by omega)).1 0 (by omega)
        exact World.block_lt_of_cell? w _ q
      · obtain ⟨i, hi, rfl⟩ := List.getElem_of_mem hc
        exact (hat i hi).2
    · have h0 : n = 0 := by omega
      subst h0
      exact ⟨[], Ss.nil _ _, fun c hc => by cases hc⟩
end
end Go.Proofs.Ytbcldlbmbdfejaa
