/- ops: what is encoded is decoded as it was, plain. No program in sight. -/
import Derived.Test.YtfhajbfgdbcpeaaOpsPlain6
namespace Go.Proofs.Ytfhajbfgdbcpeaa
open Go.RowKit
theorem encOne_length (r : RW) (h0 : formN r.op ≠ 0) : (encOne r).length = sizeN (formN r.op) := by
  have h9 := formN_le r.op
  unfold encOne
  generalize formN r.op = f at *
  have hfc : f = 1 ∨ f = 2 ∨ f = 3 ∨ f = 4 ∨ f = 5 ∨ f = 6 ∨ f = 7 ∨ f = 8 ∨ f = 9 := by omega
  rcases hfc with rfl | rfl | rfl | rfl | rfl | rfl | rfl | rfl | rfl <;> simp [putB_length, sizeN]
theorem u64N_sign1 {x : Int} (h : -128 ≤ x ∧ x ≤ 127) : signB ((u64N x % 256 : Nat) : Int) 1 = x := by
  rw [show signB ((u64N x % 256 : Nat) : Int) 1 = (((u64N x % 256 : Nat) : Int) + 128) % 256 - 128 from rfl]
  unfold u64N; omega
theorem u64N_sign2 {x : Int} (h : -32768 ≤ x ∧ x ≤ 32767) : signB ((u64N x % 65536 : Nat) : Int) 2 = x := by
  rw [show signB ((u64N x % 65536 : Nat) : Int) 2 = (((u64N x % 65536 : Nat) : Int) + 32768) % 65536 - 32768 from rfl]
  unfold u64N; omega
theorem getN_pair (x y : Nat) : getN (putB x 1 ++ putB y 1) = x % 256 * 256 + y % 256 := by
  have h1 : putB y 1 = [UInt8.ofNat (y % 256)] := by rw [putB_succ _ 0]; simp [putB]
  rw [h1, getN_snoc, get_put]
  simp
/-- The operation and what stands behind it. -/
theorem op_rest (bs : List UInt8) (r : RW) (p : Nat) (t rest : List UInt8) (hop : r.op < 256) (he : encOne r = [UInt8.ofNat r.op] ++ rest) (hbs : bs.drop p = encOne r ++ t) : opAt bs p = r.op ∧ (bs.drop (p + 1)).take rest.length = rest ∧ p + 1 + rest.length ≤ bs.length := by
  rw [he] at hbs
  have hl : (bs.drop p).length = 1 + rest.length + t.length := by rw [hbs]; simp; omega
  have hp : p < bs.length := by rw [List.length_drop] at hl; omega
  rw [List.drop_eq_getElem_cons hp] at hbs
  simp only [List.cons_append, List.nil_append, List.cons.injEq] at hbs
  refine ⟨?_, by rw [hbs.2]; simp, by rw [List.length_drop] at hl; omega⟩
  unfold opAt
  simp only [List.getD, List.getElem?_eq_getElem hp, Option.getD_some]
  rw [hbs.1, UInt8.toNat_ofNat_of_lt' hop]
theorem RW.ext' {r s : RW} (h1 : r.pos = s.pos) (h2 : r.op = s.op) (h3 : r.a = s.a) (h4 : r.b = s.b) : r = s := by
  cases r; cases s; simp_all
/-- An instruction that fits, in its place, is read as it was. -/
theorem raw_enc (bs : List UInt8) (r : RW) (p : Nat) (t : List UInt8) (hop : r.op < 256) (hpos : r.pos = p) (h0 : formN r.op ≠ 0) (hf : fitsB r (formN r.op) = true) (hj : formN r.op = 7 → -32768 ≤ r.a - r.pos ∧ r.a - r.pos ≤ 32767) (hbs : bs.drop p = encOne r ++ t) :
    rawAt bs p = r ∧ readBad bs p (formN r.op) = false ∧ opAt bs p = r.op := by
  have h9 := formN_le r.op
  obtain ⟨rest, hrest⟩ : ∃ rest, encOne r = [UInt8.ofNat r.op] ++ rest := ⟨_, rfl⟩
  obtain ⟨h1, h2, h3⟩ := op_rest bs r p t rest hop hrest hbs
  have hlen := encOne_length r h0
  rw [hrest] at hlen
  simp only [List.length_append, List.length_cons, List.length_nil, Nat.zero_add] at hlen
  have hte := tell_eq bs p (formN r.op)
  have hr : rest = (if formN r.op = 7 then putB (u64N (r.a - r.pos)) 2 else if formN r.op = 8 then putB (u64N r.a) 1 ++ putB (u64N r.b) 1 else putB (u64N r.a) (sizeN (formN r.op) - 1)) := by
    have h := hrest
    unfold encOne at h
    simp only [List.cons_append, List.nil_append, List.cons.injEq, true_and] at h
    exact h.symm
  have hsub : sizeN (formN r.op) - 1 = rest.length := by omega
  rw [hsub, h2] at hte
  have hAB : readA bs p (formN r.op) = r.a ∧ readB bs p (formN r.op) = r.b ∧ readBad bs p (formN r.op) = false := by
    unfold readBad readA readB
    simp only
    unfold fitsB at hf
    generalize formN r.op = f at *
    have hfc : f = 1 ∨ f = 2 ∨ f = 3 ∨ f = 4 ∨ f = 5 ∨ f = 6 ∨ f = 7 ∨ f = 8 ∨ f = 9 := by omega
    by_cases h8 : f = 8
    · subst h8
      simp at hf
      have hv := hte (by decide) (by decide) (by rw [show sizeN 8 = 3 from rfl] at hlen ⊢; omega)
      rw [hr, if_neg (by decide), if_pos rfl, getN_pair] at hv
      rw [hv]
      have e1 : u64N r.a % 256 = u64N r.a := Nat.mod_eq_of_lt (by unfold u64N; omega)
      have e2 := u64N_sign1 (x := r.b) (by omega)
      have e3 : ((u64N r.a : Nat) : Int) = r.a := by unfold u64N; omega
      have e4 : signB ((u64N r.a % 256 * 256 + u64N r.b % 256 : Nat) : Int) 1 = signB ((u64N r.b % 256 : Nat) : Int) 1 := by
        rw [show ∀ v, signB v 1 = (v + 128) % 256 - 128 from fun v => rfl, show ∀ v, signB v 1 = (v + 128) % 256 - 128 from fun v => rfl]
        omega
      refine ⟨?_, ?_, by simp⟩
      · simp
        omega
      · rw [if_pos rfl, e4, e2]
    · rcases hfc with rfl | rfl | rfl | rfl | rfl | rfl | rfl | rfl | rfl
      · simp at hf
        simp; omega
      · simp at hf
        have hv := hte (by decide) (by decide) (by rw [show sizeN 2 = 2 from rfl] at hlen ⊢; omega)
        rw [hr, if_neg (by decide), if_neg (by decide), get_put] at hv
        rw [hv]
        simp [sizeN, u64N]; omega
      · simp at hf
        have hv := hte (by decide) (by decide) (by rw [show sizeN 3 = 2 from rfl] at hlen ⊢; omega)
        rw [hr, if_neg (by decide), if_neg (by decide), get_put] at hv
        rw [hv]
        have e2 := u64N_sign1 (x := r.a) (by omega)
        refine ⟨?_, by simp; omega, by simp⟩
        simpa [sizeN] using e2
      · simp at hf
        have hv := hte (by decide) (by decide) (by rw [show sizeN 4 = 3 from rfl] at hlen ⊢; omega)
        rw [hr, if_neg (by decide), if_neg (by decide), get_put] at hv
        rw [hv]
        have e2 := u64N_sign2 (x := r.a) (by omega)
        refine ⟨?_, by simp; omega, by simp⟩
        simpa [sizeN] using e2
      · simp at hf
        have hv := hte (by decide) (by decide) (by rw [show sizeN 5 = 2 from rfl] at hlen ⊢; omega)
        rw [hr, if_neg (by decide), if_neg (by decide), get_put] at hv
        rw [hv]
        simp [sizeN, u64N]; omega
      · simp at hf
        have hv := hte (by decide) (by decide) (by rw [show sizeN 6 = 3 from rfl] at hlen ⊢; omega)
        rw [hr, if_neg (by decide), if_neg (by decide), get_put] at hv
        rw [hv]
        simp [sizeN, u64N]; omega
      · simp at hf
        have hv := hte (by decide) (by decide) (by rw [show sizeN 7 = 3 from rfl] at hlen ⊢; omega)
        rw [hr, if_pos rfl, get_put] at hv
        rw [hv]
        have e2 := u64N_sign2 (x := r.a - r.pos) (hj rfl)
        refine ⟨?_, by simp; omega, by simp⟩
        have e3 : signB ((u64N (r.a - r.pos) % 256 ^ 2 : Nat) : Int) 2 = r.a - r.pos := e2
        simp only [if_true]
        rw [e3]
        simp; omega
      · exact absurd rfl h8
      · simp at hf
        have hv := hte (by decide) (by decide) (by rw [show sizeN 9 = 2 from rfl] at hlen ⊢; omega)
        rw [hr, if_neg (by decide), if_neg (by decide), get_put] at hv
        rw [hv]
        have e3 : ((u64N r.a % 256 ^ (sizeN 9 - 1) : Nat) : Int) = r.a := by
          rw [show 256 ^ (sizeN 9 - 1) = 256 from rfl]
          unfold u64N
          omega
        rw [e3]
        refine ⟨by simp, by simp; omega, ?_⟩
        rcases hf.2 with h | h <;> simp [h]
  exact ⟨by unfold rawAt; rw [h1, hAB.1, hAB.2.1, ← hpos], hAB.2.2, h1⟩
end Go.Proofs.Ytfhajbfgdbcpeaa
