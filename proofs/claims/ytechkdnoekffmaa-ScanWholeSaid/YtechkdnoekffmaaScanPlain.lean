/- scan: what whole records tell, in plain words. No condition. -/
import Derived.Test.YtechkdnoekffmaaScanMem
namespace Go.Proofs.Ytechkdnoekffmaa
open Go.ChangeShapes Go.WideShapes Go.ChangeAt Go.RowKit
/-- A record's fields. -/
structure RV where
  u : UInt8
  t : Nat
  kb : List UInt8
  bs : List UInt8
  c : Nat
def RV.bytes (r : RV) : List UInt8 := recB r.u r.t r.kb r.bs r.c ++ [0]
def RV.len (r : RV) : Nat := 11 + r.kb.length + r.bs.length + 5
theorem RV.bytes_length (r : RV) : r.bytes.length = r.len := by unfold RV.bytes RV.len; rw [List.length_append, recB_length]; simp; omega
def RV.ok (r : RV) : Prop := recOk r.u.toNat r.t r.kb.length r.bs.length r.c = true ∧ r.t < 4294967296
def total : List RV → Nat
  | [] => 0
  | r :: R => r.len + total R
theorem total_append (R S : List RV) : total (R ++ S) = total R + total S := by
  induction R with
  | nil => simp [total]
  | cons r R ih => simp [total, ih]; omega
theorem total_flat (R : List RV) : (R.flatMap RV.bytes).length = total R := by
  induction R with
  | nil => rfl
  | cons r R ih => rw [List.flatMap_cons, List.length_append, ih, RV.bytes_length]; rfl
/-- A found record tells a record that stands at p. -/
def RV.told (p : Nat) (r : RV) (f : FV) : Prop := f.pos = p ∧ f.kd = r.u.toNat ∧ f.tx = r.t ∧ f.kb = r.kb ∧ f.ct = r.c ∧ f.bb = r.bs
def Tells : Nat → List RV → List FV → Prop
  | _, [], [] => True
  | p, r :: R, f :: F => r.told p f ∧ Tells (p + r.len) R F
  | _, _, _ => False
theorem Tells.snoc {p : Nat} {R : List RV} {F : List FV} {r : RV} {f : FV} (h : Tells p R F) (hf : r.told (p + total R) f) : Tells p (R ++ [r]) (F ++ [f]) := by
  induction R generalizing p F with
  | nil =>
    cases F with
    | nil => exact ⟨by simpa [total] using hf, trivial⟩
    | cons g F => exact h.elim
  | cons q R ih =>
    cases F with
    | nil => exact h.elim
    | cons g F => exact ⟨h.1, ih h.2 (by rw [show p + q.len + total R = p + total (q :: R) by simp [total]; omega]; exact hf)⟩
theorem Tells.same {p : Nat} {R : List RV} {F G : List FV} (h : Tells p R F) (h' : Tells p R G) : ∀ (j : Nat) f g, F[j]? = some f → G[j]? = some g → f.same g := by
  induction R generalizing p F G with
  | nil =>
    cases F with
    | nil => intro j f g hf; simp at hf
    | cons _ _ => exact h.elim
  | cons r R ih =>
    cases F with
    | nil => exact h.elim
    | cons f F =>
      cases G with
      | nil => exact h'.elim
      | cons g G =>
        intro j x y hx hy
        cases j with
        | zero =>
          simp at hx hy
          subst hx hy
          obtain ⟨⟨a1, a2, a3, a4, a5, a6⟩, _⟩ := h
          obtain ⟨⟨b1, b2, b3, b4, b5, b6⟩, _⟩ := h'
          exact ⟨a1.trans b1.symm, a2.trans b2.symm, a3.trans b3.symm, a4.trans b4.symm, a5.trans b5.symm, a6.trans b6.symm⟩
        | succ j => exact ih h.2 h'.2 j x y (by simpa using hx) (by simpa using hy)
theorem take_total (R : List RV) (j : Nat) (hj : j < R.length) : total (R.take (j + 1)) = total (R.take j) + (R[j]).len := by
  rw [List.take_add_one, total_append, List.getElem?_eq_getElem hj]; simp [total]
/-- A header, whole records, and bytes 255. -/
def sectorB (hd : List UInt8) (R : List RV) (m : Nat) : List UInt8 := hd ++ R.flatMap RV.bytes ++ List.replicate m 255
theorem sectorB_length {hd : List UInt8} (h : hd.length = 12) (R : List RV) (m : Nat) : (sectorB hd R m).length = 12 + total R + m := by
  unfold sectorB; simp only [List.length_append, h, total_flat, List.length_replicate]
theorem sector_drop {hd : List UInt8} (h : hd.length = 12) (R : List RV) (m j : Nat) (hj : j < R.length) :
    (sectorB hd R m).drop (12 + total (R.take j)) = recB (R[j]).u (R[j]).t (R[j]).kb (R[j]).bs (R[j]).c ++ (0 : UInt8) :: ((R.drop (j + 1)).flatMap RV.bytes ++ List.replicate m 255) := by
  have e : R = R.take j ++ (R[j] :: R.drop (j + 1)) := by rw [← List.drop_eq_getElem_cons hj, List.take_append_drop]
  have e2 : sectorB hd R m = (hd ++ (R.take j).flatMap RV.bytes) ++ ((R[j]).bytes ++ ((R.drop (j + 1)).flatMap RV.bytes ++ List.replicate m 255)) := by
    unfold sectorB
    conv => lhs; rw [e]
    rw [List.flatMap_append, List.flatMap_cons]
    simp only [List.append_assoc]
  rw [e2, List.drop_append_of_le_length (by simp only [List.length_append, h, total_flat]; omega), List.drop_eq_nil_of_le (by simp only [List.length_append, h, total_flat]; omega), List.nil_append]
  unfold RV.bytes
  simp
theorem sector_zero {hd : List UInt8} (h : hd.length = 12) (R : List RV) (m j : Nat) (hj : j < R.length) :
    (sectorB hd R m).getD (12 + total (R.take j) + ((R[j]).len - 1)) 0 = 0 := by
  have hd' := sector_drop h R m j hj
  have : ((sectorB hd R m).drop (12 + total (R.take j))).getD ((R[j]).len - 1) 0 = 0 := by
    rw [hd', List.getD_eq_getElem?_getD, List.getElem?_append_right (by rw [recB_length]; unfold RV.len; omega), recB_length, show (R[j]).len - 1 - (15 + (R[j]).kb.length + (R[j]).bs.length) = 0 by unfold RV.len; omega]
    rfl
  rwa [List.getD_eq_getElem?_getD, List.getElem?_drop, ← List.getD_eq_getElem?_getD] at this
theorem sector_tail {hd : List UInt8} (h : hd.length = 12) (R : List RV) (m i : Nat) (h1 : 12 + total R ≤ i) (h2 : i < 12 + total R + m) : (sectorB hd R m).getD i 0 = 255 := by
  unfold sectorB
  rw [List.getD_eq_getElem?_getD, List.getElem?_append_right (by simp only [List.length_append, h, total_flat]; omega)]
  simp only [List.length_append, h, total_flat]
  rw [List.getElem?_replicate, if_pos (by omega)]
  rfl
theorem total_le (R : List RV) (j : Nat) (hj : j < R.length) : total (R.take j) + (R[j]).len ≤ total R := by
  rw [← take_total R j hj]
  conv => rhs; rw [← List.take_append_drop (j + 1) R, total_append]
  omega
theorem at_lt {hd : List UInt8} (h : hd.length = 12) {R : List RV} {m E j : Nat} (hE : ∀ i, E ≤ i → i < 12 + total R + m → (sectorB hd R m).getD i 0 = 255) (hj : j < R.length) : 12 + total (R.take j) < E := by
  have h0 := sector_zero h R m j hj
  have hl := total_le R j hj
  have hp : 16 ≤ (R[j]).len := by unfold RV.len; omega
  by_cases hlt : 12 + total (R.take j) < E
  · exact hlt
  · have := hE (12 + total (R.take j) + ((R[j]).len - 1)) (by omega) (by omega)
    rw [this] at h0
    cases h0
theorem at_end {hd : List UInt8} (h : hd.length = 12) {R : List RV} {m E : Nat} (hE : E ≤ 12 + total R + m) (hX : E = 0 ∨ (sectorB hd R m).getD (E - 1) 0 ≠ 255) : ¬ 12 + total R < E := by
  intro hlt
  rcases hX with h0 | h0
  · omega
  · exact h0 (sector_tail h R m (E - 1) (by omega) (by omega))
theorem row_cells {w : World} {a : Option Addr} {n : Nat} {bs : List UInt8} (hs : Sl encB w a n bs) (h0 : 0 < n) :
    ∃ b off, a = some ⟨b, off, none⟩ ∧ b < w.heap.size ∧ ∀ i, i < n → w.cell? ⟨b, off + i, none⟩ = some (.int .u8 ((bs.getD i 0).toNat : Int)) := by
  obtain ⟨b, off, ha, hlt, hc⟩ := hs.2 h0
  have hl := hs.1
  refine ⟨b, off, ha, hlt, fun i hi => ?_⟩
  rw [hc i (by omega), List.getD_eq_getElem?_getD]
  simp [hl, hi, encB]
end Go.Proofs.Ytechkdnoekffmaa
