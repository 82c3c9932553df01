/- nor: wear, and what a program turns. Plain. No condition. -/
import Derived.Test.YtdnnodpchjnleaaNorPlain2
namespace Go.Proofs.Ytdnnodpchjnleaa
namespace Fl
theorem lay_get {xs : List UInt8} {p : Nat} {b : List UInt8} (h : p + b.length ≤ xs.length) (i : Nat) : (lay xs p b)[i]? = if i < p then xs[i]? else if i < p + b.length then b[i - p]? else xs[i]? := by
  have hl : (xs.take p).length = p := by simp; omega
  unfold lay
  rw [List.append_assoc, List.getElem?_append, hl]
  split
  · rw [List.getElem?_take]; simp [*]
  · rw [List.getElem?_append]
    split
    · rw [if_pos (by omega)]
    · rw [if_neg (by omega), List.getElem?_drop]
      congr 1
      omega
theorem part_get (xs : List UInt8) (q n i : Nat) : ((xs.drop q).take n)[i]? = if i < n then xs[q + i]? else none := by
  rw [List.getElem?_take, List.getElem?_drop]
theorem lay_other {xs : List UInt8} {p q n : Nat} {b : List UInt8} (h : p + b.length ≤ xs.length) (hq : q + n ≤ p ∨ p + b.length ≤ q) : ((lay xs p b).drop q).take n = (xs.drop q).take n := by
  apply List.ext_getElem?
  intro i
  rw [part_get, part_get]
  split
  · rw [lay_get h]
    rcases hq with hq | hq
    · rw [if_pos (by omega)]
    · rw [if_neg (by omega), if_neg (by omega)]
  · rfl
theorem lay_same {xs : List UInt8} {p : Nat} {b : List UInt8} (h : p + b.length ≤ xs.length) : ((lay xs p b).drop p).take b.length = b := by
  apply List.ext_getElem?
  intro i
  rw [part_get]
  split
  · rw [lay_get h, if_neg (by omega), if_pos (by omega), Nat.add_sub_cancel_left]
  · rw [List.getElem?_eq_none (by omega)]
theorem tick_free {f : Fl} (h : f.left = -1) : f.tick = f := by
  unfold tick; rw [if_neg (by omega), if_neg (by omega)]
theorem fits_blank (f : Fl) (p : Nat) (b : List UInt8) (h : ∀ i, i < b.length → f.bs.getD (p + i) 0 = 255) : f.fits p b = true := by
  unfold fits
  rw [List.all_eq_true]
  intro i hi
  rw [h i (List.mem_range.1 hi)]
  have : ∀ x : UInt8, (x &&& 255 == x) = true := by
    intro x
    have e : x &&& 255 = x := by
      apply UInt8.toNat_inj.1
      rw [UInt8.toNat_and]
      have hx := x.toNat_lt
      show x.toNat &&& 255 = x.toNat
      rw [show (255 : Nat) = 2 ^ 8 - 1 from rfl, Nat.and_two_pow_sub_one_eq_mod]
      omega
    rw [e]; simp
  exact this _
/-- A flash whose sector k was erased i times; another one holds what was laid. -/
structure Worn (S Z L k o i : Nat) (b : List UInt8) (f : Fl) : Prop where
  ok : f.Ok
  eS : f.S = S
  eZ : f.Z = Z
  eL : f.L = L
  dn : f.down = false
  lf : f.left = -1
  ct : f.cnt.getD k 0 = i
  kp : o ≠ k → (f.bs.drop (o * Z)).take b.length = b
theorem worn_start {S Z L k o : Nat} {b : List UInt8} (h : (mk0 S Z L).Ok) (ho : o < S) (hb : b.length ≤ Z) : Worn S Z L k o 0 b ((mk0 S Z L).prog ((o * Z : Nat) : Int) b) := by
  have hz : o * Z + Z ≤ S * Z := by
    have : (o + 1) * Z ≤ S * Z := Nat.mul_le_mul_right _ ho
    rw [Nat.add_mul] at this; omega
  have hth : (mk0 S Z L).there ((o * Z : Nat) : Int) b.length := by unfold there mk0; simp only [List.length_replicate]; omega
  have hft : (mk0 S Z L).fits ((o * Z : Nat) : Int).toNat b = true := fits_blank _ _ _ fun i hi => by
    simp only [mk0, Int.toNat_natCast, List.getD, List.getElem?_replicate]
    rw [if_pos (by omega)]; rfl
  have hp := (prog_whole (f := mk0 S Z L) rfl hth hft (by show (-1 : Int) ≠ 0; decide)).2
  rw [tick_free rfl] at hp
  have hok := prog_ok h ((o * Z : Nat) : Int) b
  rw [hp] at hok ⊢
  refine ⟨hok, rfl, rfl, rfl, rfl, rfl, by simp [mk0, List.getD, List.getElem?_replicate]; split <;> rfl, fun _ => ?_⟩
  simp only [Int.toNat_natCast]
  exact lay_same (by simp [mk0]; omega)
theorem worn_step {S Z L k o i : Nat} {b : List UInt8} {f : Fl} (h : Worn S Z L k o i b f) (hk : k < S) (ho : o < S) (hb : b.length ≤ Z) (hi : i < L) : f.count k = i ∧ f.eraseE k = 0 ∧ Worn S Z L k o (i + 1) b (f.erase k) := by
  have hw : f.whole = true := by unfold whole; rw [h.lf]; rfl
  have hr : (0 : Int) ≤ k ∧ (k : Int) < f.S := by rw [h.eS]; omega
  have hc : f.cnt.getD (k : Int).toNat 0 < f.L := by rw [Int.toNat_natCast, h.ct, h.eL]; exact hi
  have he : f.erases k = true := by unfold erases; rw [h.dn]; simp only [Bool.not_false, Bool.true_and, Bool.and_eq_true, decide_eq_true_eq]; exact ⟨hr, hc⟩
  have hok := erase_ok h.ok (k : Int)
  have hE : f.erase k = { f with bs := f.eraseB k, cnt := f.cnt.set k (i + 1) } := by
    unfold erase
    rw [if_pos he, tick_free h.lf, Int.toNat_natCast, h.ct]
  refine ⟨by unfold count; rw [if_pos hr, Int.toNat_natCast, h.ct], ?_, ?_⟩
  · unfold eraseE
    rw [if_neg (by rw [h.dn]; decide), if_pos hr, if_pos hc, if_pos hw]
  · rw [hE] at hok ⊢
    refine ⟨hok, h.eS, h.eZ, h.eL, h.dn, h.lf, ?_, fun hne => ?_⟩
    · have hl : k < f.cnt.length := by rw [h.ok.hc, h.eS]; exact hk
      simp [List.getD, hl]
    · show ((f.eraseB k).drop (o * Z)).take b.length = b
      have hz : k * Z + Z ≤ f.bs.length := by
        rw [h.ok.hb, h.eS, h.eZ]
        have : (k + 1) * Z ≤ S * Z := Nat.mul_le_mul_right _ hk
        rw [Nat.add_mul] at this; omega
      unfold eraseB
      simp only
      rw [if_pos hw, if_neg (by omega), h.eZ, lay_other (by simp; exact hz) ?_, h.kp hne]
      simp only [List.length_replicate]
      rcases Nat.lt_or_gt_of_ne hne with hlt | hlt
      · left
        have : (o + 1) * Z ≤ k * Z := Nat.mul_le_mul_right _ hlt
        rw [Nat.add_mul] at this; omega
      · right
        have : (k + 1) * Z ≤ o * Z := Nat.mul_le_mul_right _ hlt
        rw [Nat.add_mul] at this; omega
theorem worn_end {S Z L k o : Nat} {b : List UInt8} {f : Fl} (h : Worn S Z L k o L b f) (hk : k < S) (ho : o < S) (hb : b.length ≤ Z) : f.count k = L ∧ f.eraseE k = 4 ∧ f.erase k = f ∧ f.readE ((o * Z : Nat) : Int) b.length = 0 ∧ (o ≠ k → f.readB ((o * Z : Nat) : Int) b.length = b) := by
  have hr : (0 : Int) ≤ k ∧ (k : Int) < f.S := by rw [h.eS]; omega
  have hc : ¬ f.cnt.getD (k : Int).toNat 0 < f.L := by rw [Int.toNat_natCast, h.ct, h.eL]; omega
  have he : f.erases k = false := by unfold erases; rw [h.dn, decide_eq_false hc]; simp
  have hz : o * Z + Z ≤ f.bs.length := by
    rw [h.ok.hb, h.eS, h.eZ]
    have : (o + 1) * Z ≤ S * Z := Nat.mul_le_mul_right _ ho
    rw [Nat.add_mul] at this; omega
  have hrd : f.readE ((o * Z : Nat) : Int) b.length = 0 := by
    unfold readE
    rw [if_neg (by rw [h.dn]; decide), if_pos (by unfold there; omega)]
  refine ⟨by unfold count; rw [if_pos hr, Int.toNat_natCast, h.ct], ?_, ?_, hrd, fun hne => ?_⟩
  · unfold eraseE
    rw [if_neg (by rw [h.dn]; decide), if_pos hr, if_neg hc]
  · unfold erase; rw [if_neg (by rw [he]; decide)]
  · unfold readB
    rw [if_pos hrd]
    simp only [Int.toNat_natCast]
    exact h.kp hne
theorem and_back (x y : UInt8) : (x &&& y) &&& x = x &&& y := by
  rw [UInt8.and_comm, ← UInt8.and_assoc, UInt8.and_self]
/-- What a program leaves: only bits from 1 to 0, nothing else touched. -/
theorem prog_clears {f : Fl} {p : Nat} {b : List UInt8} (h : p + b.length ≤ f.bs.length) (hf : f.fits p b = true) (i : Nat) (hi : i < f.bs.length) :
    ((f.progB p b).getD i 0 &&& f.bs.getD i 0) = (f.progB p b).getD i 0 ∧ ((f.progB p b).getD i 0 ≠ f.bs.getD i 0 → p ≤ i ∧ i < p + b.length) := by
  have hfi : ∀ j, j < b.length → (b.getD j 0 &&& f.bs.getD (p + j) 0) = b.getD j 0 := fun j hj => by
    have := List.all_eq_true.1 hf j (List.mem_range.2 hj)
    simpa using this
  have key : ∀ (c : List UInt8), c.length ≤ b.length → (∀ j, j < c.length → c.getD j 0 = b.getD j 0) → ∀ i, i < f.bs.length →
      ((lay f.bs p c).getD i 0 &&& f.bs.getD i 0) = (lay f.bs p c).getD i 0 ∧ ((lay f.bs p c).getD i 0 ≠ f.bs.getD i 0 → p ≤ i ∧ i < p + b.length) := by
    intro c hc hcb i hi
    have hg : (lay f.bs p c).getD i 0 = if i < p then f.bs.getD i 0 else if i < p + c.length then c.getD (i - p) 0 else f.bs.getD i 0 := by
      simp only [List.getD]
      rw [lay_get (by omega)]
      split
      · rfl
      · split <;> rfl
    rw [hg]
    split
    · exact ⟨UInt8.and_self, fun h => absurd rfl h⟩
    · split
      · refine ⟨?_, fun _ => by omega⟩
        rw [hcb _ (by omega)]
        have := hfi (i - p) (by omega)
        rwa [show p + (i - p) = i by omega] at this
      · exact ⟨UInt8.and_self, fun h => absurd rfl h⟩
  unfold progB
  split
  · exact key b (Nat.le_refl _) (fun _ _ => rfl) i hi
  · simp only
    have hp := f.part_le b.length
    generalize f.part b.length = k at hp
    have htk : ∀ j, j < (b.take k).length → (b.take k).getD j 0 = b.getD j 0 := by
      intro j hj
      rw [List.length_take] at hj
      have hjk : j < k := by omega
      simp [List.getD, List.getElem?_take, hjk]
    have hk := key (b.take k) (by simp; omega) htk i hi
    split
    · rename_i hlt
      have hl : (lay f.bs p (b.take k)).length = f.bs.length := lay_length _ _ _ (by simp; omega)
      by_cases e : p + k = i
      · subst e
        have hx : (lay f.bs p (b.take k)).getD (p + k) 0 = f.bs.getD (p + k) 0 := by
          simp only [List.getD]
          rw [lay_get (by simp; omega), if_neg (by omega), if_neg (by simp; omega)]
        have hs : ((lay f.bs p (b.take k)).set (p + k) ((lay f.bs p (b.take k)).getD (p + k) 0 &&& (b.getD k 0 ||| (255 - f.mask)))).getD (p + k) 0 = f.bs.getD (p + k) 0 &&& (b.getD k 0 ||| (255 - f.mask)) := by
          rw [hx]; simp [List.getD, hl, hi]
        rw [hs]
        exact ⟨and_back _ _, fun _ => by omega⟩
      · have hs : ((lay f.bs p (b.take k)).set (p + k) ((lay f.bs p (b.take k)).getD (p + k) 0 &&& (b.getD k 0 ||| (255 - f.mask)))).getD i 0 = (lay f.bs p (b.take k)).getD i 0 := by
          simp only [List.getD]; rw [List.getElem?_set_ne e]
        rw [hs]
        exact hk
    · exact hk
end Fl
end Go.Proofs.Ytdnnodpchjnleaa
