/- jar: the reader's way and the plain one, plain. No program in sight. -/
import Derived.Test.YtaedohlfcbppaaaJarItem2
namespace Go.Proofs.Ytaedohlfcbppaaa
open Go.RowKit
theorem numS_bad {bs : List UInt8} {e : Int} {m : Nat} (h : e ≠ 0) : numS bs e m = (0, bs, e) := by unfold numS; rw [if_pos h]
theorem takeS_bad {bs : List UInt8} {e : Int} {m : Nat} (h : e ≠ 0) : takeS bs e m = ([], bs, e) := by unfold takeS; rw [if_pos h]
theorem failE_bad {b : Bool} {e er : Int} (h : e ≠ 0) : failE b e er = e := by unfold failE; rw [if_neg (fun x => h x.2)]
theorem numS_ok {bs : List UInt8} {m : Nat} (h : m ≤ bs.length) : numS bs 0 m = (getN (bs.take m), bs.drop m, 0) := by unfold numS; rw [if_neg (by simp), if_neg (by omega)]
theorem takeS_ok {bs : List UInt8} {m : Nat} (h : m ≤ bs.length) : takeS bs 0 m = (bs.take m, bs.drop m, 0) := by unfold takeS; rw [if_neg (by simp), if_neg (by omega)]
theorem numS_short {bs : List UInt8} {m : Nat} (h : bs.length < m) : numS bs 0 m = (0, bs, 6) := by unfold numS; rw [if_neg (by simp), if_pos h]
theorem takeS_short {bs : List UInt8} {m : Nat} (h : bs.length < m) : takeS bs 0 m = ([], bs, 6) := by unfold takeS; rw [if_neg (by simp), if_pos h]
theorem failE_yes {er : Int} : failE true 0 er = er := rfl
theorem failE_no {e er : Int} : failE false e er = e := rfl
theorem getN_one1 (bs : List UInt8) (h : 0 < bs.length) : getN (bs.take 1) = (bs.getD 0 0).toNat := by
  cases bs with
  | nil => simp at h
  | cons b bs => simp [getN]
/-- Where something is wrong, what follows changes nothing. -/
theorem itemS_tail (bs r1 r2 nm : List UInt8) (names : List (List UInt8)) (v1 : Nat) (q1 q2 : Int) (h1 : numS bs 0 1 = (v1, r1, q1)) (h2 : takeS r1 q1 v1 = (nm, r2, q2)) (e : Int) (he : e ≠ 0) (h3 : failE (!nameOk nm || decide (nm ∈ names)) q2 8 = e) : (itemS bs names).2.2 = e := by
  have h4 := numS_bad (bs := r2) (m := 4) he
  have h5 := failE_bad (b := decide (r2.length < 0 + 4)) (er := 6) he
  have h6 := takeS_bad (bs := r2) (m := 0) he
  have h7 := numS_bad (bs := r2) (m := 4) he
  have h8 := failE_bad (b := !decide ((0 : Nat) = sumN [])) (er := 7) he
  rw [itemS_eq h1 h2 h3.symm h4 h5.symm h6 h7 h8.symm]
theorem item_same (bs : List UInt8) (names : List (List UInt8)) : (itemR bs names).1 = (itemS bs names).2.2 ∧ ((itemS bs names).2.2 = 0 → (itemR bs names).2 = ((itemS bs names).1, (itemS bs names).2.1)) := by
  have key : ∀ {e : Int} {x : IV} {r : List UInt8}, e ≠ 0 → itemR bs names = (e, x, r) → (itemS bs names).2.2 = e → (itemR bs names).1 = (itemS bs names).2.2 ∧ ((itemS bs names).2.2 = 0 → (itemR bs names).2 = ((itemS bs names).1, (itemS bs names).2.1)) := by
    intro e x r he h1 h2
    rw [h1, h2]
    exact ⟨rfl, fun h => absurd h he⟩
  by_cases c1 : bs.length < 1
  · refine key (e := 6) (by decide) (by unfold itemR; rw [if_pos c1]) ?_
    exact itemS_tail bs _ _ _ names _ _ _ (numS_short c1) (takeS_bad (by decide)) 6 (by decide) (failE_bad (by decide))
  have hN1 := numS_ok (bs := bs) (m := 1) (by omega)
  rw [getN_one1 bs (by omega)] at hN1
  have hR := itemR.eq_1 bs names
  rw [if_neg c1] at hR
  generalize hn : (bs.getD 0 0).toNat = n at *
  by_cases c2 : bs.length - 1 < n
  · refine key (e := 6) (by decide) (by rw [hR, if_pos c2]) ?_
    exact itemS_tail bs _ _ _ names _ _ _ hN1 (takeS_short (by simp; omega)) 6 (by decide) (failE_bad (by decide))
  rw [if_neg c2] at hR
  simp only at hR
  have hT1 := takeS_ok (bs := bs.drop 1) (m := n) (by simp; omega)
  rw [List.drop_drop] at hT1
  generalize hnm : (bs.drop 1).take n = nm at *
  generalize hr : bs.drop (1 + n) = r at *
  by_cases c3 : nameOk nm = false ∨ nm ∈ names
  · refine key (e := 8) (by decide) (by rw [hR, if_pos c3]) ?_
    refine itemS_tail bs _ _ _ names _ _ _ hN1 hT1 8 (by decide) ?_
    rw [show (!nameOk nm || decide (nm ∈ names)) = true from by rcases c3 with h | h <;> simp [h]]
    rfl
  rw [if_neg c3] at hR
  have hE1 : (0 : Int) = failE (!nameOk nm || decide (nm ∈ names)) 0 8 := by
    rw [show (!nameOk nm || decide (nm ∈ names)) = false from by
      have h1 : nameOk nm = true := by cases h : nameOk nm; exact absurd (.inl h) c3; rfl
      have h2 : ¬ nm ∈ names := fun h => c3 (.inr h)
      simp [h1, h2]]
    rfl
  by_cases c4 : r.length < 4
  · have h4 := numS_short (bs := r) c4
    have h5 := failE_bad (b := decide (r.length < 0 + 4)) (e := 6) (er := 6) (by decide)
    have h6 := takeS_bad (bs := r) (e := 6) (m := 0) (by decide)
    have h7 := numS_bad (bs := r) (e := 6) (m := 4) (by decide)
    have h8 := failE_bad (b := !decide ((0 : Nat) = sumN [])) (e := 6) (er := 7) (by decide)
    exact key (e := 6) (by decide) (by rw [hR, if_pos c4]) (by rw [itemS_eq hN1 hT1 hE1 h4 h5.symm h6 h7 h8.symm])
  rw [if_neg c4] at hR
  have h4 := numS_ok (bs := r) (m := 4) (by omega)
  generalize getN (r.take 4) = m at *
  by_cases c5 : r.length - 4 < m + 4
  · have h5 : failE (decide ((r.drop 4).length < m + 4)) 0 6 = 6 := by rw [show decide ((r.drop 4).length < m + 4) = true by simp; omega]; rfl
    have h6 := takeS_bad (bs := r.drop 4) (e := 6) (m := m) (by decide)
    have h7 := numS_bad (bs := r.drop 4) (e := 6) (m := 4) (by decide)
    have h8 := failE_bad (b := !decide ((0 : Nat) = sumN [])) (e := 6) (er := 7) (by decide)
    exact key (e := 6) (by decide) (by rw [hR, if_pos c5]) (by rw [itemS_eq hN1 hT1 hE1 h4 h5.symm h6 h7 h8.symm])
  rw [if_neg c5] at hR
  have h5 : failE (decide ((r.drop 4).length < m + 4)) 0 6 = 0 := by rw [show decide ((r.drop 4).length < m + 4) = false by simp; omega]; rfl
  have h6 := takeS_ok (bs := r.drop 4) (m := m) (by simp; omega)
  rw [List.drop_drop] at h6
  have h7 := numS_ok (bs := r.drop (4 + m)) (m := 4) (by simp; omega)
  generalize (r.drop 4).take m = ds at *
  generalize r.drop (4 + m) = q at *
  by_cases c6 : getN (q.take 4) = sumN ds
  · have h8 : failE (!decide (getN (q.take 4) = sumN ds)) 0 7 = 0 := by rw [decide_eq_true c6]; rfl
    rw [if_pos c6] at hR
    rw [hR, itemS_eq hN1 hT1 hE1 h4 h5.symm h6 h7 h8.symm]
    exact ⟨rfl, fun _ => rfl⟩
  · have h8 : failE (!decide (getN (q.take 4) = sumN ds)) 0 7 = 7 := by rw [decide_eq_false c6]; rfl
    rw [if_neg c6] at hR
    exact key (e := 7) (by decide) hR (by rw [itemS_eq hN1 hT1 hE1 h4 h5.symm h6 h7 h8.symm])
end Go.Proofs.Ytaedohlfcbppaaa
