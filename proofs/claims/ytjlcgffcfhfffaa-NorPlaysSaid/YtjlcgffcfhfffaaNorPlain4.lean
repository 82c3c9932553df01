/- nor: NorClears' plain law. No condition. -/
import Derived.Test.YtjlcgffcfhfffaaNorLaw3
namespace Go.Proofs.Ytjlcgffcfhfffaa
namespace Fl
theorem progE_of {f : Fl} {p : Int} {b : List UInt8} (hd : f.down = false) (ht : f.there p b.length) (hf : f.fits p.toNat b = false) : f.progE p b = 3 ∧ f.prog p b = f := by
  unfold progE prog progs
  rw [hd, if_neg (by decide), if_pos ht, hf]
  simp
theorem progE_far {f : Fl} {p : Int} {b : List UInt8} (hd : f.down = false) (ht : ¬ f.there p b.length) : f.progE p b = 2 ∧ f.prog p b = f := by
  unfold progE prog progs
  rw [hd, if_neg (by decide), if_neg ht, decide_eq_false ht]
  simp
/-- What NorClears asks. -/
structure Cleared (f1 f3 : Fl) (k : Nat) (b : List UInt8) (torn : Bool) (r : Int) : Prop where
  rs : r = 0 ∨ r = 2 ∨ r = 3 ∨ r = 5
  t5 : r = 5 → torn = true
  t0 : r = 0 → torn = false
  dn : f3.down = false
  ln : f3.bs.length = f1.bs.length
  bit : ∀ i, i < f1.bs.length → (f3.bs.getD i 0 &&& f1.bs.getD i 0) = f3.bs.getD i 0 ∧ (f3.bs.getD i 0 ≠ f1.bs.getD i 0 → k ≤ i ∧ i < k + b.length)
  ok0 : r = 0 → k + b.length ≤ f1.bs.length ∧ (f3.bs.drop k).take b.length = b
  no : r ≠ 0 → r = 5 ∨ f3.bs = f1.bs
theorem same_bits (f : Fl) (k : Nat) (b : List UInt8) : ∀ i, i < f.bs.length → (f.bs.getD i 0 &&& f.bs.getD i 0) = f.bs.getD i 0 ∧ (f.bs.getD i 0 ≠ f.bs.getD i 0 → k ≤ i ∧ i < k + b.length) :=
  fun i _ => ⟨UInt8.and_self, fun h => absurd rfl h⟩
theorem cleared {f1 : Fl} (hd : f1.down = false) (hl : f1.left = -1) (k : Nat) (b : List UInt8) (torn : Bool) (keep : Int) (mask : UInt8) :
    Cleared f1 (((if torn = true then f1.fuse 0 keep mask else f1).prog k b).reset) k b torn ((if torn = true then f1.fuse 0 keep mask else f1).progE k b) := by
  obtain ⟨f2, hf2⟩ : ∃ f2, (if torn = true then f1.fuse 0 keep mask else f1) = f2 := ⟨_, rfl⟩
  rw [hf2]
  have hb : f2.bs = f1.bs := by rw [← hf2]; split <;> rfl
  have hd2 : f2.down = false := by rw [← hf2]; split <;> exact hd
  have hl2 : f2.left = 0 ↔ torn = true := by
    rw [← hf2]; cases torn
    · simp [hl]
    · simp [fuse]; rfl
  by_cases ht : f2.there k b.length
  · have hkl : k + b.length ≤ f1.bs.length := by unfold there at ht; rw [hb] at ht; omega
    cases hf : f2.fits k b with
    | false =>
      obtain ⟨e1, e2⟩ := progE_of (p := (k : Int)) hd2 ht (by simpa using hf)
      rw [e1, e2]
      exact ⟨by omega, fun h => by omega, fun h => by omega, rfl, by show f2.bs.length = _; rw [hb], by have e : f2.reset.bs = f1.bs := hb; rw [e]; exact same_bits f1 k b, fun h => by omega, fun _ => .inr hb⟩
    | true =>
      have hc := fun i hi => prog_clears (f := f2) (p := k) (b := b) (by rw [hb]; exact hkl) hf i hi
      by_cases h0 : f2.left = 0
      · obtain ⟨e1, e2⟩ := prog_torn (p := (k : Int)) hd2 ht (by simpa using hf) h0
        rw [e1, e2]
        refine ⟨by omega, fun _ => hl2.1 h0, fun h => by omega, rfl, ?_, ?_, fun h => by omega, fun _ => .inl rfl⟩
        · show (f2.progB (k : Int).toNat b).length = _
          rw [progB_length _ _ _ (by rw [hb]; simpa using hkl), hb]
        · intro i hi
          have := hc i (by rw [hb]; exact hi)
          rw [hb] at this
          exact this
      · obtain ⟨e1, e2⟩ := prog_whole (p := (k : Int)) hd2 ht (by simpa using hf) h0
        rw [e1, e2]
        have hw : f2.whole = true := by unfold whole; simpa using h0
        have hB : f2.progB k b = lay f2.bs k b := by unfold progB; rw [if_pos hw]
        refine ⟨by omega, fun h => by omega, fun _ => by
          cases torn with
          | false => rfl
          | true => exact absurd (hl2.2 rfl) h0, ?_, ?_, ?_, fun _ => ⟨hkl, ?_⟩, fun h => absurd rfl h⟩
        · rfl
        · show (lay f2.bs (k : Int).toNat b).length = _
          rw [lay_length _ _ _ (by rw [hb]; simpa using hkl), hb]
        · intro i hi
          have := hc i (by rw [hb]; exact hi)
          rw [hB, hb] at this
          show ((lay f2.bs (k : Int).toNat b).getD i 0 &&& _) = (lay f2.bs (k : Int).toNat b).getD i 0 ∧ ((lay f2.bs (k : Int).toNat b).getD i 0 ≠ _ → _)
          rw [hb]
          exact this
        · show ((lay f2.bs (k : Int).toNat b).drop k).take b.length = b
          rw [hb]
          exact lay_same hkl
  · obtain ⟨e1, e2⟩ := progE_far (p := (k : Int)) hd2 ht
    rw [e1, e2]
    exact ⟨by omega, fun h => by omega, fun h => by omega, rfl, by show f2.bs.length = _; rw [hb], by have e : f2.reset.bs = f1.bs := hb; rw [e]; exact same_bits f1 k b, fun h => by omega, fun _ => .inr hb⟩
/-- The first program on a new flash: never down, no fuse. -/
theorem first_prog (S Z L : Nat) (p : Int) (b : List UInt8) : ((mk0 S Z L).prog p b).down = false ∧ ((mk0 S Z L).prog p b).left = -1 ∧ ((mk0 S Z L).prog p b).S = S ∧ ((mk0 S Z L).prog p b).Z = Z := by
  unfold prog
  have ht : (mk0 S Z L).tick = mk0 S Z L := tick_free rfl
  split
  · rw [ht]; exact ⟨rfl, rfl, rfl, rfl⟩
  · exact ⟨rfl, rfl, rfl, rfl⟩
theorem read_all {f : Fl} {n : Nat} (hd : f.down = false) (hn : f.bs.length = n) : f.readE 0 n = 0 ∧ f.readB 0 n = f.bs := by
  have h : f.readE 0 n = 0 := by unfold readE; rw [if_neg (by rw [hd]; decide), if_pos (by unfold there; omega)]
  refine ⟨h, ?_⟩
  unfold readB
  rw [if_pos h]
  simp [← hn]
end Fl
end Go.Proofs.Ytjlcgffcfhfffaa
