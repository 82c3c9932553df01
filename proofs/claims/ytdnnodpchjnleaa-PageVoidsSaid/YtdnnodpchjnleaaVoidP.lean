/- page: what becomes of a sector that is void, in plain Lean. No condition. -/
import Derived.Test.YtdnnodpchjnleaaNorFix
import Derived.Test.YtdnnodpchjnleaaPageFn2
namespace Go.Proofs.Ytdnnodpchjnleaa
open Go.ChangeShapes Go.WideShapes Go.ChangeAt Go.RowKit
/-- What is known of a sector of these bytes: its state and its number. -/
def stateR (bs : List UInt8) : Int × Nat :=
  if bs.all (fun c => c == 255) = true then (0, 0) else if (headR bs).err = 0 ∧ (headR bs).live = true ∧ (headR bs).void = false then (2, (headR bs).seq) else (1, 0)
/-- A flash of two sectors of 84 bytes. -/
def pf (xs : List UInt8) (c : List Nat) (keep : Int) (mask : UInt8) : Fl := { S := 2, Z := 84, L := 9, bs := xs, cnt := c, down := false, left := -1, keep := keep, mask := mask }
theorem pf_mk0 : Fl.mk0 2 84 9 = pf (List.replicate 84 255 ++ List.replicate 84 255) [0, 0] 0 0 := by
  unfold Fl.mk0 pf
  rw [List.replicate_append_replicate]
  rfl
theorem pf_prog (p : Int) (A b C : List UInt8) (n : Nat) (c : List Nat) (keep : Int) (mask : UInt8) (hp : p = A.length) (hn : n = b.length) :
    (pf (A ++ (List.replicate n 255 ++ C)) c keep mask).progE p b = 0 ∧ (pf (A ++ (List.replicate n 255 ++ C)) c keep mask).prog p b = pf (A ++ (b ++ C)) c keep mask := by
  subst hp hn
  have hl : (pf (A ++ (List.replicate b.length 255 ++ C)) c keep mask).bs.length = A.length + (b.length + C.length) := by
    show (A ++ (List.replicate b.length 255 ++ C)).length = _
    simp
  have ht : (pf (A ++ (List.replicate b.length 255 ++ C)) c keep mask).there A.length b.length := by
    unfold Fl.there
    rw [hl]
    omega
  have hf : (pf (A ++ (List.replicate b.length 255 ++ C)) c keep mask).fits (A.length : Int).toNat b = true := by
    refine Fl.fits_blank _ _ _ (fun i hi => ?_)
    show (A ++ (List.replicate b.length 255 ++ C)).getD _ 0 = 255
    rw [Int.toNat_natCast, List.getD_eq_getElem?_getD, List.getElem?_append_right (by omega), List.getElem?_append_left (by simp; omega)]
    rw [List.getElem?_replicate, if_pos (by omega)]
    rfl
  obtain ⟨h1, h2⟩ := Fl.prog_whole (f := pf (A ++ (List.replicate b.length 255 ++ C)) c keep mask) rfl ht hf (by show (-1 : Int) ≠ 0; decide)
  refine ⟨h1, ?_⟩
  rw [h2, Fl.tick_free rfl]
  unfold pf Fl.lay
  simp only [Int.toNat_natCast, List.take_left]
  rw [← List.drop_drop, List.drop_left, List.drop_append_of_le_length (by simp), List.drop_of_length_le (by simp), List.nil_append, List.append_assoc]
theorem pf_erase (A R : List UInt8) (c : List Nat) (keep : Int) (mask : UInt8) (hA : A.length = 84) (hR : R.length = 84) (hc : c.getD 1 0 < 9) :
    (pf (A ++ R) c keep mask).eraseE 1 = 0 ∧ (pf (A ++ R) c keep mask).erase 1 = pf (A ++ List.replicate 84 255) (c.set 1 (c.getD 1 0 + 1)) keep mask := by
  obtain ⟨h1, h2⟩ := Fl.erase_whole (f := pf (A ++ R) c keep mask) (s := 1) rfl (by show (0 : Int) ≤ 1 ∧ (1 : Int) < ((2 : Nat) : Int); omega) hc (by show (-1 : Int) ≠ 0; decide)
  refine ⟨h1, ?_⟩
  rw [h2, Fl.tick_free rfl]
  unfold pf Fl.lay
  simp only [Int.toNat_one, Nat.one_mul, List.length_replicate]
  rw [show (84 : Nat) = A.length from hA.symm, List.take_left, ← List.drop_drop, List.drop_left, List.drop_of_length_le (by omega), List.append_nil]
theorem blank_of {R : List UInt8} (hR : R.length = 84) (h : R.all (fun c => c == 255) = true) : R = List.replicate 84 255 := by
  rw [List.eq_replicate_iff]
  refine ⟨hR, fun b hb => ?_⟩
  have := List.all_eq_true.1 h b hb
  simpa using this
theorem stateR_cases (R : List UInt8) (h : (stateR R).1 ≠ 2) : (R.all (fun c => c == 255) = true ∧ stateR R = (0, 0)) ∨ stateR R = (1, 0) := by
  unfold stateR at h ⊢
  split
  · exact .inl ⟨by assumption, rfl⟩
  · rename_i h1
    rw [if_neg h1] at h
    split
    · rename_i h2
      rw [if_pos h2] at h
      exact absurd rfl h
    · exact .inr rfl
theorem pf_read (A R : List UInt8) (c : List Nat) (keep : Int) (mask : UInt8) (hA : A.length = 84) (hR : R.length = 84) :
    (pf (A ++ R) c keep mask).readE 84 84 = 0 ∧ (pf (A ++ R) c keep mask).readB 84 84 = R := by
  have ht : (pf (A ++ R) c keep mask).readE 84 84 = 0 := by
    unfold Fl.readE
    rw [if_neg (show ¬ (pf (A ++ R) c keep mask).down = true by show ¬ (false = true); decide), if_pos]
    unfold Fl.there
    have : (pf (A ++ R) c keep mask).bs.length = 168 := by show (A ++ R).length = _; simp; omega
    rw [this]
    omega
  refine ⟨ht, ?_⟩
  unfold Fl.readB
  rw [if_pos ht]
  show ((A ++ R).drop 84).take 84 = R
  rw [show (84 : Nat) = A.length from hA.symm, List.drop_left, List.take_of_length_le (by omega)]
/-- What Open leaves of a flash, in a sector that isn't used. -/
theorem pf_open (A R : List UInt8) (c : List Nat) (keep : Int) (mask : UInt8) (q : Nat) (hA : A.length = 84) (hR : R.length = 84) (hc : c.getD 1 0 < 9) (hs : (stateR R).1 ≠ 2) (f1 : Fl)
    (h1 : f1 = if (stateR R).1 = 1 then (pf (A ++ R) c keep mask).erase 1 else pf (A ++ R) c keep mask) :
    ((stateR R).1 = 1 → (pf (A ++ R) c keep mask).eraseE 1 = 0) ∧ f1.progE 84 (headB q) = 0 ∧ (f1.prog 84 (headB q)).progE 92 [0] = 0 ∧
      ∃ c', ((stateR R).1 = 0 → c' = c) ∧ (f1.prog 84 (headB q)).prog 92 [0] = pf (A ++ (headB q ++ ([0] ++ List.replicate 75 255))) c' keep mask := by
  obtain ⟨e1, e2⟩ := pf_erase A R c keep mask hA hR hc
  obtain ⟨c', hc', hf1⟩ : ∃ c', ((stateR R).1 = 0 → c' = c) ∧ f1 = pf (A ++ List.replicate 84 255) c' keep mask := by
    rcases stateR_cases R hs with ⟨hb, h0⟩ | h0
    · refine ⟨c, fun _ => rfl, ?_⟩
      rw [h1, h0, if_neg (by decide), blank_of hR hb]
    · refine ⟨c.set 1 (c.getD 1 0 + 1), fun h => ?_, ?_⟩
      · rw [h0] at h; cases h
      · rw [h1, h0, if_pos rfl, e2]
  subst hf1
  have hh := headB_length q
  obtain ⟨p1, p2⟩ := pf_prog 84 A (headB q) (List.replicate 76 255) 8 c' keep mask (by omega) (by omega)
  rw [List.replicate_append_replicate] at p1 p2
  obtain ⟨p3, p4⟩ := pf_prog 92 (A ++ headB q) [0] (List.replicate 75 255) 1 c' keep mask (by simp; omega) rfl
  rw [List.replicate_append_replicate, List.append_assoc] at p3 p4
  rw [p2]
  refine ⟨fun _ => e1, p1, p3, c', hc', ?_⟩
  rw [p4, List.append_assoc]
theorem state_not {Y : List UInt8} (h : Y.getD 0 0 = 255 ∨ Y.getD 9 0 = 0) : (stateR Y).1 ≠ 2 := by
  unfold stateR
  split
  · decide
  · split
    · rename_i h2
      obtain ⟨a, b, c⟩ := h2
      exfalso
      unfold headR at a c
      split at a
      · cases a
      rename_i hl
      rw [if_neg hl] at c
      split at a
      · cases a
      rename_i ht
      rw [if_neg ht] at c
      split at a
      · cases a
      rename_i h8
      rw [if_neg h8] at c
      rcases h with h | h
      · have ht' : Y.take 2 = [67, 66] := by simpa using ht
        have : Y.getD 0 0 = 67 := by
          rw [List.getD_eq_getElem?_getD, show Y[0]? = (Y.take 2)[0]? by rw [List.getElem?_take]; rfl, ht']
          rfl
        rw [this] at h
        cases h
      · change (Y.getD 9 0 != 255) = false at c
        rw [h] at c
        cases c
    · decide
theorem pf_void (A : List UInt8) (q : Nat) (bs : List UInt8) (hA : A.length = 84) (hb : bs.length ≤ 50) (c : List Nat) (keep : Int) (mask : UInt8) :
    let f := pf (A ++ (headB q ++ ([0] ++ List.replicate 75 255))) c keep mask
    let T := headB q ++ ([0] ++ ([0] ++ (List.replicate 2 255 ++ (bs ++ List.replicate (72 - bs.length) 255))))
    f.progE 96 bs = 0 ∧ (∃ xs, f.prog 96 bs = pf xs c keep mask ∧ (pf xs c keep mask).progE 93 [0] = 0 ∧ (pf xs c keep mask).prog 93 [0] = pf (A ++ T) c keep mask) ∧ T.length = 84 ∧ stateR T = (1, 0) ∧ T.getD 9 0 = 0 := by
  simp only
  have hh := headB_length q
  have e1 : A ++ (headB q ++ ([0] ++ List.replicate 75 255)) = (A ++ headB q ++ [0] ++ List.replicate 3 255) ++ (List.replicate bs.length 255 ++ List.replicate (72 - bs.length) 255) := by
    rw [List.replicate_append_replicate, show (75 : Nat) = 3 + (bs.length + (72 - bs.length)) by omega, ← List.replicate_append_replicate]
    simp only [List.append_assoc]
  obtain ⟨p1, p2⟩ := pf_prog 96 (A ++ headB q ++ [0] ++ List.replicate 3 255) bs (List.replicate (72 - bs.length) 255) bs.length c keep mask (by simp; omega) rfl
  rw [← e1] at p1 p2
  have e2 : (A ++ headB q ++ [0] ++ List.replicate 3 255) ++ (bs ++ List.replicate (72 - bs.length) 255) = (A ++ headB q ++ [0]) ++ (List.replicate 1 255 ++ (List.replicate 2 255 ++ (bs ++ List.replicate (72 - bs.length) 255))) := by
    rw [show (3 : Nat) = 1 + 2 from rfl, ← List.replicate_append_replicate]
    simp only [List.append_assoc]
  rw [e2] at p2
  obtain ⟨p3, p4⟩ := pf_prog 93 (A ++ headB q ++ [0]) [0] (List.replicate 2 255 ++ (bs ++ List.replicate (72 - bs.length) 255)) 1 c keep mask (by simp; omega) rfl
  have h9 : (headB q ++ ([0] ++ ([0] ++ (List.replicate 2 255 ++ (bs ++ List.replicate (72 - bs.length) 255))))).getD 9 0 = 0 := by
    rw [List.getD_eq_getElem?_getD, List.getElem?_append_right (by omega), hh]
    rfl
  have h0 : (headB q ++ ([0] ++ ([0] ++ (List.replicate 2 255 ++ (bs ++ List.replicate (72 - bs.length) 255))))).all (fun c => c == 255) = false := by
    rw [List.all_append, List.all_append]
    simp
  refine ⟨p1, ⟨_, p2, p3, by rw [p4]; simp only [List.append_assoc]⟩, by simp; omega, ?_, h9⟩
  rcases stateR_cases _ (state_not (.inr h9)) with ⟨hx, _⟩ | hx
  · rw [h0] at hx; cases hx
  · exact hx
/-- A torn erase leaves no used sector where a void one stood. -/
theorem pf_torn (A T : List UInt8) (hA : A.length = 84) (hT : T.length = 84) (h9 : T.getD 9 0 = 0) (keep : Int) (mask : UInt8) :
    ((pf (A ++ T) [0, 0] 0 0).fuse 0 keep mask).eraseE 1 = 5 ∧ ∃ Y, (((pf (A ++ T) [0, 0] 0 0).fuse 0 keep mask).erase 1).reset = pf (A ++ Y) [0, 1] keep mask ∧ Y.length = 84 ∧ (stateR Y).1 ≠ 2 := by
  obtain ⟨f, hf⟩ : ∃ f, f = (pf (A ++ T) [0, 0] 0 0).fuse 0 keep mask := ⟨_, rfl⟩
  rw [← hf]
  have hfl : f.left = 0 := by rw [hf]; rfl
  obtain ⟨h1, h2⟩ := Fl.erase_torn (f := f) (s := 1) (by rw [hf]; rfl) (by rw [hf]; show (0 : Int) ≤ 1 ∧ (1 : Int) < ((2 : Nat) : Int); omega) (by rw [hf]; show (0 : Nat) < 9; decide) hfl
  refine ⟨h1, ?_⟩
  have hbs : f.bs = A ++ T := by rw [hf]; rfl
  have hZ : f.Z = 84 := by rw [hf]; rfl
  have he := Fl.eraseB_torn (f := f) (s := 1) hfl
  have hr : (f.erase 1).reset = pf (f.eraseB 1) [0, 1] keep mask := by
    rw [h2, hf]
    rfl
  rw [hr, he, hbs, hZ]
  obtain ⟨k, hk⟩ : ∃ k, k = f.part 84 := ⟨_, rfl⟩
  have hk84 : k ≤ 84 := by rw [hk]; exact Fl.part_le f 84
  rw [← hk]
  have hlay : Fl.lay (A ++ T) (1 * 84) (List.replicate k 255) = A ++ (List.replicate k 255 ++ T.drop k) := by
    unfold Fl.lay
    rw [List.length_replicate, Nat.one_mul, show (84 : Nat) = A.length from hA.symm, List.take_left, ← List.drop_drop, List.drop_left, List.append_assoc]
  rw [hlay]
  by_cases h84 : k < 84
  · rw [if_pos h84]
    generalize (A ++ (List.replicate k 255 ++ T.drop k)).getD (1 * 84 + k) 0 ||| f.mask = v
    refine ⟨List.replicate k 255 ++ (T.drop k).set 0 v, ?_, by simp; omega, ?_⟩
    · congr 1
      rw [Nat.one_mul, List.set_append_right _ _ (by omega), hA, List.set_append_right _ _ (by simp), List.length_replicate]
      congr 3
      omega
    · apply state_not
      by_cases h0 : k = 0
      · subst h0
        right
        rw [List.replicate_zero, List.nil_append, List.drop_zero, List.getD_eq_getElem?_getD, List.getElem?_set_ne (by omega), ← List.getD_eq_getElem?_getD, h9]
      · left
        rw [List.getD_eq_getElem?_getD, List.getElem?_append_left (by simp; omega), List.getElem?_replicate, if_pos (by omega)]
        rfl
  · rw [if_neg h84]
    refine ⟨List.replicate k 255 ++ T.drop k, rfl, by simp; omega, state_not (.inl ?_)⟩
    rw [List.getD_eq_getElem?_getD, List.getElem?_append_left (by simp; omega), List.getElem?_replicate, if_pos (by omega)]
    rfl
end Go.Proofs.Ytdnnodpchjnleaa
