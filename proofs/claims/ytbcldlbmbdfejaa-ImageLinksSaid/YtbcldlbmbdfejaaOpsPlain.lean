/- ops: forms and lengths, plain. No program in sight. -/
import Derived.Test.YtbcldlbmbdfejaaSs2
import Derived.Test.YtbcldlbmbdfejaaNumPlain2
namespace Go.Proofs.Ytbcldlbmbdfejaa
open Go.ChangeShapes Go.WideShapes Go.ChangeAt Go.RowKit
/-- Operations from one to another, all of one form. -/

def spCells (s : Nat × Nat × Nat) : List Value := [.int .u8 (s.1 : Nat), .int .u8 (s.2.1 : Nat), .int .i64 (s.2.2 : Nat)]
theorem spCells_length (s : Nat × Nat × Nat) : (spCells s).length = 3 := rfl
def spansL : List (Nat × Nat × Nat) := [(0, 10, 1), (16, 16, 3), (17, 17, 4), (18, 18, 5), (20, 20, 6), (21, 22, 2), (25, 25, 2), (46, 46, 1), (50, 51, 1), (54, 55, 2), (58, 58, 2), (79, 79, 1), (83, 84, 1), (87, 87, 1), (89, 89, 1), (95, 97, 1), (100, 101, 1), (104, 105, 1), (108, 109, 1), (112, 113, 1), (116, 117, 1), (120, 131, 1), (132, 132, 8), (133, 133, 1), (136, 136, 1), (145, 145, 1), (148, 148, 1), (153, 167, 7), (172, 173, 1), (176, 177, 1), (178, 182, 6), (184, 184, 6), (187, 187, 6), (188, 188, 9), (189, 189, 6), (190, 191, 1), (192, 193, 6), (198, 199, 7)]
theorem spansL_ok : ∀ s ∈ spansL, (s : Nat × Nat × Nat).1 ≤ s.2.1 ∧ s.2.1 ≤ 255 ∧ s.2.2 ≤ 9 := by decide
/-- One span more. -/
def spanF (f : Nat → Nat) (s : Nat × Nat × Nat) : Nat → Nat := fun i => if s.1 ≤ i ∧ i ≤ s.2.1 then s.2.2 else f i
/-- The forms behind the first spans. -/
def formK (k : Nat) : Nat → Nat := (spansL.take k).foldl spanF (fun _ => 0)
/-- An operation's form; 0: it is none. -/
def formN (op : Nat) : Nat := formK 38 op
theorem formK_succ (k : Nat) (h : k < spansL.length) : formK (k + 1) = spanF (formK k) spansL[k] := by
  unfold formK
  rw [List.take_succ_eq_append_getElem h, List.foldl_append]
  rfl
theorem spanF_le (f : Nat → Nat) (s : Nat × Nat × Nat) (h : s.2.2 ≤ 9) (hf : ∀ i, f i ≤ 9) (i : Nat) : spanF f s i ≤ 9 := by
  unfold spanF
  split
  · exact h
  · exact hf i
theorem fold_le (l : List (Nat × Nat × Nat)) (hl : ∀ s ∈ l, (s : Nat × Nat × Nat).2.2 ≤ 9) (f : Nat → Nat) (hf : ∀ i, f i ≤ 9) (i : Nat) : l.foldl spanF f i ≤ 9 := by
  induction l generalizing f with
  | nil => exact hf i
  | cons s l ih => exact ih (fun x hx => hl x (List.mem_cons_of_mem _ hx)) _ (fun j => spanF_le f s (hl s List.mem_cons_self) hf j)
theorem formN_le (op : Nat) : formN op ≤ 9 := by
  unfold formN formK
  exact fold_le _ (fun s hs => (spansL_ok s (List.mem_of_mem_take hs)).2.2) _ (fun _ => Nat.zero_le _) op
/-- How many bytes a form has. -/
def sizeN (f : Nat) : Nat := [0, 1, 2, 2, 3, 2, 3, 3, 3, 2].getD f 0
/-- A table of 256 bytes. -/
def tabN (f : Nat → Nat) : Array Value := ((List.range 256).map fun i => Value.int .u8 (f i : Nat)).toArray
theorem tabN_size (f : Nat → Nat) : (tabN f).size = 256 := by simp [tabN]
theorem tabN_at (f : Nat → Nat) (j : Nat) (h : j < 256) : (tabN f)[j]? = some (.int .u8 (f j : Nat)) := by simp [tabN, h]
def updF (f : Nat → Nat) (j x : Nat) : Nat → Nat := fun i => if i = j then x else f i
theorem tabN_set (f : Nat → Nat) (j x : Nat) : (tabN f).setIfInBounds j (.int .u8 (x : Nat)) = tabN (updF f j x) := by
  apply Array.ext_getElem?
  intro i
  rw [Array.getElem?_setIfInBounds]
  by_cases hi : i < 256
  · rw [tabN_at _ _ hi, tabN_at _ _ hi]
    unfold updF
    by_cases hk : j = i
    · subst hk; simp [tabN_size, hi]
    · simp only [hk, if_false]
      rw [if_neg (Ne.symm hk)]
  · have h1 : (tabN f)[i]? = none := by simp [tabN_size]; omega
    have h2 : (tabN (updF f j x))[i]? = none := by simp [tabN_size]; omega
    rw [h1, h2]
    split
    · simp [tabN_size]; omega
    · rfl
theorem tabN_one (f : Nat → Nat) : (tabN f).all (·.oneCell') = true := by
  simp [tabN, Array.all_eq_true]; intro i hi; rfl
/-- A span that is filled in part. -/
def partF (f : Nat → Nat) (a j x : Nat) : Nat → Nat := fun i => if a ≤ i ∧ i < j then x else f i
theorem partF_start (f : Nat → Nat) (a x : Nat) : partF f a a x = f := by
  funext i; unfold partF; rw [if_neg (by omega)]
theorem partF_next (f : Nat → Nat) (a j x : Nat) (h : a ≤ j) : updF (partF f a j x) j x = partF f a (j + 1) x := by
  funext i
  unfold updF partF
  by_cases h1 : i = j
  · rw [if_pos h1, if_pos (by omega)]
  · rw [if_neg h1]
    by_cases h2 : a ≤ i ∧ i < j
    · rw [if_pos h2, if_pos (by omega)]
    · rw [if_neg h2, if_neg (by omega)]
theorem partF_end (f : Nat → Nat) (a b x : Nat) : partF f a (b + 1) x = spanF f (a, b, x) := by
  funext i
  unfold partF spanF
  by_cases h : a ≤ i ∧ i ≤ b
  · rw [if_pos (by omega), if_pos h]
  · rw [if_neg (by omega), if_neg h]
end Go.Proofs.Ytbcldlbmbdfejaa
