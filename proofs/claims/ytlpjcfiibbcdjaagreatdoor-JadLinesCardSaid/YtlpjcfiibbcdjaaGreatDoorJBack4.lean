/- Lines swapped, and laid one behind the other. No program in sight. No condition. -/
import Derived.Test.YtlpjcfiibbcdjaaGreatDoorJBack3
namespace Go.Proofs.YtlpjcfiibbcdjaaGreatDoor
open Go.ChangeShapes Go.WideShapes Go.ChangeAt Go.RowKit
theorem count_swap (c : Nat) (l : List Nat) (a b : Nat) (ha : a < l.length) (hb : b < l.length) : List.count c ((l.set a l[b]).set b l[a]) = List.count c l := by
  have hb2 : b < (l.set a l[b]).length := by simpa using hb
  rw [List.count_set hb2, List.count_set ha, List.getElem_set]
  have h1 : l[a] = c → 1 ≤ List.count c l := fun e => List.one_le_count_iff.2 (e ▸ List.getElem_mem ha)
  have h2 : l[b] = c → 1 ≤ List.count c l := fun e => List.one_le_count_iff.2 (e ▸ List.getElem_mem hb)
  by_cases e : a = b
  · subst e
    simp only [if_true]
    by_cases e1 : l[a] = c <;> simp [e1] <;> (try have := h1 e1) <;> omega
  · rw [if_neg e]
    by_cases e1 : l[a] = c <;> by_cases e2 : l[b] = c <;> simp [e1, e2] <;> (try have := h1 e1) <;> (try have := h2 e2) <;> (try omega)
theorem perm_swap {l m : List Nat} (h : l.Perm m) (a b : Nat) (ha : a < l.length) (hb : b < l.length) : ((l.set a l[b]).set b l[a]).Perm m := by
  refine (List.perm_iff_count.2 fun c => ?_).trans h
  exact count_swap c l a b ha hb
theorem textL_snoc (j : JD) : ∀ (is : List Nat) (h i : Nat), textL j h (is ++ [i]) = textL j h is ++ (preL (h + is.length) ++ lineJ j i ++ sufL (h + is.length) ++ [10])
  | [], h, i => by simp [textL]
  | k :: is, h, i => by
    rw [List.cons_append, textL, textL, textL_snoc j is (h + 1) i]
    rw [show h + (k :: is).length = h + 1 + is.length by simp; omega]
    simp [List.append_assoc]
theorem textL_take (j : JD) (is : List Nat) (h k : Nat) (hk : k < is.length) : textL j h (is.take (k + 1)) = textL j h (is.take k) ++ (preL (h + k) ++ lineJ j is[k] ++ sufL (h + k) ++ [10]) := by
  rw [List.take_succ_eq_append_getElem hk, textL_snoc]
  rw [List.length_take, Nat.min_eq_left (Nat.le_of_lt hk)]
end Go.Proofs.YtlpjcfiibbcdjaaGreatDoor
