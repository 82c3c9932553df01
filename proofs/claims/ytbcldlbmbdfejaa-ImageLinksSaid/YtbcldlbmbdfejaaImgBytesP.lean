/- image: an image's bytes, in plain Lean. No condition. -/
import Derived.Test.YtbcldlbmbdfejaaImgTabs
namespace Go.Proofs.Ytbcldlbmbdfejaa
open Go.ChangeShapes Go.WideShapes Go.ChangeAt Go.RowKit
def lensL (D : List (List UInt8)) : Nat := (D.map List.length).sum
def hereI (pos : Int) (d : List UInt8) : Int := if d.length = 0 then 0 else pos
def codeB (pos : Int) (k : KW) (d : List UInt8) : List UInt8 := putB (u64V (hereI pos d)) 4 ++ putsB [(d.length : Int), k.stack, k.locals, k.args] 2 ++ rowB TW.bytes k.traps
def codeO (pos : Int) (k : KW) (d : List UInt8) : Bool := !roomB (hereI pos d) 4 || badB [(d.length : Int), k.stack, k.locals, k.args] 2 || rowO TW.odd k.traps
def headsB (pos : Int) : List (KW × List UInt8) → List UInt8
  | [] => []
  | p :: r => codeB pos p.1 p.2 ++ headsB (pos + p.2.length) r
def headsO (pos : Int) : List (KW × List UInt8) → Bool
  | [] => false
  | p :: r => codeO pos p.1 p.2 || headsO (pos + p.2.length) r
def sizeK (ks : List KW) : Nat := (ks.map fun k => 14 + 8 * k.traps.length).sum
theorem headsB_snoc (P : List (KW × List UInt8)) (pos : Int) (k : KW) (d : List UInt8) : headsB pos (P ++ [(k, d)]) = headsB pos P ++ codeB (pos + (lensL (P.map (·.2)) : Nat)) k d := by
  induction P generalizing pos with
  | nil => simp [headsB, lensL]
  | cons p P ih =>
    simp only [List.cons_append, headsB, ih, List.append_assoc, List.map_cons, lensL, List.sum_cons]
    rw [show pos + (p.2.length : Int) + (((P.map (·.2)).map List.length).sum : Nat) = pos + ((p.2.length + ((P.map (·.2)).map List.length).sum : Nat) : Int) by omega]
theorem headsO_snoc (P : List (KW × List UInt8)) (pos : Int) (k : KW) (d : List UInt8) : headsO pos (P ++ [(k, d)]) = (headsO pos P || codeO (pos + (lensL (P.map (·.2)) : Nat)) k d) := by
  induction P generalizing pos with
  | nil => simp [headsO, lensL]
  | cons p P ih =>
    simp only [List.cons_append, headsO, ih, Bool.or_assoc, List.map_cons, lensL, List.sum_cons]
    rw [show pos + (p.2.length : Int) + (((P.map (·.2)).map List.length).sum : Nat) = pos + ((p.2.length + ((P.map (·.2)).map List.length).sum : Nat) : Int) by omega]
theorem trapsB_len (l : List TW) : (rowB TW.bytes l).length = 2 + 8 * l.length := by
  rw [rowB_len]
  congr 1
  induction l with
  | nil => rfl
  | cons t l ih => rw [List.flatMap_cons, List.length_append, ih, TW.bytes_len, List.length_cons]; omega
theorem codeB_len (pos : Int) (k : KW) (d : List UInt8) : (codeB pos k d).length = 14 + 8 * k.traps.length := by
  unfold codeB
  rw [List.length_append, List.length_append, putB_length, putsB_len, trapsB_len]
  simp only [List.length_cons, List.length_nil]
  omega
theorem headsB_len (pos : Int) (P : List (KW × List UInt8)) : (headsB pos P).length = sizeK (P.map (·.1)) := by
  induction P generalizing pos with
  | nil => rfl
  | cons p P ih => simp only [headsB, List.length_append, codeB_len, ih, List.map_cons, sizeK, List.sum_cons]
theorem sizeK_snoc (ks : List KW) (k : KW) : sizeK (ks ++ [k]) = sizeK ks + (14 + 8 * k.traps.length) := by unfold sizeK; simp
theorem lensL_snoc (D : List (List UInt8)) (d : List UInt8) : lensL (D ++ [d]) = lensL D + d.length := by unfold lensL; simp
theorem flatten_len (D : List (List UInt8)) : D.flatten.length = lensL D := by unfold lensL; rw [List.length_flatten]
theorem sizeK_take (ks : List KW) (j : Nat) : sizeK (ks.take j) ≤ sizeK ks := by
  unfold sizeK
  rw [← List.take_append_drop j ks, List.map_append, List.sum_append, List.take_append_drop]
  omega
theorem lensL_take (D : List (List UInt8)) (j : Nat) : lensL (D.take j) ≤ lensL D := by
  unfold lensL
  rw [← List.take_append_drop j D, List.map_append, List.sum_append, List.take_append_drop]
  omega
theorem take_snocX {α : Type} {L : List α} {j : Nat} {r : α} (h : L[j]? = some r) : L.take (j + 1) = L.take j ++ [r] := by
  obtain ⟨hj, he⟩ := List.getElem?_eq_some_iff.1 h
  rw [List.take_succ_eq_append_getElem hj, he]
def startX (x : XW) : Nat := (tabB x).length + sizeK x.ks
def bytesX (x : XW) (D : List (List UInt8)) : List UInt8 := tabB x ++ headsB (startX x : Nat) (x.ks.zip D) ++ D.flatten
def oddX (x : XW) (D : List (List UInt8)) : Bool := tabO x || headsO (startX x : Nat) (x.ks.zip D)
def imgBytes (x : XW) (D : List (List UInt8)) : Int × List UInt8 :=
  if x.ks.length ≠ x.ms.length ∨ D.length ≠ x.ks.length then (8, [])
  else if oddX x D = true then (8, [])
  else if 262144 < (bytesX x D).length then (9, [])
  else (0, bytesX x D)
theorem bytesX_len (x : XW) (D : List (List UInt8)) (h : D.length = x.ks.length) : (bytesX x D).length = startX x + lensL D := by
  unfold bytesX startX
  rw [List.length_append, List.length_append, headsB_len, flatten_len]
  have : (x.ks.zip D).map (·.1) = x.ks := by
    rw [List.map_fst_zip]
    omega
  rw [this]
end Go.Proofs.Ytbcldlbmbdfejaa
