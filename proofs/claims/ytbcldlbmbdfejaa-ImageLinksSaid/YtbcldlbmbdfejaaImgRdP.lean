/- image: reading, in plain Lean. No condition. -/
import Derived.Test.YtbcldlbmbdfejaaImgBytesP
namespace Go.Proofs.Ytbcldlbmbdfejaa
open Go.ChangeShapes Go.WideShapes Go.ChangeAt Go.RowKit
/-- Where a reader stands, and what is wrong. -/
abbrev St : Type := Nat × Int
abbrev RM (α : Type) : Type := St → α × St
def bindR {α β : Type} (f : RM α) (g : α → RM β) : RM β := fun s => g (f s).1 (f s).2
def pureR {α : Type} (a : α) : RM α := fun s => (a, s)
def getS (bs : List UInt8) (n : Nat) : RM Int := fun s => if s.2 ≠ 0 then (0, s) else ((getR bs s.1 n).1, (s.1 + n, (getR bs s.1 n).2))
def lessS (bs : List UInt8) : RM Int := fun s => ((getS bs 2 s).1 - 1, (getS bs 2 s).2)
/-- What stands at a text's place, its length read. -/
def textT (bs : List UInt8) (v : Int) : RM (List UInt8) := fun s =>
  if s.2 ≠ 0 then ([], s) else if (bs.length : Int) - s.1 < v then ([], (s.1, 6)) else ((bs.drop s.1).take v.toNat, (s.1 + v.toNat, 0))
def textS (bs : List UInt8) (n : Nat) : RM (List UInt8) := bindR (getS bs n) fun v => textT bs v
def rowS {α : Type} (one : RM α) : Nat → RM (List α)
  | 0 => pureR []
  | n + 1 => fun s => if s.2 ≠ 0 then ([], s) else ((one s).1 :: (rowS one n (one s).2).1, (rowS one n (one s).2).2)
/-- A row: how many, then each. -/
def manyS {α : Type} (bs : List UInt8) (one : RM α) : RM (List α) := bindR (getS bs 2) fun n => rowS one n.toNat
structure CP where
  name : List UInt8
  sup : Int
  cells : Int
  refs : List Int
  table : List Int
def CW.p (c : CW) : CP := ⟨c.name, c.sup, c.cells, c.refs, c.table⟩
structure KP where
  pos : Int
  len : Int
  stack : Int
  locals : Int
  args : Int
  traps : List TW
def KW.p (k : KW) : KP := ⟨k.pos, k.len, k.stack, k.locals, k.args, k.traps⟩
structure XP where
  cs : List CP
  ms : List MW
  st : Int
  ss : List Int
  ys : List (List UInt8)
  xs : List (List UInt8)
  ks : List KP
  main : Int
def XW.p (x : XW) : XP := ⟨x.cs.map CW.p, x.ms, x.st, x.ss, x.ys, x.xs, x.ks.map KW.p, x.main⟩
def classS (bs : List UInt8) : RM CP := bindR (textS bs 1) fun nm => bindR (lessS bs) fun sup => bindR (getS bs 2) fun cells => bindR (manyS bs (getS bs 2)) fun refs => bindR (manyS bs (getS bs 2)) fun table => pureR ⟨nm, sup, cells, refs, table⟩
def statS (v : Int) : RM Unit := fun s => if 1 < v ∧ s.2 = 0 then ((), (s.1, 8)) else ((), s)
def methodS (bs : List UInt8) : RM MW := bindR (getS bs 2) fun cls => bindR (textS bs 1) fun nm => bindR (textS bs 1) fun ds => bindR (getS bs 1) fun v => bindR (statS v) fun _ => bindR (lessS bs) fun slot => bindR (lessS bs) fun nat => pureR ⟨cls, nm, ds, decide (v = 1), slot, nat⟩
def trapS (bs : List UInt8) : RM TW := bindR (getS bs 2) fun a => bindR (getS bs 2) fun b => bindR (getS bs 2) fun c => bindR (lessS bs) fun d => pureR ⟨a, b, c, d⟩
def codeS (bs : List UInt8) : RM KP := bindR (getS bs 4) fun a => bindR (getS bs 2) fun b => bindR (getS bs 2) fun c => bindR (getS bs 2) fun d => bindR (getS bs 2) fun e => bindR (manyS bs (trapS bs)) fun t => pureR ⟨a, b, c, d, e, t⟩
def imageS (bs : List UInt8) : RM XP := bindR (manyS bs (classS bs)) fun cs => bindR (manyS bs (methodS bs)) fun ms => bindR (getS bs 2) fun st => bindR (manyS bs (getS bs 2)) fun ss =>
  bindR (manyS bs (textS bs 1)) fun ys => bindR (manyS bs (textS bs 2)) fun xs => bindR (getS bs 2) fun main => bindR (rowS (codeS bs) ms.length) fun ks => pureR ⟨cs, ms, st, ss, ys, xs, ks, main⟩
/-- Do codes stand one behind the other? -/
def laidP : List KP → Int → Int → Bool
  | [], pos, fin => decide (pos = fin)
  | k :: r, pos, fin => if (k.len = 0 ∧ k.pos ≠ 0) ∨ (0 < k.len ∧ k.pos ≠ pos) then false else laidP r (pos + k.len) fin
def xp0 : XP := ⟨[], [], 0, [], [], [], [], 0⟩
def parseR (bs : List UInt8) : XP × Int :=
  if 262144 < bs.length then (xp0, 9)
  else if bs.length < 4 ∨ bs.take 4 ≠ magicB then (xp0, 8)
  else
    if (imageS bs (4, 0)).2.2 ≠ 0 then (xp0, (imageS bs (4, 0)).2.2)
    else if laidP (imageS bs (4, 0)).1.ks (imageS bs (4, 0)).2.1 bs.length = false then (xp0, 8)
    else ((imageS bs (4, 0)).1, 0)
/-- A state that may be, over so many bytes. -/
def StOk (n : Nat) (s : St) : Prop := (s.2 = 0 → s.1 ≤ n) ∧ s.1 ≤ n + 8
theorem getR_val (bs : List UInt8) (p n : Nat) (hn : n ≤ 4) : 0 ≤ (getR bs p n).1 ∧ (getR bs p n).1 < 4294967296 := by
  have h0 : (0 : Int) ≤ 0 ∧ (0 : Int) < 4294967296 := by omega
  unfold getR
  split
  · exact h0
  · split
    · exact h0
    · have h1 := getN_lt ((bs.drop ((p : Int)).toNat).take ((n : Int)).toNat)
      have h2 : ((bs.drop ((p : Int)).toNat).take ((n : Int)).toNat).length ≤ 4 := by rw [List.length_take]; omega
      have h3 : 256 ^ ((bs.drop ((p : Int)).toNat).take ((n : Int)).toNat).length ≤ 256 ^ 4 := Nat.pow_le_pow_right (by omega) h2
      have h4 : (256 ^ 4 : Nat) = 4294967296 := by decide
      constructor
      · show (0 : Int) ≤ ((getN _ : Nat) : Int)
        omega
      · show ((getN _ : Nat) : Int) < 4294967296
        omega
theorem getR_two (bs : List UInt8) (p n : Nat) (hn : n ≤ 2) : 0 ≤ (getR bs p n).1 ∧ (getR bs p n).1 < 65536 := by
  have h0 : (0 : Int) ≤ 0 ∧ (0 : Int) < 65536 := by omega
  unfold getR
  split
  · exact h0
  · split
    · exact h0
    · have h1 := getN_lt ((bs.drop ((p : Int)).toNat).take ((n : Int)).toNat)
      have h2 : ((bs.drop ((p : Int)).toNat).take ((n : Int)).toNat).length ≤ 2 := by rw [List.length_take]; omega
      have h3 : 256 ^ ((bs.drop ((p : Int)).toNat).take ((n : Int)).toNat).length ≤ 256 ^ 2 := Nat.pow_le_pow_right (by omega) h2
      have h4 : (256 ^ 2 : Nat) = 65536 := by decide
      constructor
      · show (0 : Int) ≤ ((getN _ : Nat) : Int)
        omega
      · show ((getN _ : Nat) : Int) < 65536
        omega
theorem getR_err (bs : List UInt8) (p n : Nat) (h1 : 1 ≤ n) (hn : n ≤ 8) : ((getR bs p n).2 = 0 ∧ p + n ≤ bs.length) ∨ ((getR bs p n).2 = 6 ∧ bs.length < p + n) := by
  unfold getR
  rw [if_neg (by omega)]
  split
  · exact .inr ⟨rfl, by omega⟩
  · exact .inl ⟨rfl, by omega⟩
theorem getS_ok (bs : List UInt8) (n : Nat) (h1 : 1 ≤ n) (hn : n ≤ 8) (s : St) (h : StOk bs.length s) : StOk bs.length (getS bs n s).2 := by
  unfold getS
  split
  · exact h
  · rename_i h0
    have h2 := h.1 (by omega)
    rcases getR_err bs s.1 n h1 hn with ⟨e, hp⟩ | ⟨e, hp⟩
    · exact ⟨fun _ => hp, by show s.1 + n ≤ _; omega⟩
    · exact ⟨fun h => by simp only [e] at h; omega, by show s.1 + n ≤ _; omega⟩
theorem getS_val (bs : List UInt8) (n : Nat) (hn : n ≤ 4) (s : St) : 0 ≤ (getS bs n s).1 ∧ (getS bs n s).1 < 4294967296 := by
  unfold getS
  split
  · exact ⟨by show (0 : Int) ≤ 0; omega, by show (0 : Int) < _; omega⟩
  · exact getR_val bs s.1 n hn
theorem getS_two (bs : List UInt8) (n : Nat) (hn : n ≤ 2) (s : St) : 0 ≤ (getS bs n s).1 ∧ (getS bs n s).1 < 65536 := by
  unfold getS
  split
  · exact ⟨by show (0 : Int) ≤ 0; omega, by show (0 : Int) < _; omega⟩
  · exact getR_two bs s.1 n hn
theorem textT_ok (bs : List UInt8) (v : Int) (hv : 0 ≤ v) (s : St) (h : StOk bs.length s) : StOk bs.length (textT bs v s).2 := by
  unfold textT
  split
  · exact h
  · rename_i h0
    have h2 := h.1 (by omega)
    split
    · exact ⟨fun h => by simp at h, h.2⟩
    · exact ⟨fun _ => by show s.1 + v.toNat ≤ _; omega, by show s.1 + v.toNat ≤ _; omega⟩
end Go.Proofs.Ytbcldlbmbdfejaa
