/- ops: instructions, plain: Decode and Encode. No program in sight. -/
import Derived.Test.YtfhajbfgdbcpeaaOpsPlain
import Derived.Test.YtfhajbfgdbcpeaaNumSign
namespace Go.Proofs.Ytfhajbfgdbcpeaa
open Go.ChangeShapes Go.WideShapes Go.ChangeAt Go.RowKit
/-- An instruction. -/
structure RW where
  pos : Int
  op : Nat
  a : Int
  b : Int
def RW.cells (r : RW) : List Value := [.int .i64 r.pos, .int .u8 (r.op : Nat), .int .i64 r.a, .int .i64 r.b]
theorem RW.cells_length (r : RW) : r.cells.length = 4 := rfl
theorem RW.cells_one (r : RW) : ∀ u ∈ r.cells, u.oneCell' = true := by
  intro u hu
  simp [RW.cells] at hu
  rcases hu with rfl | rfl | rfl | rfl <;> rfl
/-- Is a place an instruction's? -/
def thereB (l : List RW) (p : Int) : Bool := l.any fun r => r.pos == p
/-- Does each branch go to an instruction? -/
def goesB (l : List RW) : Bool := l.all fun r => !(formN r.op == 7) || thereB l r.a
/-- What stands behind an operation. -/
def tellV (bs : List UInt8) (p f : Nat) : Int := (getR bs ((p : Int) + 1) ((max (sizeN f - 1) 1 : Nat) : Int)).1
def readA (bs : List UInt8) (p f : Nat) : Int :=
  let v := tellV bs p f
  if f = 1 then 0 else if f = 3 then signB v 1 else if f = 4 then signB v 2 else if f = 7 then (p : Int) + signB v 2 else if f = 8 then v / 256 else v
def readB (bs : List UInt8) (p f : Nat) : Int := if f = 8 then signB (tellV bs p f) 1 else 0
/-- Is it no kind of array? -/
def readBad (bs : List UInt8) (p f : Nat) : Bool := f == 9 && !(readA bs p f == 8) && !(readA bs p f == 10)
def opAt (bs : List UInt8) (p : Nat) : Nat := (bs.getD p 0).toNat
def rawAt (bs : List UInt8) (p : Nat) : RW := ⟨p, opAt bs p, readA bs p (formN (opAt bs p)), readB bs p (formN (opAt bs p))⟩
/-- The instructions from a place on, behind others. -/
def decF (bs : List UInt8) : Nat → Nat → List RW → Int × List RW
  | 0, _, acc => (0, acc)
  | fuel + 1, p, acc =>
    if bs.length ≤ p then (0, acc)
    else if formN (opAt bs p) = 0 then (8, [])
    else if bs.length - p < sizeN (formN (opAt bs p)) then (6, [])
    else if readBad bs p (formN (opAt bs p)) = true then (8, [])
    else decF bs fuel (p + sizeN (formN (opAt bs p))) (acc ++ [rawAt bs p])
def decodeR (bs : List UInt8) : Int × List RW :=
  if 4096 < bs.length then (9, [])
  else if (decF bs (bs.length + 1) 0 []).1 ≠ 0 then ((decF bs (bs.length + 1) 0 []).1, [])
  else if goesB (decF bs (bs.length + 1) 0 []).2 = true then (0, (decF bs (bs.length + 1) 0 []).2)
  else (2, [])
/-- Has what a form tells room? -/
def fitsB (r : RW) (f : Nat) : Bool :=
  if f ≠ 8 ∧ r.b ≠ 0 then false
  else if f = 1 then decide (r.a = 0)
  else if f = 3 then decide (-128 ≤ r.a ∧ r.a ≤ 127)
  else if f = 4 then decide (-32768 ≤ r.a ∧ r.a ≤ 32767)
  else if f = 6 then decide (0 ≤ r.a ∧ r.a ≤ 65535)
  else if f = 9 then decide (r.a = 8 ∨ r.a = 10)
  else if f = 8 then decide (0 ≤ r.a ∧ r.a ≤ 255) && decide (-128 ≤ r.b ∧ r.b ≤ 127)
  else if f = 2 ∨ f = 5 then decide (0 ≤ r.a ∧ r.a ≤ 255)
  else decide (f = 7)
/-- A number as 64 bits. -/
def u64N (n : Int) : Nat := (n % 18446744073709551616).toNat
theorem u64N_lt (n : Int) : u64N n < 18446744073709551616 := by unfold u64N; omega
theorem u64N_wrap (n : Int) : IntKind.u64.wrap n = (u64N n : Int) := by rw [IntKind.wrap_u64]; unfold u64N; omega
/-- An instruction's bytes. -/
def encOne (r : RW) : List UInt8 :=
  UInt8.ofNat r.op :: (if formN r.op = 7 then putB (u64N (r.a - r.pos)) 2 else if formN r.op = 8 then putB (u64N r.a) 1 ++ putB (u64N r.b) 1 else putB (u64N r.a) (sizeN (formN r.op) - 1))
def encL (l : List RW) : List UInt8 := l.flatMap encOne
/-- May an instruction stand behind others? -/
def goodAt (l : List RW) (k : Nat) : Bool :=
  match l[k]? with
  | some r => fitsB r (formN r.op) && decide (r.pos = ((encL (l.take k)).length : Nat))
  | none => true
def encodeR (l : List RW) : Int × List UInt8 :=
  if (List.range l.length).all (goodAt l) = false then (8, [])
  else if goesB l = false then (2, [])
  else if 4096 < (encL l).length then (9, [])
  else (0, encL l)
end Go.Proofs.Ytfhajbfgdbcpeaa
