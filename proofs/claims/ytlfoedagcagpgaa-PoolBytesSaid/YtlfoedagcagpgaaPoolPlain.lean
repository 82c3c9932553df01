/- pool: constants, plain. No program in sight. -/
import Derived.Test.YtlfoedagcagpgaaSs
import Derived.Test.YtlfoedagcagpgaaUtfPlain
import Derived.Test.YtlfoedagcagpgaaNumPlain2
namespace Go.Proofs.Ytlfoedagcagpgaa
open Go.ChangeShapes Go.WideShapes Go.ChangeAt Go.RowKit
/-- A constant. -/
structure KV where
  tag : Int
  a : Int
  b : Int
  n : Int
  s : List UInt8
def KV.cells (c : KV) : List Value := [.int .i64 c.tag, .int .i64 c.a, .int .i64 c.b, .int .i64 c.n, .string ⟨c.s.toArray⟩]
theorem KV.cells_length (c : KV) : c.cells.length = 5 := rfl
theorem KV.cells_one (c : KV) : ∀ u ∈ c.cells, u.oneCell' = true := by
  intro u hu
  simp [KV.cells] at hu
  rcases hu with rfl | rfl | rfl | rfl | rfl <;> rfl
def kz : KV := ⟨0, 0, 0, 0, []⟩
/-- What stands at a place. -/
def kAt (l : List KV) (i : Int) : KV := l.getD i.toNat kz
/-- Has a place a tag? -/
def isT (l : List KV) (i t : Int) : Bool := decide (1 ≤ i ∧ i < l.length ∧ (kAt l i).tag = t)
/-- A text at a place. -/
def textAt (l : List KV) (i : Int) : List UInt8 := if isT l i 1 then (kAt l i).s else []
def classAt (l : List KV) (i : Int) : List UInt8 × Bool := if isT l i 7 then (textAt l (kAt l i).a, isT l (kAt l i).a 1) else ([], false)
def memberAt (l : List KV) (i t : Int) : List UInt8 × List UInt8 × List UInt8 × Bool :=
  if (t = 9 ∨ t = 10) ∧ isT l i t = true ∧ isT l (kAt l i).b 12 = true ∧ (classAt l (kAt l i).a).2 = true ∧ isT l (kAt l (kAt l i).b).a 1 = true ∧ isT l (kAt l (kAt l i).b).b 1 = true then
    ((classAt l (kAt l i).a).1, textAt l (kAt l (kAt l i).b).a, textAt l (kAt l (kAt l i).b).b, true)
  else ([], [], [], false)
/-- Has a place nothing that it may not have? -/
def bareOk (c : KV) : Bool :=
  (decide (c.tag = 1) || c.s.isEmpty) && (decide (c.tag = 5) || decide (c.n = 0) || decide (c.tag = 3 ∧ -2147483648 ≤ c.n ∧ c.n ≤ 2147483647)) &&
  (decide (c.tag = 9 ∨ c.tag = 10 ∨ c.tag = 12) || decide (c.b = 0)) && (decide (c.tag = 9 ∨ c.tag = 10 ∨ c.tag = 12 ∨ c.tag = 7 ∨ c.tag = 8) || decide (c.a = 0))
/-- Does a place lead where it has to? -/
def leadOk (l : List KV) (i : Nat) : Bool :=
  let c := kAt l i
  if c.tag = 0 then i == 0 || decide ((kAt l ((i : Int) - 1)).tag = 5)
  else if c.tag = 1 then (decodeB c.s).isSome && decide (c.s.length ≤ 65535)
  else if c.tag = 3 then true
  else if c.tag = 5 then decide (i + 1 < l.length) && decide ((kAt l ((i : Int) + 1)).tag = 0)
  else if c.tag = 12 then isT l c.a 1 && isT l c.b 1
  else if c.tag = 7 ∨ c.tag = 8 then isT l c.a 1
  else if c.tag = 9 ∨ c.tag = 10 then isT l c.a 7 && isT l c.b 12
  else false
/-- May a place be as it is? -/
def placeOk (l : List KV) (i : Nat) : Bool := bareOk (kAt l i) && leadOk l i
/-- May a pool be? -/
def poolOk (l : List KV) : Bool := decide (1 ≤ l.length) && decide (l.length ≤ 1024) && decide ((kAt l 0).tag = 0) && (List.range l.length).all (placeOk l)
end Go.Proofs.Ytlfoedagcagpgaa
