/- jar: items, plain. No program in sight. -/
import Derived.Test.YtaedohlfcbppaaaSs
import Derived.Test.YtaedohlfcbppaaaNumPlain2
import Derived.Test.YtaedohlfcbppaaaJarSum
namespace Go.Proofs.Ytaedohlfcbppaaa
open Go.RowKit
/-- An item. -/
structure IV where
  name : List UInt8
  data : List UInt8
/-- Is a byte a name's? -/
def wordB (c : Nat) : Bool := (decide (97 ≤ c) && decide (c ≤ 122)) || (decide (65 ≤ c) && decide (c ≤ 90)) || (decide (48 ≤ c) && decide (c ≤ 57)) || c == 47 || c == 95 || c == 36 || c == 46 || c == 45
/-- Is a text a name? -/
def nameOk (s : List UInt8) : Bool := !s.isEmpty && decide (s.length ≤ 64) && s.all fun c => wordB c.toNat
/-- The next item of what is left, behind names: what is wrong, the item, what is left then. -/
def itemR (b : List UInt8) (names : List (List UInt8)) : Int × IV × List UInt8 :=
  if b.length < 1 then (6, ⟨[], []⟩, [])
  else if b.length - 1 < (b.getD 0 0).toNat then (6, ⟨[], []⟩, [])
  else
    let n := (b.getD 0 0).toNat
    let name := (b.drop 1).take n
    let r := b.drop (1 + n)
    if nameOk name = false ∨ name ∈ names then (8, ⟨name, []⟩, [])
    else if r.length < 4 then (6, ⟨name, []⟩, [])
    else if r.length - 4 < getN (r.take 4) + 4 then (6, ⟨name, []⟩, [])
    else
      let m := getN (r.take 4)
      let data := (r.drop 4).take m
      let q := r.drop (4 + m)
      if getN (q.take 4) = sumN data then (0, ⟨name, data⟩, q.drop 4) else (7, ⟨name, data⟩, [])
/-- So many items of what is left, behind others. -/
def itemsR : Nat → List UInt8 → List IV → Int × List IV × List UInt8
  | 0, b, acc => (0, acc, b)
  | k + 1, b, acc =>
    if (itemR b (acc.map (·.name))).1 ≠ 0 then ((itemR b (acc.map (·.name))).1, [], [])
    else itemsR k (itemR b (acc.map (·.name))).2.2 (acc ++ [(itemR b (acc.map (·.name))).2.1])
def magicB : List UInt8 := [67, 74, 48, 49]
/-- A jar's items. -/
def unpackR (b : List UInt8) : Int × List IV :=
  if 65536 < b.length then (9, [])
  else if b.length < 4 then (6, [])
  else if b.take 4 ≠ magicB then (8, [])
  else if b.length < 5 then (6, [])
  else if 40 < (b.getD 4 0).toNat then (8, [])
  else
    let R := itemsR (b.getD 4 0).toNat (b.drop 5) []
    if R.1 ≠ 0 then (R.1, []) else if 0 < R.2.2.length then (8, []) else (0, R.2.1)
/-- An item's bytes. -/
def IV.bytes (x : IV) : List UInt8 := putB x.name.length 1 ++ x.name ++ putB x.data.length 4 ++ x.data ++ putB (sumN x.data) 4
def jarB (l : List IV) : List UInt8 := magicB ++ [UInt8.ofNat l.length] ++ l.flatMap IV.bytes
/-- Are names all unlike? -/
def apartB (l : List IV) : Bool := decide ((l.map (·.name)).Nodup)
/-- Items' jar. -/
def packR (l : List IV) : Int × List UInt8 :=
  if (l.all fun x => nameOk x.name) = false then (13, [])
  else if apartB l = false then (12, [])
  else if 40 < l.length ∨ 65536 < (jarB l).length then (9, [])
  else (0, jarB l)
end Go.Proofs.Ytaedohlfcbppaaa
