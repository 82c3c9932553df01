/- image: what stands in memory. No condition. -/
import Derived.Test.YtbcldlbmbdfejaaImgWr
namespace Go.Proofs.Ytbcldlbmbdfejaa
open Go.ChangeShapes Go.WideShapes Go.ChangeAt Go.RowKit
def encS (s : List UInt8) : Value := .string ⟨s.toArray⟩
/-- A class, as it is laid. -/
structure CW where
  name : List UInt8
  sup : Int
  cells : Int
  ra : Option Addr
  rn : Nat
  rc : Nat
  refs : List Int
  ta : Option Addr
  tn : Nat
  tc : Nat
  table : List Int
def CW.vals (c : CW) : List Value := [.string ⟨c.name.toArray⟩, .int .i64 c.sup, .int .i64 c.cells, .slice c.ra c.rn c.rc, .slice c.ta c.tn c.tc]
structure CW.Rd (w : World) (c : CW) : Prop where
  r : Sl encZ w c.ra c.rn c.refs
  t : Sl encZ w c.ta c.tn c.table
  rc : c.rn ≤ c.rc
  tc : c.tn ≤ c.tc
def CW.right (c : CW) : Prop := IntR c.sup ∧ IntR c.cells ∧ (∀ v ∈ c.refs, IntR v) ∧ (∀ v ∈ c.table, IntR v)
/-- A method. -/
structure MW where
  cls : Int
  name : List UInt8
  desc : List UInt8
  stat : Bool
  slot : Int
  nat : Int
def MW.vals (m : MW) : List Value := [.int .i64 m.cls, .string ⟨m.name.toArray⟩, .string ⟨m.desc.toArray⟩, .bool m.stat, .int .i64 m.slot, .int .i64 m.nat]
def MW.right (m : MW) : Prop := IntR m.cls ∧ IntR m.slot ∧ IntR m.nat
/-- A trap. -/
structure TW where
  frm : Int
  upto : Int
  pos : Int
  cls : Int
def TW.vals (t : TW) : List Value := [.int .i64 t.frm, .int .i64 t.upto, .int .i64 t.pos, .int .i64 t.cls]
def TW.right (t : TW) : Prop := IntR t.frm ∧ IntR t.upto ∧ IntR t.pos ∧ IntR t.cls
/-- Where a code stands. -/
structure KW where
  pos : Int
  len : Int
  stack : Int
  locals : Int
  args : Int
  ta : Option Addr
  tn : Nat
  tc : Nat
  traps : List TW
def KW.vals (k : KW) : List Value := [.int .i64 k.pos, .int .i64 k.len, .int .i64 k.stack, .int .i64 k.locals, .int .i64 k.args, .slice k.ta k.tn k.tc]
structure KW.Rd (w : World) (k : KW) : Prop where
  t : Ss 4 TW.vals w k.ta k.tn k.traps
  tc : k.tn ≤ k.tc
def KW.right (k : KW) : Prop := IntR k.pos ∧ IntR k.len ∧ IntR k.stack ∧ IntR k.locals ∧ IntR k.args ∧ (∀ t ∈ k.traps, t.right)
theorem row_cell {w : World} {g : Nat} {C : Array Value} {t : TypeId} {fr : Nat × Nat} (h : w.heap[g]? = some (.cells C t fr)) (k : Nat) {v : Value} (hk : C[k]? = some v) : w.cell? ⟨g, k, none⟩ = some v := by
  rw [cell_of_row w g k _ _ _ h]; exact hk
theorem row_melt {w : World} {g : Nat} {C : Array Value} {t : TypeId} (h : w.heap[g]? = some (.cells C t)) (k : Nat) : w.frozen? ⟨g, k, none⟩ = false := by
  unfold World.frozen?
  rw [h]
  simp
theorem row_lt {w : World} {g : Nat} {C : Array Value} {t : TypeId} {fr : Nat × Nat} (h : w.heap[g]? = some (.cells C t fr)) : g < w.heap.size := (Array.getElem?_eq_some_iff.1 h).1
theorem row_below {w w' : World} {g : Nat} {o : Obj} (h : w.heap[g]? = some o) (hb : Below w.heap.size w w') : w'.heap[g]? = some o := by rw [hb.block g (Array.getElem?_eq_some_iff.1 h).1]; exact h
end Go.Proofs.Ytbcldlbmbdfejaa
