/- asm: own texts, merged (wip/merge2.py). No condition. -/
import Derived.Test.YtclpkipaehpkdaaGreatDoorQ12AsmNames
import Derived.Test.YtclpkipaehpkdaaGreatDoorQ14AsmNames
import Derived.Test.YtclpkipaehpkdaaGreatDoorQ11AsmNames
import Derived.Test.YtclpkipaehpkdaaGreatDoorQ06AsmNames
import Derived.Maps.OwnSet
import Derived.DeepKeys4
import Derived.StillTailTactics
import Derived.Deep.LoopGhost
import Derived.Deep.DeepCutAuto
import Derived.Test.YtclpkipaehpkdaaGreatDoorQ04AsmNames
import Derived.StillTail
set_option linter.unusedVariables false
set_option linter.unusedSimpArgs false
namespace Go.Proofs.YtclpkipaehpkdaaGreatDoor
open Go.ChangeShapes Go.WideShapes Go.ChangeAt Go.RowKit
def eqK (c k : KV) : Bool := decide (k.tag = c.tag ∧ k.a = c.a ∧ k.b = c.b ∧ k.n = c.n ∧ k.s = c.s)
theorem eqK_iff {c k : KV} : eqK c k = true ↔ k = c := by
  unfold eqK
  rw [decide_eq_true_iff]
  obtain ⟨a1, a2, a3, a4, a5⟩ := k
  obtain ⟨b1, b2, b3, b4, b5⟩ := c
  simp [KV.mk.injEq]
def idxK (l : List KV) (c : KV) : Option Nat := l.findIdx? (eqK c)
def pushK (l : List KV) (c : KV) : List KV := (l ++ [c]) ++ (if c.tag = 5 then [kz] else [])
structure LW where
  l : List KV
  e : Int
def LW.need (s : LW) (ok : Bool) (k : Int) : LW := ⟨s.l, needE s.e ok k⟩
def LW.put (s : LW) (c : KV) : LW × Nat := match idxK s.l c with
  | some i => (s, i)
  | none => ((⟨pushK s.l c, s.e⟩ : LW).need (decide ((pushK s.l c).length ≤ 1024)) 9, s.l.length)
def LW.text (s : LW) (t : List UInt8) : LW × Nat := s.put ⟨1, 0, 0, 0, t⟩
def LW.cls (s : LW) (t : List UInt8) (arr : Bool) : LW × Nat :=
  (((s.need (classB t || (arr && arrayB t)) 8).text t).1).put ⟨7, (((s.need (classB t || (arr && arrayB t)) 8).text t).2 : Nat), 0, 0, []⟩
def LW.member (s : LW) (x : IN) (tag : Int) (p : List UInt8 → Bool) : LW × Nat :=
  let c := (s.need (memB x.nm && p x.ds) 8).cls x.cl false
  let n := c.1.text x.nm
  let d := n.1.text x.ds
  let b := d.1.put ⟨12, (n.2 : Nat), (d.2 : Nat), 0, []⟩
  b.1.put ⟨tag, (c.2 : Nat), (b.2 : Nat), 0, []⟩
def int32B (n : Int) : Bool := decide (-2147483648 ≤ n ∧ n ≤ 2147483647)
def LW.con (s : LW) (x : IN) : LW × Nat :=
  if x.ds = [73] ∧ x.op = 18 ∧ x.tx = [] then (s.need (int32B x.n) 8).put ⟨3, 0, 0, x.n, []⟩
  else if x.ds = [83] ∧ x.op = 18 ∧ x.n = 0 then ((s.text x.tx).1).put ⟨8, ((s.text x.tx).2 : Nat), 0, 0, []⟩
  else if x.ds = [74] ∧ x.op = 20 ∧ x.tx = [] then s.put ⟨5, 0, 0, x.n, []⟩
  else (s.need false 8, 0)
def plainI (x : IN) : Bool := decide ((x.m = 0 ∨ formN x.op = 8) ∧ x.cl = [] ∧ x.nm = [] ∧ x.ds = [] ∧ x.tx = [])
def bareI (x : IN) : Bool := decide (x.n = 0 ∧ x.m = 0 ∧ x.tx = [])
def onlyI (x : IN) : Bool := decide (x.n = 0 ∧ x.m = 0 ∧ x.nm = [] ∧ x.ds = [] ∧ x.tx = [])
def LW.wide (s : LW) (x : IN) : LW × Nat :=
  if memOp x.op then (s.need (bareI x) 8).member x 9 typeB
  else if invOp x.op then (s.need (bareI x) 8).member x 10 methB
  else (s.need (onlyI x) 8).cls x.cl (decide (x.op ≠ 187))
def wrap32I (n : Int) : Int := (n + 2147483648) % 4294967296 - 2147483648
def LW.small (s : LW) (n : Int) : LW × Int := (s.need (int32B n) 8, wrap32I n)
def LW.raw (s : LW) (p : Nat) (x : IN) : LW × RW :=
  if x.op = 18 ∨ x.op = 20 then
    let c := (s.need (decide (x.cl = [] ∧ x.nm = [] ∧ x.m = 0)) 8).con x
    (c.1.need (decide (formN x.op ≠ 5) || decide (c.2 ≤ 255)) 9, ⟨p, x.op, (c.2 : Nat), 0⟩)
  else if formN x.op = 6 then ((s.wide x).1, ⟨p, x.op, ((s.wide x).2 : Nat), 0⟩)
  else if formN x.op = 0 then (s.need false 8, ⟨p, x.op, 0, 0⟩)
  else (((s.need (plainI x) 8).small x.n).1, ⟨p, x.op, wrap32I x.n, x.m⟩)
def lenI (x : IN) : Nat := sizeN (formN x.op)
def LW.raws (s : LW) (p : Nat) : List IN → LW × List RW
  | [] => (s, [])
  | x :: l => (((s.raw p x).1.raws (p + lenI x) l).1, (s.raw p x).2 :: ((s.raw p x).1.raws (p + lenI x) l).2)
def posI (l : List IN) (n : Nat) : Nat := ((l.take n).map lenI).sum
def inB (l : List IN) (n : Int) : Bool := decide (0 ≤ n ∧ n < l.length)
def branchR (l : List IN) (x : IN) (r : RW) : RW := if formN x.op = 7 ∧ inB l x.n = true then { r with a := (posI l x.n.toNat : Nat) } else r
def LW.goes (s : LW) (l : List IN) : List IN → LW
  | [] => s
  | x :: k => (if formN x.op = 7 then s.need (inB l x.n) 2 else s).goes l k
def rawsB (l : List IN) (rs : List RW) : List RW := (l.zip rs).map fun p => branchR l p.1 p.2
def LW.code (s : LW) (l : List IN) : LW × List UInt8 :=
  let c := s.raws 0 l
  let e := encodeR (rawsB l c.2)
  ((c.1.goes l l).need (decide (e.1 = 0)) e.1, e.2)
def LW.slot (s : LW) (t : List UInt8) : LW × KS :=
  if t = [84] then (s, ⟨0, 0⟩) else if t = [73] then (s, ⟨1, 0⟩) else if t = [74] then (s, ⟨4, 0⟩) else if t = [78] then (s, ⟨5, 0⟩)
  else if semOk t then ((s.cls (semV t) false).1, ⟨7, ((s.cls (semV t) false).2 : Nat)⟩)
  else (((s.need (arrayB t) 8).cls t true).1, ⟨7, (((s.need (arrayB t) 8).cls t true).2 : Nat)⟩)
def LW.slots (s : LW) : List (List UInt8) → LW × List KS
  | [] => (s, [])
  | t :: l => (((s.slot t).1.slots l).1, (s.slot t).2 :: ((s.slot t).1.slots l).2)
def flagsI (st : Bool) : Int := if st then 8 else 0
def LW.place (s : LW) (l : List IN) (n most : Int) : LW × Int := if n < 0 ∨ most < n then (s.need false 2, 0) else (s, (posI l n.toNat : Nat))
def LW.trap (s : LW) (l : List IN) (t : UT) : LW × KT :=
  let a := s.place l t.fr (l.length - 1)
  let b := a.1.place l t.tt l.length
  let c := b.1.place l t.pl (l.length - 1)
  if t.cl = [] then (c.1, ⟨a.2, b.2, c.2, 0⟩) else ((c.1.cls t.cl false).1, ⟨a.2, b.2, c.2, ((c.1.cls t.cl false).2 : Nat)⟩)
def LW.traps (s : LW) (l : List IN) : List UT → LW × List KT
  | [] => (s, [])
  | t :: k => (((s.trap l t).1.traps l k).1, (s.trap l t).2 :: ((s.trap l t).1.traps l k).2)
def LW.map (s : LW) (l : List IN) (m : UP) : LW × KP :=
  let a := s.place l m.pl (l.length - 1)
  let b := a.1.slots m.loc
  let c := b.1.slots m.stk
  (c.1, ⟨a.2, none, 0, 0, b.2, none, 0, 0, c.2⟩)
def LW.maps (s : LW) (l : List IN) : List UP → LW × List KP
  | [] => (s, [])
  | t :: k => (((s.map l t).1.maps l k).1, (s.map l t).2 :: ((s.map l t).1.maps l k).2)
def LW.method (s : LW) (m : UM) : LW × KM :=
  let n := (s.need (memB m.nm && methB m.ds) 8).text m.nm
  let d := n.1.text m.ds
  let c := (d.1.text sCode).1
  let c2 := if m.maps = [] then c else (c.text sMap).1
  let k := c2.code m.code
  let t := k.1.traps m.code m.traps
  let p := t.1.maps m.code m.maps
  (p.1, ⟨flagsI m.st, (n.2 : Nat), (d.2 : Nat), m.sk, m.lo, none, 0, 0, k.2, none, 0, 0, t.2, none, 0, 0, p.2⟩)
def LW.methods (s : LW) : List UM → LW × List KM
  | [] => (s, [])
  | t :: k => (((s.method t).1.methods k).1, (s.method t).2 :: ((s.method t).1.methods k).2)
def LW.field (s : LW) (f : UF) : LW × KD :=
  let n := (s.need (memB f.nm && typeB f.ds) 8).text f.nm
  let d := n.1.text f.ds
  (d.1, ⟨flagsI f.st, (n.2 : Nat), (d.2 : Nat)⟩)
def LW.fields (s : LW) : List UF → LW × List KD
  | [] => (s, [])
  | t :: k => (((s.field t).1.fields k).1, (s.field t).2 :: ((s.field t).1.fields k).2)
def LW.consts1 (s : LW) : List IN → LW
  | [] => s
  | x :: l => (if x.op = 18 then (s.con x).1 else s).consts1 l
def LW.consts (s : LW) : List UM → LW
  | [] => s
  | m :: l => (s.consts1 m.code).consts l
def lowS (u : UU) : LW × KF :=
  let s := (⟨[kz], 0⟩ : LW).consts u.methods
  let t := s.cls u.nm false
  let p := if u.su = [] then (t.1, 0) else t.1.cls u.su false
  let f := p.1.fields u.fields
  let m := f.1.methods u.methods
  (m.1, ⟨none, 0, 0, m.1.l, (t.2 : Nat), (p.2 : Nat), none, 0, 0, f.2, none, 0, 0, m.2⟩)
def lowE (u : UU) : Int := if (lowS u).1.e = 0 then (if classOk (lowS u).2 then 0 else 8) else (lowS u).1.e
theorem pushK_len (l : List KV) (c : KV) : (pushK l c).length ≤ l.length + 2 := by
  unfold pushK
  split <;> simp
theorem put_len (s : LW) (c : KV) : (s.put c).1.l.length ≤ s.l.length + 2 := by
  unfold LW.put
  split
  · simp
  · exact pushK_len _ _
theorem idxK_lt {l : List KV} {c : KV} {i : Nat} (h : idxK l c = some i) : i < l.length := (List.findIdx?_eq_some_iff_getElem.1 h).1
theorem put_lt (s : LW) (c : KV) : (s.put c).2 < (s.put c).1.l.length := by
  unfold LW.put
  split
  · next h => exact idxK_lt h
  · show s.l.length < (pushK s.l c).length
    unfold pushK
    simp
theorem put_le (s : LW) (c : KV) : (s.put c).2 ≤ s.l.length := by
  unfold LW.put
  split
  · next h => exact Nat.le_of_lt (idxK_lt h)
  · exact Nat.le_refl _
theorem text_len (s : LW) (t : List UInt8) : (s.text t).1.l.length ≤ s.l.length + 2 := put_len _ _
theorem cls_len (s : LW) (t : List UInt8) (arr : Bool) : (s.cls t arr).1.l.length ≤ s.l.length + 4 := by
  unfold LW.cls
  have h1 := text_len (s.need (classB t || (arr && arrayB t)) 8) t
  have h2 := put_len ((s.need (classB t || (arr && arrayB t)) 8).text t).1 ⟨7, (((s.need (classB t || (arr && arrayB t)) 8).text t).2 : Nat), 0, 0, []⟩
  have h3 : (s.need (classB t || (arr && arrayB t)) 8).l = s.l := rfl
  rw [h3] at h1
  omega
theorem member_len (s : LW) (x : IN) (tag : Int) (p : List UInt8 → Bool) : (s.member x tag p).1.l.length ≤ s.l.length + 12 := by
  unfold LW.member
  dsimp only
  have h0 : (s.need (memB x.nm && p x.ds) 8).l = s.l := rfl
  have h1 := cls_len (s.need (memB x.nm && p x.ds) 8) x.cl false
  rw [h0] at h1
  generalize (s.need (memB x.nm && p x.ds) 8).cls x.cl false = c at *
  have h2 := text_len c.1 x.nm
  generalize c.1.text x.nm = n at *
  have h3 := text_len n.1 x.ds
  generalize n.1.text x.ds = d at *
  have h4 := put_len d.1 ⟨12, (n.2 : Nat), (d.2 : Nat), 0, []⟩
  generalize d.1.put ⟨12, (n.2 : Nat), (d.2 : Nat), 0, []⟩ = b at *
  have h5 := put_len b.1 ⟨tag, (c.2 : Nat), (b.2 : Nat), 0, []⟩
  show (b.1.put ⟨tag, (c.2 : Nat), (b.2 : Nat), 0, []⟩).1.l.length ≤ _
  omega
theorem con_len (s : LW) (x : IN) : (s.con x).1.l.length ≤ s.l.length + 4 := by
  unfold LW.con
  split
  · have h := put_len (s.need (int32B x.n) 8) ⟨3, 0, 0, x.n, []⟩
    have h0 : (s.need (int32B x.n) 8).l = s.l := rfl
    rw [h0] at h
    omega
  · split
    · have h1 := text_len s x.tx
      have h2 := put_len (s.text x.tx).1 ⟨8, ((s.text x.tx).2 : Nat), 0, 0, []⟩
      omega
    · split
      · have h := put_len s ⟨5, 0, 0, x.n, []⟩
        omega
      · show s.l.length ≤ _
        omega
theorem wide_len (s : LW) (x : IN) : (s.wide x).1.l.length ≤ s.l.length + 12 := by
  unfold LW.wide
  split
  · exact member_len (s.need (bareI x) 8) x 9 typeB
  · split
    · exact member_len (s.need (bareI x) 8) x 10 methB
    · have h := cls_len (s.need (onlyI x) 8) x.cl (decide (x.op ≠ 187))
      have h0 : (s.need (onlyI x) 8).l = s.l := rfl
      rw [h0] at h
      omega
theorem raw_len (s : LW) (p : Nat) (x : IN) : (s.raw p x).1.l.length ≤ s.l.length + 12 := by
  unfold LW.raw
  split
  · have h := con_len (s.need (decide (x.cl = [] ∧ x.nm = [] ∧ x.m = 0)) 8) x
    have h0 : (s.need (decide (x.cl = [] ∧ x.nm = [] ∧ x.m = 0)) 8).l = s.l := rfl
    rw [h0] at h
    show ((s.need (decide (x.cl = [] ∧ x.nm = [] ∧ x.m = 0)) 8).con x).1.l.length ≤ _
    omega
  · split
    · exact wide_len s x
    · split
      · show s.l.length ≤ _
        omega
      · show s.l.length ≤ _
        omega
theorem slot_len (s : LW) (t : List UInt8) : (s.slot t).1.l.length ≤ s.l.length + 4 := by
  unfold LW.slot
  split
  · simp
  split
  · simp
  split
  · simp
  split
  · simp
  split
  · exact cls_len _ _ _
  · exact cls_len (s.need (arrayB t) 8) t true
end Go.Proofs.YtclpkipaehpkdaaGreatDoor

namespace Go.Proofs.YtclpkipaehpkdaaGreatDoor
open Go.ChangeShapes Go.WideShapes Go.ChangeAt Go.RowKit Go.Maps
abbrev LowT := 92
abbrev ConT := 61
abbrev MapKT := 90
def litK (c : KV) : Lit := .string (keyBytes [.int .i64 c.tag, .int .i64 c.a, .int .i64 c.b, .int .i64 c.n, .string c.s])
structure KOk (c : KV) : Prop where
  t : IntRo c.tag
  a : IntRo c.a
  b : IntRo c.b
  n : IntRo c.n
  s : c.s.length ≤ 1099511627776
theorem row_con : ConT < Tryz.prog.types.size := by
  have h : Nat.ble (ConT + 1) Tryz.prog.types.size = true := by kernel_rfl
  generalize Tryz.prog.types.size = n at *
  exact Nat.lt_of_succ_le (Nat.le_of_ble_eq_true h)
theorem key_con : Tryz.prog.keyTypeAt 2 ConT = true := by kernel_rfl
theorem laid_out : laidOutB Tryz.prog = true := by kernel_rfl
theorem keyed_con : Keyed Tryz.prog ConT := Keyed.of_law (deep_law_laid laid_out (m := 2) (by omega) row_con key_con (by rw [Tryz.underlying61]))
theorem keyOf_con {c : KV} (h : KOk c) : keyOf Tryz.prog ConT (.agg c.cells.toArray) = some (litK c) := by
  have hi : ∀ (d : Nat) (x : Int), IntRo x → Tryz.prog.keyLits (d + 1) 3 [.int .i64 x] = some [.int .i64 x] := fun d x hx => by
    unfold Program.keyLits
    rw [Tryz.underlying3]
    simp only
    rw [if_pos ⟨trivial, hx⟩]
  have hi2 : ∀ (d : Nat) (x : Int), IntRo x → Tryz.prog.keyLits (d + 1) 2 [.int .i64 x] = some [.int .i64 x] := fun d x hx => by
    unfold Program.keyLits
    rw [Tryz.underlying2]
    simp only
    rw [if_pos ⟨trivial, hx⟩]
  have hs : ∀ (d : Nat) (x : List UInt8), x.length ≤ 1099511627776 → Tryz.prog.keyLits (d + 1) 9 [.string ⟨x.toArray⟩] = some [.string x] := fun d x hx => by
    unfold Program.keyLits
    rw [Tryz.underlying9]
    simp only
    rw [if_pos (by show x.toArray.size ≤ maxLen; rw [List.size_toArray]; unfold maxLen; omega)]
  have h5 : Tryz.prog.cellsOf ConT = 5 := by kernel_rfl
  have h1 : Tryz.prog.cellsOf 3 = 1 := by kernel_rfl
  have h2 : Tryz.prog.cellsOf 9 = 1 := by kernel_rfl
  have h3 : Tryz.prog.cellsOf 2 = 1 := by kernel_rfl
  have hl : ∀ d, Tryz.prog.keyLits (d + 1 + 1) ConT c.cells = some [.int .i64 c.tag, .int .i64 c.a, .int .i64 c.b, .int .i64 c.n, .string c.s] := fun d => by
    unfold Program.keyLits
    rw [Tryz.underlying61]
    simp only
    rw [if_pos ⟨h5.symm, by kernel_rfl⟩]
    simp [KV.cells, h1, h2, h3, hi d _ h.t, hi d _ h.a, hi d _ h.b, hi2 d _ h.n, hs d _ h.s]
  have hf : Value.formed Tryz.prog ConT (.agg c.cells.toArray) = true := by
    unfold Value.formed
    rw [Tryz.underlying61]
    simp only
    rw [h5]
    rfl
  obtain ⟨d, hd⟩ : ∃ d, Tryz.prog.types.size = d + 1 := Nat.exists_eq_succ_of_ne_zero (fun e => by
    have : Nat.beq Tryz.prog.types.size 0 = false := by kernel_rfl
    rw [e] at this
    cases this)
  unfold keyOf
  rw [Tryz.underlying61]
  simp only
  rw [hf, show Tryz.prog.keyType ConT = true by kernel_rfl, hd]
  show (if _ then (Tryz.prog.keyLits (d + 1 + 1) ConT c.cells).map _ else none) = _
  rw [hl d]
  rfl
def keepB : Option Obj → Prop
  | some (.cells _ t _) => t ≠ ConT ∧ t ≠ LowT
  | some (.map _ _) => False
  | _ => True
structure KeepL (B : Nat) (w w' : World) : Prop where
  os : w'.os = w.os
  tape : w'.tape = w.tape
  output : w'.output = w.output
  size : w.heap.size ≤ w'.heap.size
  block : ∀ k, k < w.heap.size → (k < B ∨ keepB w.heap[k]?) → w'.heap[k]? = w.heap[k]?
theorem KeepL.refl (B : Nat) (w : World) : KeepL B w w := ⟨rfl, rfl, rfl, Nat.le_refl _, fun _ _ _ => rfl⟩
theorem KeepL.trans {B : Nat} {w w1 w2 : World} (h : KeepL B w w1) (k : KeepL B w1 w2) : KeepL B w w2 :=
  ⟨k.os.trans h.os, k.tape.trans h.tape, k.output.trans h.output, Nat.le_trans h.size k.size, fun i hi hg => by
    have h1 := h.block i hi hg
    rw [k.block i (Nat.lt_of_lt_of_le hi h.size) (by rw [h1]; exact hg), h1]⟩
theorem KeepL.of {B : Nat} {w w1 : World} (h : Below w.heap.size w w1) : KeepL B w w1 := ⟨h.os, h.tape, h.output, h.size, fun k hk _ => h.block k hk⟩
theorem KeepL.grown {B : Nat} {w w1 : World} {row : Option Nat} (h : w.grownBy w1 row) (hr : ∀ k, row = some k → k < w.heap.size → B ≤ k ∧ ¬ keepB w.heap[k]?) : KeepL B w w1 :=
  ⟨h.os, h.tape, h.output, h.size, fun k hk hg => h.block k hk (fun e => by
    obtain ⟨h1, h2⟩ := hr k e.symm hk
    rcases hg with hg | hg
    · omega
    · exact h2 hg)⟩
theorem KeepL.set {B : Nat} {w : World} {g : Nat} (h : B ≤ g ∧ ¬ keepB w.heap[g]?) (o : Nat) (v : Value) : KeepL B w (w.setCell ⟨g, o, none⟩ v) :=
  ⟨rfl, rfl, rfl, by unfold World.setCell; simp, fun k hk hq => by
    unfold World.setCell
    have hne : ¬ g = k := by
      rintro rfl
      rcases hq with h1 | h1
      · omega
      · exact h.2 h1
    simp [Array.getElem?_modify, hne]⟩
theorem KeepL.below {B : Nat} {w0 w w' : World} (h : KeepL B w w') (hb : Below B w0 w) (hB : B ≤ w0.heap.size) : Below B w0 w' :=
  ⟨h.os.trans hb.os, h.tape.trans hb.tape, h.output.trans hb.output, Nat.le_trans hb.size h.size, fun k hk => by
    rw [h.block k (Nat.lt_of_lt_of_le (Nat.lt_of_lt_of_le hk hB) hb.size) (.inl hk)]; exact hb.block k hk⟩
theorem KeepL.row {B : Nat} {w w' : World} (h : KeepL B w w') {g : Nat} {cs : Array Value} {t : TypeId} {fr : Nat × Nat} (hg : w.heap[g]? = some (.cells cs t fr)) (h1 : t ≠ ConT) (h2 : t ≠ LowT) : w'.heap[g]? = some (.cells cs t fr) := by
  rw [h.block g (Array.getElem?_eq_some_iff.1 hg).1 (.inr (by rw [hg]; exact ⟨h1, h2⟩))]; exact hg
theorem KeepL.own {B : Nat} {w w' : World} {B' : Nat} {e : TypeId} {size : Nat} {v : Value} {n : Nat} {xs : List Value} (h : w.ownsRow B' e size v n xs) (k : KeepL B w w') (h1 : e ≠ ConT) (h2 : e ≠ LowT) : w'.ownsRow B' e size v n xs := by
  refine ⟨h.1, ?_⟩
  rcases h.2 with ⟨h1, h2⟩ | ⟨b, cap, cur, hv, hb, hc, r⟩
  · exact .inl ⟨h1, h2⟩
  · exact .inr ⟨b, cap, cur, hv, hb, k.row hc h1 h2, r⟩
theorem KeepL.vw {B : Nat} {w w' : World} (h : KeepL B w w') (hv : VW w) (h0 : 0 < B) : VW w' := by
  obtain ⟨m, hm⟩ := hv
  refine ⟨m, ?_⟩
  have hlt : 0 < w.heap.size := by
    rcases Nat.eq_zero_or_pos w.heap.size with h1 | h1
    · exfalso
      have : w.heap[0]? = none := Array.getElem?_eq_none (by omega)
      simp [World.cell?, this] at hm
    · exact h1
  rw [← hm]
  unfold World.cell?
  rw [h.block 0 hlt (.inl h0)]
def MapK (w : World) (b : Nat) (L : List KV) : Prop :=
  ∃ D, w.ownsMap Tryz.prog ConT (plainElem (H := Unit) Tryz.prog 3) b L.length D ∧ ∀ c, KOk c → c.tag ≠ 0 → ∀ z, D.atKey (litK c) z = (match idxK L c with | some i => .lit (.int .i64 (i : Nat)) | none => z)
theorem MapK.lt {w : World} {b : Nat} {L : List KV} (h : MapK w b L) : b < w.heap.size := by obtain ⟨D, h, _⟩ := h; exact h.lt
theorem MapK.kept {w w' : World} {b : Nat} {L : List KV} {row : Option Nat} (h : MapK w b L) (hg : w.grownBy w' row) (hne : some b ≠ row) : MapK w' b L := by
  obtain ⟨D, h, hd⟩ := h
  exact ⟨D, h.kept hg hne, hd⟩
theorem MapK.setCell {w : World} {b : Nat} {L : List KV} (h : MapK w b L) {a : Addr} (ha : b ≠ a.block) (u : Value) : MapK (w.setCell a u) b L := by
  obtain ⟨D, h, hd⟩ := h
  exact ⟨D, h.setCell ha u, hd⟩
theorem MapK.below {w w' : World} {b : Nat} {L : List KV} (h : MapK w b L) (hb : Below w.heap.size w w') : MapK w' b L := h.kept (row := none) ⟨hb.os, hb.tape, hb.output, hb.size, fun k hk _ => hb.block k hk⟩ (by simp)
structure LoX (w : World) (B g : Nat) (s : LW) (a : Option Addr) (cap b : Nat) : Prop where
  k : Blk3 w g (.slice a s.l.length cap) (.map (some b)) (.int .i64 s.e) LowT
  o : w.ownsRow B ConT 5 (.slice a s.l.length cap) s.l.length (s.l.flatMap KV.cells)
  m : MapK w b s.l
  bB : B ≤ b
  gB : B ≤ g
  B0 : 0 < B
  vw : VW w
def LoS (w : World) (B g : Nat) (s : LW) : Prop := ∃ a cap b, LoX w B g s a cap b
theorem LoX.bg {w : World} {B g : Nat} {s : LW} {a : Option Addr} {cap b : Nat} (h : LoX w B g s a cap b) : b ≠ g := by
  rintro rfl
  obtain ⟨D, ⟨es, cl, hm, _⟩, _⟩ := h.m
  have := h.k
  unfold Blk3 at this
  rw [hm] at this
  cases this
theorem LoX.nk {w : World} {B g : Nat} {s : LW} {a : Option Addr} {cap b : Nat} (h : LoX w B g s a cap b) : B ≤ g ∧ ¬ keepB w.heap[g]? := by
  refine ⟨h.gB, ?_⟩
  have := h.k
  unfold Blk3 at this
  rw [this]
  exact fun hh => hh.2 rfl
theorem LoX.nm {w : World} {B g : Nat} {s : LW} {a : Option Addr} {cap b : Nat} (h : LoX w B g s a cap b) : B ≤ b ∧ ¬ keepB w.heap[b]? := by
  refine ⟨h.bB, ?_⟩
  obtain ⟨D, ⟨es, cl, hm, _⟩, _⟩ := h.m
  rw [hm]
  exact fun hh => hh
theorem LoX.below {w w' : World} {B g : Nat} {s : LW} {a : Option Addr} {cap b : Nat} (h : LoX w B g s a cap b) (hb : Below w.heap.size w w') : LoX w' B g s a cap b :=
  ⟨h.k.below hb, own_below h.o hb, h.m.below hb, h.bB, h.gB, h.B0, h.vw.below hb⟩
theorem LoS.below {w w' : World} {B g : Nat} {s : LW} (h : LoS w B g s) (hb : Below w.heap.size w w') : LoS w' B g s := by
  obtain ⟨a, cap, b, h⟩ := h
  exact ⟨a, cap, b, h.below hb⟩
theorem LoX.lt {w : World} {B g : Nat} {s : LW} {a : Option Addr} {cap b : Nat} (h : LoX w B g s a cap b) : g < w.heap.size := h.k.box.lt
theorem LoS.lt {w : World} {B g : Nat} {s : LW} (h : LoS w B g s) : g < w.heap.size := by
  obtain ⟨a, cap, b, h⟩ := h
  exact h.lt
theorem LoX.set2 {w : World} {B g : Nat} {s : LW} {a : Option Addr} {cap b : Nat} (h : LoX w B g s a cap b) (e2 : Int) : LoX (w.setCell ⟨g, 2, none⟩ (.int .i64 e2)) B g ⟨s.l, e2⟩ a cap b :=
  ⟨heap_set3 h.k 2 _, own_keptT h.o (keptT_set h.k 2 _) (by decide), h.m.setCell h.bg _, h.bB, h.gB, h.B0, (KeepL.set h.nk 2 _).vw h.vw h.B0⟩
def LoRet (v : Value) (B g : Nat) (s : LW) (w : World) (e : Ending) (w' : World) : Prop := e = .returned v ∧ LoS w' B g s ∧ KeepL B w w'
end Go.Proofs.YtclpkipaehpkdaaGreatDoor

namespace Go.Proofs.YtclpkipaehpkdaaGreatDoor
open Go.ChangeShapes Go.WideShapes Go.ChangeAt Go.RowKit
abbrev MethT := 59
structure MthC (D W : World) (gk gm gl ga gz g go : Nat) (m : KM) (la : Option Addr) (ln lc : Nat) (L : List RW) (b : Nat) (z : UM) : Prop where
  s : PlSee W gm gl ga gk g m la ln lc L b
  z : W.heap[gz]? = some (.cells z.cells.toArray MethT (0, 0))
  rs : Rs W la ln L
  og : Off1 la ln g
  oo : Off1 la ln go
  d : m.Rd D
  db : Below D.heap.size D W
  dg : D.heap.size ≤ g
  dgo : D.heap.size ≤ go
  ms : gm ≠ go
  ls : gl ≠ go
  am : ga ≠ go
  ks : gk ≠ go
  zs : gz ≠ go
  bs : b ≠ go
  zg : gz ≠ g
  gg : g < W.heap.size
  gs : go < W.heap.size
  ne : go ≠ g
abbrev GG (g go : Nat) : Nat → Prop := fun k => k = g ∨ k = go
section
variable {D W w : World} {gk gm gl ga gz g go : Nat} {m : KM} {la : Option Addr} {ln lc : Nat} {L : List RW} {b : Nat} {z : UM}
theorem MthC.see (h : MthC D W gk gm gl ga gz g go m la ln lc L b z) (k : KeepP (GG g go) W w) : PlSee w gm gl ga gk g m la ln lc L b := by
  have key : ∀ (x : Nat) (o : Obj), W.heap[x]? = some o → x ≠ g → x ≠ go → ¬ GG g go x := fun x o _ h1 h2 hp => by
    rcases hp with h3 | h3
    · exact h1 h3
    · exact h2 h3
  refine ⟨k.row h.s.m (key _ _ h.s.m h.s.nm h.ms), k.row h.s.l (key _ _ h.s.l h.s.nl h.ls), k.row h.s.a (key _ _ h.s.a h.s.na h.am), k.row h.s.k (key _ _ h.s.k h.s.nk h.ks), ?_, h.s.len, h.s.nm, h.s.nl, h.s.na, h.s.nk, h.s.nb⟩
  obtain ⟨es, clock, hb, _⟩ := h.s.p
  exact h.s.p.keep k (key _ _ hb h.s.nb h.bs)
theorem MthC.zw (h : MthC D W gk gm gl ga gz g go m la ln lc L b z) (k : KeepP (GG g go) W w) : w.heap[gz]? = some (.cells z.cells.toArray MethT (0, 0)) :=
  k.row h.z (fun hp => by rcases hp with h3 | h3; exact h.zg h3; exact h.zs h3)
theorem MthC.rsw (h : MthC D W gk gm gl ga gz g go m la ln lc L b z) (k : KeepP (GG g go) W w) : Rs w la ln L :=
  k.ss h.rs (fun hn b off e hp => by rcases hp with h3 | h3; exact h.og hn b off e h3; exact h.oo hn b off e h3)
theorem MthC.rd (h : MthC D W gk gm gl ga gz g go m la ln lc L b z) (k : KeepP (GG g go) W w) : m.Rd w :=
  h.d.below (k.below h.db (Nat.le_refl _) (fun x hx => by rcases hx with rfl | rfl; exact h.dg; exact h.dgo))
end
structure MthJ (W w : World) (g go : Nat) (a : Option Addr) (n cap : Nat) (K : List KV) (er : Int) (x : UM) : Prop where
  l : LfS w g a n cap K er
  k : KeepP (GG g go) W w
  o : w.heap[go]? = some (.cells x.cells.toArray MethT (0, 0))
  w : x.Own w W.heap.size
section
variable {W w w9 : World} {g go : Nat} {a : Option Addr} {n cap : Nat} {K : List KV} {er er' : Int} {x : UM}
theorem MthJ.below (h : MthJ W w g go a n cap K er x) (hb : Below w.heap.size w w9) : MthJ W w9 g go a n cap K er x :=
  ⟨h.l.below hb, h.k.trans (KeepP.of hb), row_below h.o hb, h.w.keepP (KeepP.of (p := fun _ => False) hb) (fun _ hx => hx.elim)⟩
theorem MthJ.call (h : MthJ W w g go a n cap K er x) (hl : LfS w9 g a n cap K er') (hk : KeepP (fun k => k = g) w w9) (hg : g < W.heap.size) (hne : go ≠ g) : MthJ W w9 g go a n cap K er' x :=
  ⟨hl, h.k.trans (hk.weak fun _ _ e => .inl e), hk.row h.o hne, h.w.keepP hk (fun y hy => .inl (by rw [hy]; exact hg))⟩
theorem MthJ.new (h : MthJ W w g go a n cap K er x) (hl : LfS w9 g a n cap K er') (hk : KeepP (fun k => k = g ∨ w.heap.size ≤ k) w w9) (hg : g < W.heap.size) (hne : go ≠ g) : MthJ W w9 g go a n cap K er' x :=
  ⟨hl, h.k.trans (hk.weak fun k hk e => by rcases e with e | e; exact .inl e; have := h.k.size; omega), hk.row h.o (fun e => by rcases e with e | e; exact hne e; have := row_lt h.o; omega), h.w.keepP hk (fun y hy => by rcases hy with hy | hy; exact .inl (by rw [hy]; exact hg); exact .inr hy)⟩
theorem MthJ.app {e : TypeId} (h0 : LfS W g a n cap K er') (h : MthJ W w g go a n cap K er x) (hB : KeepP (fun k => W.heap.size ≤ k) w w9) (ht : KeptT e w w9) (hme : MethT ≠ e) (o : Nat) (v : Value) (x' : UM)
    (hc : x'.cells.toArray = x.cells.toArray.setIfInBounds o v) (hgo : go < W.heap.size) (hne : go ≠ g)
    (hw : x'.Own w9 W.heap.size) (hg0 : 0 < go) (hoff : Off1 a n go) : MthJ W (w9.setCell ⟨go, o, none⟩ v) g go a n cap K er x' := by
  have hl9 : LfS w9 g a n cap K er := h0.newer h.l (Nat.le_refl _) hB
  have hk9 : KeepP (GG g go) W w9 := h.k.new hB
  have hs : KeepP (fun k => k = go) w9 (w9.setCell ⟨go, o, none⟩ v) := KeepP.set (KeepP.refl (fun k => k = go) w9) (.inl rfl) o v
  have ho9 := ht.2 _ _ _ _ h.o hme
  refine ⟨hl9.keep hs (fun e => hne e.symm) (fun e => by omega) (fun hn b off e e2 => hoff hn b off e e2), hk9.trans (hs.weak fun _ _ e => .inr e), ?_, hw.keepP hs (fun y hy => .inl (by rw [hy]; exact hgo))⟩
  have := heap_set3 ho9 o v
  rw [hc]
  exact this
theorem _root_.Go.Proofs.YtclpkipaehpkdaaGreatDoor.LfS.app9 {e : TypeId} {x' : UM} (h0 : LfS W g a n cap K er') (h : MthJ W w g go a n cap K er x) (hB : KeepP (fun k => W.heap.size ≤ k) w w9) (ht : KeptT e w w9) (hw : x'.Own w9 W.heap.size) (hgo : go < W.heap.size) (hne : go ≠ g) (hg0 : 0 < go) (hoff : Off1 a n go) (hme : MethT ≠ e := by decide) :
    KeepP (GG g go) W w9 ∧ w9.heap[go]? = some (.cells x.cells.toArray MethT (0, 0)) ∧ ∀ (o : Nat) (v : Value), x'.cells.toArray = x.cells.toArray.setIfInBounds o v → MthJ W (w9.setCell ⟨go, o, none⟩ v) g go a n cap K er x' :=
  ⟨h.k.new hB, ht.2 _ _ _ _ h.o hme, fun o v hc => MthJ.app h0 h hB ht hme o v x' hc hgo hne hw hg0 hoff⟩
end
end Go.Proofs.YtclpkipaehpkdaaGreatDoor

namespace Go.Proofs.YtclpkipaehpkdaaGreatDoor
open Go.RowKit
section
variable {P : Program} {ops : Array Oper} {Q : Exit → Act → World → Prop} {md : Region.Mode} {S : World → Prop}
def wpAnyE (P : Program) (md : Region.Mode) (ops : Array Oper) (Q : Exit → Act → World → Prop) (S : World → Prop) (n : Nat) : Nat → Array Bool → Act → World → Prop
  | 0, listed, a, w => Region.ready md ops listed = [] ∧ Q .normal a w
  | fuel + 1, listed, a, w => (Region.ready md ops listed = [] → Q .normal a w) ∧
    ∀ i ∈ Region.ready md ops listed, wpOp P ops Q i (fun a' w' => (i ≠ n → S w') ∧ wpAnyE P md ops Q S n fuel (listed.setIfInBounds i true) a' w') a w
theorem wpAny_of_E {n : Nat} : ∀ (fuel : Nat) (listed : Array Bool) (a : Act) (w : World), wpAnyE P md ops Q S n fuel listed a w → wpAny P md ops Q fuel listed a w
  | 0, _, _, _, h => h
  | fuel + 1, _, _, _, h => ⟨h.1, fun i hi => wpOp_mono (fun a' w' h' => wpAny_of_E fuel _ a' w' h'.2) (h.2 i hi)⟩
theorem wpAnyE_first {n i : Nat} {oi : Oper} {v : Value} (hsk : Region.sinkB md ops n = true) (hch : Region.chainB md ops n = true) (hn : ops.size = n + 1) (hin : i < n)
    (hi : ops[i]? = some oi) (hsel : ∀ (j : Nat) (o : Oper) cs b, ops[j]? = some o → o.op ≠ .select cs b)
    (hQ : ∀ c a w, Q (.panic c) (a.put oi.dst v) w → Q (.panic c) a w) :
    ∀ (fuel : Nat) (listed : Array Bool) (a : Act) (w : World), HeadInv md ops n listed →
      (∀ j oj, ops[j]? = some oj → j ≠ i → listed.getD j true = false → (∀ e ∈ oj.after, Region.binds md e = true → e.on ≠ i) → oi.apart ops oj = true) →
      i ∈ Region.ready md ops listed → YieldsIf P ops S oi v a → S w →
      wpAnyE P md ops Q S n fuel (listed.setIfInBounds i true) (a.put oi.dst v) w → wpAnyE P md ops Q S n (fuel + 1) listed a w := by
  intro fuel
  induction fuel with
  | zero =>
    intro listed a w _ _ hr hy hS H
    refine ⟨fun h => (by rw [h] at hr; cases hr), fun j hj => ?_⟩
    by_cases hji : j = i
    · subst hji; exact hy.wpOp hi hS ⟨fun _ => hS, H⟩
    · have := ready_mono hj hji
      rw [H.1] at this
      cases this
  | succ fuel ih =>
    intro listed a w inv hfree hr hy hS H
    refine ⟨fun h => (by rw [h] at hr; cases hr), fun j hj => ?_⟩
    by_cases hji : j = i
    · subst hji; exact hy.wpOp hi hS ⟨fun _ => hS, H⟩
    · have h1 := H.2 j (ready_mono hj hji)
      obtain ⟨hjun, oj, hoj, hall⟩ := mem_ready.1 hj
      have hnot : ∀ e ∈ oj.after, Region.binds md e = true → e.on ≠ i := fun e he hb heq => by
        have h1 := hall e he hb
        have h0 := (mem_ready.1 hr).1
        rw [heq, getD_both h0] at h1
        cases h1
      have hjs : j < ops.size := (Array.getElem?_eq_some_iff.1 hoj).1
      have hjn : j ≠ n := fun e => tail_waits hsk hch (by omega) inv (n - i) i rfl hin (mem_ready.1 hr).1 j (by omega) hj
      have h2 := wpOp_putIf hoj (hfree j oj hoj hji hjun hnot) (fun cs b => hsel i oi cs b hi) (fun cs b => hsel j oj cs b hoj) hQ hy h1
      have hfree' : ∀ k ok, ops[k]? = some ok → k ≠ i → (listed.setIfInBounds j true).getD k true = false →
          (∀ e ∈ ok.after, Region.binds md e = true → e.on ≠ i) → oi.apart ops ok = true := fun k ok hk hki hun hno => by
        refine hfree k ok hk hki ?_ hno
        by_cases hjk : j = k
        · subst hjk; exact hjun
        · rw [getD_set_ne true hjk] at hun; exact hun
      refine wpOp_mono (fun a' w' h3 => ⟨fun _ => h3.2.1 hjn, ih (listed.setIfInBounds j true) a' w' (inv.set hj (by omega)) hfree' (ready_mono hr (Ne.symm hji)) h3.1 (h3.2.1 hjn) ?_⟩) h2
      rw [Array.setIfInBounds_comm _ _ hji]
      exact h3.2.2
def lastOp (P : Program) (ops : Array Oper) (Q : Exit → Act → World → Prop) (n : Nat) (a : Act) (w : World) : Prop :=
  match ops[n]? with
  | none => False
  | some o => if Region.wanted o (yielded ops a.tmps) = true then o.wp P a w (fun a' w' => Q .normal a' w') Q else Q .normal (a.put o.dst undef) w
def wpLexE (P : Program) (ops : Array Oper) (Q : Exit → Act → World → Prop) (S : World → Prop) (n : Nat) : List (Nat × Bool) → Act → World → Prop
  | [], a, w => lastOp P ops Q n a w
  | (i, b) :: l, a, w => lexOp P ops Q S i b (wpLexE P ops Q S n l) a w
def checkLexE (ops : Array Oper) (n : Nat) : Array Bool → List (Nat × Bool) → Bool
  | listed, [] => Region.ready .any ops listed == [n] && (Region.ready .any ops (listed.setIfInBounds n true)).isEmpty
  | listed, (i, b) :: l => decide (i < n) && (if b then Region.free .any ops listed i && (Region.ready .any ops listed).contains i else Region.ready .any ops listed == [i]) && checkLexE ops n (listed.setIfInBounds i true) l
theorem lexE_sound {n : Nat} (hs : Region.noSelect ops = true) (hQ : ∀ c a d v w, Q (.panic c) (a.put d v) w → Q (.panic c) a w) (hsk : Region.sinkB .any ops n = true) (hch : Region.chainB .any ops n = true) (hn : ops.size = n + 1) :
    ∀ (l : List (Nat × Bool)) (listed : Array Bool) (a : Act) (w : World), HeadInv .any ops n listed → checkLexE ops n listed l = true → wpLexE P ops Q S n l a w → wpAnyE P .any ops Q S n (l.length + 1) listed a w := by
  intro l
  induction l with
  | nil =>
    intro listed a w inv hc h
    simp only [checkLexE, Bool.and_eq_true, beq_iff_eq] at hc
    refine ⟨fun h0 => (by rw [hc.1] at h0; cases h0), fun j hj => ?_⟩
    rw [hc.1] at hj
    obtain rfl : j = n := by simpa using hj
    change lastOp P ops Q j a w at h
    unfold lastOp at h
    unfold wpOp
    cases ho : ops[j]? with
    | none => rw [ho] at h; exact h.elim
    | some o =>
      rw [ho] at h
      simp only at h ⊢
      by_cases hw : Region.wanted o (yielded ops a.tmps) = true
      · rw [if_pos hw] at h
        simp only [hw, if_true]
        exact .inl (Oper.wp_mono (fun a' w' h' => ⟨fun hne => absurd rfl hne, by simpa using hc.2, h'⟩) h)
      · rw [if_neg hw] at h
        simp only [hw]
        exact ⟨fun hne => absurd rfl hne, by simpa using hc.2, h⟩
  | cons p l ih =>
    obtain ⟨i, b⟩ := p
    intro listed a w inv hc h
    simp only [checkLexE, Bool.and_eq_true, decide_eq_true_eq] at hc
    obtain ⟨⟨hin, hc1⟩, hc2⟩ := hc
    change lexOp P ops Q S i b (wpLexE P ops Q S n l) a w at h
    unfold lexOp at h
    cases ho : ops[i]? with
    | none => rw [ho] at h; exact h.elim
    | some o =>
      rw [ho] at h
      simp only at h
      cases b with
      | true =>
        simp only [if_true, Bool.and_eq_true] at hc1
        obtain ⟨hf, hr⟩ := hc1
        have hr' : i ∈ Region.ready .any ops listed := by simpa using hr
        by_cases hw : Region.wanted o (yielded ops a.tmps) = true
        · rw [if_pos hw] at h
          obtain ⟨v, h1, h2, h3⟩ := h
          exact wpAnyE_first hsk hch hn hin ho (Region.noSelect_spec hs) (fun c a w => hQ c a _ _ w) _ listed a w inv (Region.free_spec ho hf) hr' (.inl ⟨hw, h1⟩) h2 (ih _ _ _ (inv.set hr' hin) hc2 h3)
        · rw [if_neg hw] at h
          exact wpAnyE_first hsk hch hn hin ho (Region.noSelect_spec hs) (fun c a w => hQ c a _ _ w) _ listed a w inv (Region.free_spec ho hf) hr' (.inr ⟨by simpa using hw, rfl⟩) h.1 (ih _ _ _ (inv.set hr' hin) hc2 h.2)
      | false =>
        simp only [Bool.false_eq_true, if_false, beq_iff_eq] at hc1
        refine ⟨fun h0 => (by rw [hc1] at h0; cases h0), fun j hj => ?_⟩
        have hj0 := hj
        rw [hc1] at hj
        obtain rfl : j = i := by simpa using hj
        unfold wpOp
        rw [ho]
        simp only
        by_cases hw : Region.wanted o (yielded ops a.tmps) = true
        · rw [if_pos hw] at h
          simp only [hw, if_true]
          exact .inl (Oper.wp_mono (fun a' w' h' => ⟨fun _ => h'.1, ih _ _ _ (inv.set hj0 hin) hc2 h'.2⟩) h)
        · rw [if_neg hw] at h
          simp only [hw]
          exact ⟨fun _ => h.1, ih _ _ _ (inv.set hj0 hin) hc2 h.2⟩
theorem wp_region_lexE {id : Nat} {a : Act} {w : World} (S : World → Prop) (n : Nat) (l : List (Nat × Bool)) (hm : P.follows .mixedOrders = true)
    (hc : (Region.noSelect ops && (ops.size == n + 1) && (l.length == n) && Region.sinkB .any ops n && Region.chainB .any ops n && checkLexE ops n (Array.replicate ops.size false) l) = true) (hQ : ∀ c a d v w, Q (.panic c) (a.put d v) w → Q (.panic c) a w)
    (h : wpLexE P ops Q S n l a w.drew) : (Code.region id ops true).wp P Q a w := by
  simp only [Bool.and_eq_true, beq_iff_eq] at hc
  obtain ⟨⟨⟨⟨⟨hs, hl⟩, hl2⟩, hsk⟩, hch⟩, hk⟩ := hc
  have inv0 : HeadInv .any ops n (Array.replicate ops.size false) :=
    ⟨by simp, fun j oj _ hl => (by rw [getD_replicate_false] at hl; cases hl), fun t _ ht => getD_in (by simpa using ht) (getD_replicate_false _ _)⟩
  have := lexE_sound (P := P) (Q := Q) (S := S) hs hQ hsk hch hl l _ a _ inv0 hk h
  rw [hl2, ← hl] at this
  exact wp_region_any hm (wpAny_of_E _ _ _ _ this)
theorem lexE_step {n i : Nat} {b : Bool} {l : List (Nat × Bool)} {a : Act} {w : World}
    (h : ∀ K : Act → World → Prop, (∀ a w, wpLexE P ops Q S n l a w → K a w) → lexOp P ops Q S i b K a w) : wpLexE P ops Q S n ((i, b) :: l) a w := h _ (fun _ _ h => h)
theorem lexE_last {n : Nat} {a : Act} {w : World} (h : lastOp P ops Q n a w) : wpLexE P ops Q S n [] a w := h
end
end Go.Proofs.YtclpkipaehpkdaaGreatDoor

