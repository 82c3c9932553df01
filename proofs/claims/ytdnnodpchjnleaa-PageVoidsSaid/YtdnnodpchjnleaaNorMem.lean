/- nor: a flash in memory. No condition. -/
import Derived.Test.YtdnnodpchjnleaaNorPlain3
import Derived.Test.YtdnnodpchjnleaaLib3
namespace Go.Proofs.Ytdnnodpchjnleaa
open Go.ChangeShapes Go.WideShapes Go.ChangeAt Go.RowKit
def encI (x : Nat) : Value := .int .i64 (x : Int)
theorem encI_cell (x : Nat) : (encI x).oneCell' = true := rfl
/-- The slice at x (of n elements) doesn't lie in block g. -/
def NotIn (x : Option Addr) (n g : Nat) : Prop := 0 < n → ∀ b off, x = some ⟨b, off, none⟩ → b ≠ g
theorem Sl.notIn {α : Type} {enc : α → Value} {w : World} {x : Option Addr} {n g : Nat} {xs : List α} (h : Sl enc w x n xs) (hg : w.heap.size ≤ g) : NotIn x n g := by
  intro hn b off hx
  obtain ⟨b', off', hx', hlt, _⟩ := h.2 hn
  rw [hx'] at hx
  cases hx
  omega
theorem NotIn.part {b o n n' o' g : Nat} (h : NotIn (some ⟨b, o, none⟩) n g) (hn : 0 < n' → 0 < n) : NotIn (some ⟨b, o', none⟩) n' g := by
  intro h0 b' off e
  cases e
  exact h (hn h0) _ _ rfl
theorem heap_setC {w : World} {g : Nat} {cs : Array Value} {t : TypeId} {fr : Nat × Nat} (h : w.heap[g]? = some (.cells cs t fr)) (o : Nat) (v : Value) : (w.setCell ⟨g, o, none⟩ v).heap[g]? = some (.cells (cs.setIfInBounds o v) t fr) := by
  unfold World.setCell
  simp [Array.getElem?_modify, h]
theorem heap_setO {w : World} {g k : Nat} (hk : k ≠ g) (o : Nat) (v : Value) : (w.setCell ⟨g, o, none⟩ v).heap[k]? = w.heap[k]? := by
  unfold World.setCell
  have hk' : ¬ g = k := fun e => hk e.symm
  simp [Array.getElem?_modify, hk']
/-- Nothing but the blocks g, gb, gc has turned. -/
structure Kept (g gb gc : Nat) (w w' : World) : Prop where
  os : w'.os = w.os
  tape : w'.tape = w.tape
  output : w'.output = w.output
  size : w.heap.size ≤ w'.heap.size
  block : ∀ k, k < w.heap.size → k ≠ g → k ≠ gb → k ≠ gc → w'.heap[k]? = w.heap[k]?
theorem Kept.refl (g gb gc : Nat) (w : World) : Kept g gb gc w w := ⟨rfl, rfl, rfl, Nat.le_refl _, fun _ _ _ _ _ => rfl⟩
theorem Kept.trans {g gb gc : Nat} {w w1 w2 : World} (h : Kept g gb gc w w1) (h2 : Kept g gb gc w1 w2) : Kept g gb gc w w2 :=
  ⟨h2.os.trans h.os, h2.tape.trans h.tape, h2.output.trans h.output, Nat.le_trans h.size h2.size, fun k hk a b c => by rw [h2.block k (Nat.lt_of_lt_of_le hk h.size) a b c, h.block k hk a b c]⟩
theorem Kept.ofBelow {g gb gc : Nat} {w w1 : World} (h : Below w.heap.size w w1) : Kept g gb gc w w1 := ⟨h.os, h.tape, h.output, h.size, fun k hk _ _ _ => h.block k hk⟩
theorem Kept.drew {g gb gc : Nat} {w w1 : World} (h : Kept g gb gc w w1) : Kept g gb gc w w1.drew := ⟨h.os, h.tape, h.output, h.size, h.block⟩
theorem Kept.set {g gb gc : Nat} {w w1 : World} (h : Kept g gb gc w w1) {x o : Nat} (hx : x = g ∨ x = gb ∨ x = gc) (v : Value) : Kept g gb gc w (w1.setCell ⟨x, o, none⟩ v) :=
  ⟨h.os, h.tape, h.output, by simpa using h.size, fun k hk a b c => by rw [heap_setO (by rcases hx with rfl | rfl | rfl <;> assumption), h.block k hk a b c]⟩
theorem Kept.below {g gb gc B : Nat} {w0 w w' : World} (h : Kept g gb gc w w') (hb : Below B w0 w) (hB : B ≤ w0.heap.size) (h1 : B ≤ g) (h2 : B ≤ gb) (h3 : B ≤ gc) : Below B w0 w' :=
  ⟨h.os.trans hb.os, h.tape.trans hb.tape, h.output.trans hb.output, Nat.le_trans hb.size h.size, fun k hk => by
    rw [h.block k (Nat.lt_of_lt_of_le (Nat.lt_of_lt_of_le hk hB) hb.size) (by omega) (by omega) (by omega)]; exact hb.block k hk⟩
theorem Sl.kept {α : Type} {enc : α → Value} {g gb gc : Nat} {w w' : World} {x : Option Addr} {n : Nat} {xs : List α} (hs : Sl enc w x n xs) (h : Kept g gb gc w w') (h1 : NotIn x n g) (h2 : NotIn x n gb) (h3 : NotIn x n gc) : Sl enc w' x n xs := by
  refine ⟨hs.1, fun hn => ?_⟩
  obtain ⟨b, off, ha, hlt, hc⟩ := hs.2 hn
  refine ⟨b, off, ha, Nat.lt_of_lt_of_le hlt h.size, fun i hi => ?_⟩
  rw [← hc i hi]
  unfold World.cell?
  rw [h.block b hlt (h1 hn b off ha) (h2 hn b off ha) (h3 hn b off ha)]
/-- The nine cells of a flash. -/
def flCells (f : Fl) (gb gc cb cc : Nat) : Array Value :=
  #[.int .i64 f.S, .int .i64 f.Z, .int .i64 f.L, .slice (some ⟨gb, 0, none⟩) (f.S * f.Z) cb, .slice (some ⟨gc, 0, none⟩) f.S cc, .bool f.down, .int .i64 f.left, .int .i64 f.keep, .int .u8 (f.mask.toNat : Int)]
/-- A row of one block: its first n cells are xs. -/
def RowAt (w : World) (e : TypeId) (g n cap : Nat) (xs : List Value) : Prop := ∃ cur : Array Value, w.heap[g]? = some (.cells cur e) ∧ n ≤ cap ∧ cap ≤ maxLen ∧ cap ≤ cur.size ∧ cur.toList.take n = xs ∧ xs.length = n
/-- A flash whose struct (of type tF) lies in block g, its bytes in gb, its counts in gc. -/
structure IsFl (tF eb ec : TypeId) (w : World) (g gb gc cb cc : Nat) (f : Fl) : Prop where
  st : w.heap[g]? = some (.cells (flCells f gb gc cb cc) tF)
  rb : RowAt w eb gb (f.S * f.Z) cb (f.bs.map encB)
  rc : RowAt w ec gc f.S cc (f.cnt.map encI)
  n1 : g ≠ gb
  n2 : g ≠ gc
  n3 : gb ≠ gc
  ok : f.Ok
theorem RowAt.eq {w w' : World} {e : TypeId} {g n cap : Nat} {xs : List Value} (h : RowAt w e g n cap xs) (he : w'.heap[g]? = w.heap[g]?) : RowAt w' e g n cap xs := by
  unfold RowAt; rw [he]; exact h
theorem RowAt.lt {w : World} {e : TypeId} {g n cap : Nat} {xs : List Value} (h : RowAt w e g n cap xs) : g < w.heap.size := by
  obtain ⟨cur, hg, _⟩ := h
  exact (Array.getElem?_eq_some_iff.1 hg).1
theorem RowAt.cell {w : World} {e : TypeId} {g n cap : Nat} {xs : List Value} (h : RowAt w e g n cap xs) (i : Nat) (hi : i < n) : w.cell? ⟨g, i, none⟩ = some (xs.getD i undef) ∧ w.frozen? ⟨g, i, none⟩ = false := by
  obtain ⟨cur, hg, h1, h2, h3, h4, h5⟩ := h
  constructor
  · rw [cell_of_row w g i cur e _ hg]
    subst h4
    simp [List.getD, List.getElem?_take, hi]
    rw [Array.getElem?_eq_getElem (by omega)]
    rfl
  · unfold World.frozen?
    rw [hg]
    rfl
theorem RowAt.set {w : World} {e : TypeId} {g n cap : Nat} {xs : List Value} (h : RowAt w e g n cap xs) (i : Nat) (v : Value) : RowAt (w.setCell ⟨g, i, none⟩ v) e g n cap (xs.set i v) := by
  obtain ⟨cur, hg, h1, h2, h3, h4, h5⟩ := h
  refine ⟨cur.setIfInBounds i v, heap_setC hg i v, h1, h2, by simpa using h3, ?_, by simpa using h5⟩
  rw [← h4, Array.toList_setIfInBounds, List.take_set]
theorem RowAt.sl {α : Type} {enc : α → Value} {w : World} {e : TypeId} {g n cap : Nat} {xs : List α} (h : RowAt w e g n cap (xs.map enc)) : Sl enc w (some ⟨g, 0, none⟩) n xs := by
  have hl : xs.length = n := by have := h.choose_spec.2.2.2.2.2; simpa using this
  refine ⟨hl, fun _ => ⟨g, 0, rfl, h.lt, fun i hi => ?_⟩⟩
  rw [Nat.zero_add, (h.cell i (by omega)).1]
  simp [List.getD, hi]
theorem RowAt.ofOwn {w : World} {B : Nat} {e : TypeId} {g n cap : Nat} {xs : List Value} (h : w.ownsRow B e 1 (.slice (some ⟨g, 0, none⟩) n cap) n xs) : RowAt w e g n cap xs := by
  obtain ⟨h1, h2⟩ := h
  rcases h2 with ⟨h2, _⟩ | ⟨g', cap', cur, hv, hb, hg, h3, h4, h5, h6⟩
  · cases h2
  · cases hv
    exact ⟨cur, hg, h3, h4, by simp at h5; omega, by simpa using h6, by simpa using h1⟩
section
variable {tF eb ec : TypeId} {w w' : World} {g gb gc cb cc : Nat} {f : Fl}
theorem IsFl.eq (h : IsFl tF eb ec w g gb gc cb cc f) (h1 : w'.heap[g]? = w.heap[g]?) (h2 : w'.heap[gb]? = w.heap[gb]?) (h3 : w'.heap[gc]? = w.heap[gc]?) : IsFl tF eb ec w' g gb gc cb cc f :=
  ⟨by rw [h1]; exact h.st, h.rb.eq h2, h.rc.eq h3, h.n1, h.n2, h.n3, h.ok⟩
theorem IsFl.lt (h : IsFl tF eb ec w g gb gc cb cc f) : g < w.heap.size ∧ gb < w.heap.size ∧ gc < w.heap.size := ⟨(Array.getElem?_eq_some_iff.1 h.st).1, h.rb.lt, h.rc.lt⟩
theorem IsFl.below (h : IsFl tF eb ec w g gb gc cb cc f) (hb : Below w.heap.size w w') : IsFl tF eb ec w' g gb gc cb cc f :=
  h.eq (hb.block _ h.lt.1) (hb.block _ h.lt.2.1) (hb.block _ h.lt.2.2)
/-- Another flash. -/
theorem IsFl.kept (h : IsFl tF eb ec w g gb gc cb cc f) {x y z : Nat} (hk : Kept x y z w w') (h1 : g ≠ x ∧ g ≠ y ∧ g ≠ z) (h2 : gb ≠ x ∧ gb ≠ y ∧ gb ≠ z) (h3 : gc ≠ x ∧ gc ≠ y ∧ gc ≠ z) : IsFl tF eb ec w' g gb gc cb cc f :=
  h.eq (hk.block _ h.lt.1 h1.1 h1.2.1 h1.2.2) (hk.block _ h.lt.2.1 h2.1 h2.2.1 h2.2.2) (hk.block _ h.lt.2.2 h3.1 h3.2.1 h3.2.2)
/-- The cells of the struct, all nine. -/
theorem IsFl.cells (h : IsFl tF eb ec w g gb gc cb cc f) : w.cell? ⟨g, 0, none⟩ = some (.int .i64 f.S) ∧ w.cell? ⟨g, 1, none⟩ = some (.int .i64 f.Z) ∧ w.cell? ⟨g, 2, none⟩ = some (.int .i64 f.L) ∧
    w.cell? ⟨g, 3, none⟩ = some (.slice (some ⟨gb, 0, none⟩) (f.S * f.Z) cb) ∧ w.cell? ⟨g, 4, none⟩ = some (.slice (some ⟨gc, 0, none⟩) f.S cc) ∧ w.cell? ⟨g, 5, none⟩ = some (.bool f.down) ∧
    w.cell? ⟨g, 6, none⟩ = some (.int .i64 f.left) ∧ w.cell? ⟨g, 7, none⟩ = some (.int .i64 f.keep) ∧ w.cell? ⟨g, 8, none⟩ = some (.int .u8 (f.mask.toNat : Int)) := by
  have hc : ∀ i, w.cell? ⟨g, i, none⟩ = (flCells f gb gc cb cc)[i]? := fun i => by rw [cell_of_row w g i _ _ _ h.st]
  exact ⟨hc 0, hc 1, hc 2, hc 3, hc 4, hc 5, hc 6, hc 7, hc 8⟩
theorem IsFl.melt (h : IsFl tF eb ec w g gb gc cb cc f) (o : Nat) : w.frozen? ⟨g, o, none⟩ = false := by
  unfold World.frozen?
  rw [h.st]
  rfl
theorem IsFl.setDown (h : IsFl tF eb ec w g gb gc cb cc f) (d : Bool) : IsFl tF eb ec (w.setCell ⟨g, 5, none⟩ (.bool d)) g gb gc cb cc { f with down := d } :=
  ⟨heap_setC h.st 5 _, h.rb.eq (heap_setO (Ne.symm h.n1) _ _), h.rc.eq (heap_setO (Ne.symm h.n2) _ _), h.n1, h.n2, h.n3, ⟨h.ok.s1, h.ok.s2, h.ok.z1, h.ok.z2, h.ok.l1, h.ok.l2, h.ok.hb, h.ok.hc, h.ok.hn, h.ok.f1, h.ok.f2, h.ok.k1, h.ok.k2⟩⟩
theorem IsFl.setLeft (h : IsFl tF eb ec w g gb gc cb cc f) (x : Int) (h1 : -1 ≤ x) (h2 : x ≤ 9223372036854775807) : IsFl tF eb ec (w.setCell ⟨g, 6, none⟩ (.int .i64 x)) g gb gc cb cc { f with left := x } :=
  ⟨heap_setC h.st 6 _, h.rb.eq (heap_setO (Ne.symm h.n1) _ _), h.rc.eq (heap_setO (Ne.symm h.n2) _ _), h.n1, h.n2, h.n3, ⟨h.ok.s1, h.ok.s2, h.ok.z1, h.ok.z2, h.ok.l1, h.ok.l2, h.ok.hb, h.ok.hc, h.ok.hn, h1, h2, h.ok.k1, h.ok.k2⟩⟩
theorem IsFl.setTear (h : IsFl tF eb ec w g gb gc cb cc f) (x : Int) (m : UInt8) (h1 : -9223372036854775808 ≤ x) (h2 : x ≤ 9223372036854775807) :
    IsFl tF eb ec ((w.setCell ⟨g, 7, none⟩ (.int .i64 x)).setCell ⟨g, 8, none⟩ (.int .u8 (m.toNat : Int))) g gb gc cb cc { f with keep := x, mask := m } :=
  ⟨heap_setC (heap_setC h.st 7 _) 8 _, (h.rb.eq (heap_setO (Ne.symm h.n1) _ _)).eq (heap_setO (Ne.symm h.n1) _ _), (h.rc.eq (heap_setO (Ne.symm h.n2) _ _)).eq (heap_setO (Ne.symm h.n2) _ _), h.n1, h.n2, h.n3,
    ⟨h.ok.s1, h.ok.s2, h.ok.z1, h.ok.z2, h.ok.l1, h.ok.l2, h.ok.hb, h.ok.hc, h.ok.hn, h.ok.f1, h.ok.f2, h1, h2⟩⟩
end
end Go.Proofs.Ytdnnodpchjnleaa
