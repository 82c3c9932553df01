/- pool: bare. No condition. -/
import Derived.Test.YtlfoedagcagpgaaPoolFn2
import Derived.Laws.StructEq
namespace Go.Proofs.Ytlfoedagcagpgaa
open Go.ChangeShapes Go.WideShapes Go.ChangeAt Go.RowKit
/-- A constant without what it may not have. -/
def bareV (c : KV) : KV :=
  ⟨c.tag, if c.tag = 9 ∨ c.tag = 10 ∨ c.tag = 12 ∨ c.tag = 7 ∨ c.tag = 8 then c.a else 0, if c.tag = 9 ∨ c.tag = 10 ∨ c.tag = 12 then c.b else 0, if c.tag = 3 then wrap32 c.n else if c.tag = 5 then c.n else 0, if c.tag = 1 then c.s else []⟩
def kV (c : KV) : Value := .agg #[.int .i64 c.tag, .int .i64 c.a, .int .i64 c.b, .int .i64 c.n, .string ⟨c.s.toArray⟩]
theorem infoConst : (Try.prog.info? 28).map (·.size) = some 5 := by kernel_rfl
theorem blk_0 (w : World) (A B C : Obj) : (((w.alloc A).alloc B).alloc C).heap[w.heap.size]? = some A := by
  rw [Below.heap_alloc _ _ _ (by simp; omega), Below.heap_alloc _ _ _ (by simp)]; exact heap_alloc_last w A
theorem blk_1 (w : World) (A B C : Obj) : (((w.alloc A).alloc B).alloc C).heap[w.heap.size + 1]? = some B := by
  rw [Below.heap_alloc _ _ _ (by simp)]
  have := heap_alloc_last (w.alloc A) B
  simpa using this
theorem below_3 (w : World) (A B C : Obj) : Below w.heap.size w (((w.alloc A).alloc B).alloc C) := (((Below.refl _ _).alloc (Nat.le_refl _) _).alloc (by simp) _).alloc (by simp; omega) _
set_option maxRecDepth 100000 in
set_option maxHeartbeats 4000000 in
theorem bare_1 (w : World) (t a b n : Int) (s : List UInt8) : Calls Try.prog 20 #[kV ⟨1, a, b, n, s⟩] w fun e w' => e = .returned (kV (bareV ⟨1, a, b, n, s⟩)) ∧ Below w.heap.size w w' := by
  unfold kV
  go_enter Try.func20, Try.ntmps20
  go_wp2_with fail
  unfold bareV
  simp only [reduceCtorEq, if_true, if_false, or_true, true_or, or_false, false_or, Int.reduceEq, or_self]
  exact bodyPost_ret (results_cell_row rfl _ _ (w.heap.size + 1) _ _ _ _ rfl (blk_1 _ _ _ _) Try.underlying28 rfl infoConst) rfl ⟨rfl, below_3 _ _ _ _⟩
set_option maxRecDepth 100000 in
set_option maxHeartbeats 4000000 in
theorem bare_3 (w : World) (t a b n : Int) (s : List UInt8) : Calls Try.prog 20 #[kV ⟨3, a, b, n, s⟩] w fun e w' => e = .returned (kV (bareV ⟨3, a, b, n, s⟩)) ∧ Below w.heap.size w w' := by
  unfold kV
  go_enter Try.func20, Try.ntmps20
  go_wp2_with fail
  unfold bareV
  simp only [reduceCtorEq, if_true, if_false, or_true, true_or, or_false, false_or, Int.reduceEq, or_self]
  have hw : wrap64 (wrap32 n) = wrap32 n := by unfold wrap64 wrap32; omega
  rw [hw]
  exact bodyPost_ret (results_cell_row rfl _ _ (w.heap.size + 1) _ _ _ _ rfl (blk_1 _ _ _ _) Try.underlying28 rfl infoConst) rfl ⟨rfl, below_3 _ _ _ _⟩
set_option maxRecDepth 100000 in
set_option maxHeartbeats 4000000 in
theorem bare_5 (w : World) (t a b n : Int) (s : List UInt8) : Calls Try.prog 20 #[kV ⟨5, a, b, n, s⟩] w fun e w' => e = .returned (kV (bareV ⟨5, a, b, n, s⟩)) ∧ Below w.heap.size w w' := by
  unfold kV
  go_enter Try.func20, Try.ntmps20
  go_wp2_with fail
  unfold bareV
  simp only [reduceCtorEq, if_true, if_false, or_true, true_or, or_false, false_or, Int.reduceEq, or_self]
  exact bodyPost_ret (results_cell_row rfl _ _ (w.heap.size + 1) _ _ _ _ rfl (blk_1 _ _ _ _) Try.underlying28 rfl infoConst) rfl ⟨rfl, below_3 _ _ _ _⟩
set_option maxRecDepth 100000 in
set_option maxHeartbeats 4000000 in
theorem bare_9 (w : World) (t a b n : Int) (s : List UInt8) : Calls Try.prog 20 #[kV ⟨9, a, b, n, s⟩] w fun e w' => e = .returned (kV (bareV ⟨9, a, b, n, s⟩)) ∧ Below w.heap.size w w' := by
  unfold kV
  go_enter Try.func20, Try.ntmps20
  go_wp2_with fail
  unfold bareV
  simp only [reduceCtorEq, if_true, if_false, or_true, true_or, or_false, false_or, Int.reduceEq, or_self]
  exact bodyPost_ret (results_cell_row rfl _ _ (w.heap.size + 1) _ _ _ _ rfl (blk_1 _ _ _ _) Try.underlying28 rfl infoConst) rfl ⟨rfl, below_3 _ _ _ _⟩
set_option maxRecDepth 100000 in
set_option maxHeartbeats 4000000 in
theorem bare_10 (w : World) (t a b n : Int) (s : List UInt8) : Calls Try.prog 20 #[kV ⟨10, a, b, n, s⟩] w fun e w' => e = .returned (kV (bareV ⟨10, a, b, n, s⟩)) ∧ Below w.heap.size w w' := by
  unfold kV
  go_enter Try.func20, Try.ntmps20
  go_wp2_with fail
  unfold bareV
  simp only [reduceCtorEq, if_true, if_false, or_true, true_or, or_false, false_or, Int.reduceEq, or_self]
  exact bodyPost_ret (results_cell_row rfl _ _ (w.heap.size + 1) _ _ _ _ rfl (blk_1 _ _ _ _) Try.underlying28 rfl infoConst) rfl ⟨rfl, below_3 _ _ _ _⟩
set_option maxRecDepth 100000 in
set_option maxHeartbeats 4000000 in
theorem bare_12 (w : World) (t a b n : Int) (s : List UInt8) : Calls Try.prog 20 #[kV ⟨12, a, b, n, s⟩] w fun e w' => e = .returned (kV (bareV ⟨12, a, b, n, s⟩)) ∧ Below w.heap.size w w' := by
  unfold kV
  go_enter Try.func20, Try.ntmps20
  go_wp2_with fail
  unfold bareV
  simp only [reduceCtorEq, if_true, if_false, or_true, true_or, or_false, false_or, Int.reduceEq, or_self]
  exact bodyPost_ret (results_cell_row rfl _ _ (w.heap.size + 1) _ _ _ _ rfl (blk_1 _ _ _ _) Try.underlying28 rfl infoConst) rfl ⟨rfl, below_3 _ _ _ _⟩
set_option maxRecDepth 100000 in
set_option maxHeartbeats 4000000 in
theorem bare_7 (w : World) (t a b n : Int) (s : List UInt8) : Calls Try.prog 20 #[kV ⟨7, a, b, n, s⟩] w fun e w' => e = .returned (kV (bareV ⟨7, a, b, n, s⟩)) ∧ Below w.heap.size w w' := by
  unfold kV
  go_enter Try.func20, Try.ntmps20
  go_wp2_with fail
  unfold bareV
  simp only [reduceCtorEq, if_true, if_false, or_true, true_or, or_false, false_or, Int.reduceEq, or_self]
  exact bodyPost_ret (results_cell_row rfl _ _ (w.heap.size + 1) _ _ _ _ rfl (blk_1 _ _ _ _) Try.underlying28 rfl infoConst) rfl ⟨rfl, below_3 _ _ _ _⟩
set_option maxRecDepth 100000 in
set_option maxHeartbeats 4000000 in
theorem bare_8 (w : World) (t a b n : Int) (s : List UInt8) : Calls Try.prog 20 #[kV ⟨8, a, b, n, s⟩] w fun e w' => e = .returned (kV (bareV ⟨8, a, b, n, s⟩)) ∧ Below w.heap.size w w' := by
  unfold kV
  go_enter Try.func20, Try.ntmps20
  go_wp2_with fail
  unfold bareV
  simp only [reduceCtorEq, if_true, if_false, or_true, true_or, or_false, false_or, Int.reduceEq, or_self]
  exact bodyPost_ret (results_cell_row rfl _ _ (w.heap.size + 1) _ _ _ _ rfl (blk_1 _ _ _ _) Try.underlying28 rfl infoConst) rfl ⟨rfl, below_3 _ _ _ _⟩
set_option maxRecDepth 100000 in
set_option maxHeartbeats 4000000 in
theorem bare_else (w : World) (t a b n : Int) (s : List UInt8) (h : t ≠ 1 ∧ t ≠ 3 ∧ t ≠ 5 ∧ t ≠ 9 ∧ t ≠ 10 ∧ t ≠ 12 ∧ t ≠ 7 ∧ t ≠ 8) : Calls Try.prog 20 #[kV ⟨t, a, b, n, s⟩] w fun e w' => e = .returned (kV (bareV ⟨t, a, b, n, s⟩)) ∧ Below w.heap.size w w' := by
  unfold kV
  obtain ⟨h1, h3, h5, h9, h10, h12, h7, h8⟩ := h
  have HB := Lib.hid (show bareV ⟨t, a, b, n, s⟩ = ⟨t, 0, 0, 0, []⟩ by unfold bareV; simp [h1, h3, h5, h9, h10, h12, h7, h8])
  have e1 : (t == 1) = false := by simp [h1]
  have e3 : (t == 3) = false := by simp [h3]
  have e5 : (t == 5) = false := by simp [h5]
  have e9 : (t == 9) = false := by simp [h9]
  have e10 : (t == 10) = false := by simp [h10]
  have e12 : (t == 12) = false := by simp [h12]
  have e7 : (t == 7) = false := by simp [h7]
  have e8 : (t == 8) = false := by simp [h8]
  clear h1 h3 h5 h9 h10 h12 h7 h8
  go_enter Try.func20, Try.ntmps20
  go_wp2_with fail
  rw [HB.out]
  exact bodyPost_ret (results_cell_row rfl _ _ (w.heap.size + 1) _ _ _ _ rfl (blk_1 _ _ _ _) Try.underlying28 rfl infoConst) rfl ⟨rfl, below_3 _ _ _ _⟩
theorem bare_any (w : World) (c : KV) : Calls Try.prog 20 #[kV c] w fun e w' => e = .returned (kV (bareV c)) ∧ Below w.heap.size w w' := by
  obtain ⟨t, a, b, n, s⟩ := c
  by_cases h1 : t = 1
  · subst h1; exact bare_1 w 0 a b n s
  by_cases h3 : t = 3
  · subst h3; exact bare_3 w 0 a b n s
  by_cases h5 : t = 5
  · subst h5; exact bare_5 w 0 a b n s
  by_cases h9 : t = 9
  · subst h9; exact bare_9 w 0 a b n s
  by_cases h10 : t = 10
  · subst h10; exact bare_10 w 0 a b n s
  by_cases h12 : t = 12
  · subst h12; exact bare_12 w 0 a b n s
  by_cases h7 : t = 7
  · subst h7; exact bare_7 w 0 a b n s
  by_cases h8 : t = 8
  · subst h8; exact bare_8 w 0 a b n s
  exact bare_else w t a b n s ⟨h1, h3, h5, h9, h10, h12, h7, h8⟩
end Go.Proofs.Ytlfoedagcagpgaa
