/- image: the widths, the program's and the reference's. No condition. -/
import Derived.Test.YtbcldlbmbdfejaaOpsFn2
import Derived.Test.YtbcldlbmbdfejaaNumSign
import Derived.Test.YtbcldlbmbdfejaaRegionE
import Derived.Test.YtbcldlbmbdfejaaSs2
import Derived.Test.YtbcldlbmbdfejaaLib3
import Derived.Test.YtbcldlbmbdfejaaBlk3
import Derived.MapKept
import Derived.Carry
namespace Go.Proofs.Ytbcldlbmbdfejaa
open Go.ChangeShapes Go.WideShapes Go.ChangeAt Go.RowKit
/-- Widths as a value. -/
def WV (q : Nat × Nat × Nat × Bool) : Value := .agg #[.int .i64 (q.1 : Nat), .int .i64 (q.2.1 : Nat), .int .i64 (q.2.2.1 : Nat)]
/-- A form's widths. -/
def formW (f : Nat) : Nat × Nat × Nat × Bool :=
  if f = 2 then (1, 0, 0, true) else if f = 9 then (1, 0, 0, true) else if f = 3 then (0, 0, 1, true) else if f = 4 then (0, 0, 2, true) else if f = 7 then (2, 0, 0, true) else if f = 6 then (2, 0, 0, true) else if f = 8 then (1, 0, 1, true) else (0, 0, 0, decide (0 < f))
/-- An operation's widths: of A, B and N. -/
def imgW (k : Nat) : Nat × Nat × Nat × Bool :=
  if k = 18 then (0, 0, 4, true) else if k = 20 then (0, 0, 8, true) else if k = 240 then (2, 0, 0, true) else if k = 182 ∨ k = 178 ∨ k = 179 ∨ k = 180 ∨ k = 181 then (2, 1, 0, true) else formW (formN k)
/-- The reference's. -/
def refW (k : Nat) : Nat × Nat × Nat × Bool :=
  if k = 18 then (0, 0, 4, true) else if k = 20 then (0, 0, 8, true) else if k = 240 then (2, 0, 0, true) else if k = 182 ∨ k = 178 ∨ k = 179 ∨ k = 180 ∨ k = 181 then (2, 1, 0, true) else if formN k = 5 then (0, 0, 0, false) else formW (formN k)
theorem refW_eq : ∀ k : Fin 256, refW k.val = imgW k.val := by decide +kernel
/-- A map's block. -/
def setM (w : World) (g : Nat) (es : Array MapEntry) (c : Nat) : World := { w with heap := w.heap.setIfInBounds g (.map es c) }
def MB (w : World) (g : Nat) (es : Array MapEntry) (c : Nat) : Prop := w.heap[g]? = some (.map es c)
theorem MB.set {w : World} {g : Nat} {es es' : Array MapEntry} {c c' : Nat} (h : MB w g es c) : MB (setM w g es' c') g es' c' := by
  unfold MB setM at *
  have hl := (Array.getElem?_eq_some_iff.1 h).1
  simp [hl]
theorem below_setM {B : Nat} {w0 w : World} {g : Nat} {es : Array MapEntry} {c : Nat} (h : Below B w0 w) (hg : B ≤ g) : Below B w0 (setM w g es c) :=
  ⟨h.os, h.tape, h.output, by unfold setM; simpa using h.size, fun k hk => by
    unfold setM
    rw [← h.block k hk]
    simp only [Array.getElem?_setIfInBounds]
    rw [if_neg (by omega)]⟩
/-- m[k] = v, where k is new. -/
theorem run_put {w : World} {g : Nat} {es : Array MapEntry} {c : Nat} (h : MB w g es c) (k : Int) (v : Value) (hn : Instr.findNow (.int .i64) (.int .i64 k) es.toList 0 = some none) :
    (Instr.mapUpdate 129 (.map (some g)) (.int .i64 k) v).run Try.prog w = .ok () (setM w g (es.push ⟨.int .i64 k, v, c⟩) (c + 1)) := by
  have hk : Go.MapKept.IsKey (.int .i64) (.int .i64 k) := by first | trivial | rfl
  unfold MB at h
  simp [Instr.mapUpdate, run_underlying Try.underlying129, Go.MapKept.run_getObj_map h, Go.MapKept.run_checkKey Try.underlying3 hk, Go.MapKept.run_findKey Try.underlying3 hn, Go.MapKept.run_setObj_map _ h, Result.andThen, setM]
/-- The map's entries. -/
def ents : Array MapEntry := #[⟨.int .i64 2, WV (1, 0, 0, true), 0⟩, ⟨.int .i64 9, WV (1, 0, 0, true), 1⟩, ⟨.int .i64 3, WV (0, 0, 1, true), 2⟩, ⟨.int .i64 4, WV (0, 0, 2, true), 3⟩, ⟨.int .i64 7, WV (2, 0, 0, true), 4⟩, ⟨.int .i64 6, WV (2, 0, 0, true), 5⟩, ⟨.int .i64 8, WV (1, 0, 1, true), 6⟩]
theorem zero_width (w : World) : (zeroValue 98).run Try.prog w = .ok (WV (0, 0, 0, true)) w := by kernel_rfl
theorem run_look {w : World} {g : Nat} {c : Nat} (h : MB w g ents c) (f : Nat) (hf : f ≤ 9) : (Instr.lookup 129 (.map (some g)) (.int .i64 f) false).run Try.prog w = .ok (WV (formW f)) w := by
  have hk : Go.MapKept.IsKey (.int .i64) (.int .i64 (f : Int)) := by first | trivial | rfl
  unfold MB at h
  have hfs : f = 0 ∨ f = 1 ∨ f = 2 ∨ f = 3 ∨ f = 4 ∨ f = 5 ∨ f = 6 ∨ f = 7 ∨ f = 8 ∨ f = 9 := by omega
  have hn : Instr.findNow (.int .i64) (.int .i64 f) ents.toList 0 = some (if f = 2 then some (0, WV (1, 0, 0, true)) else if f = 9 then some (1, WV (1, 0, 0, true)) else if f = 3 then some (2, WV (0, 0, 1, true)) else if f = 4 then some (3, WV (0, 0, 2, true)) else if f = 7 then some (4, WV (2, 0, 0, true)) else if f = 6 then some (5, WV (2, 0, 0, true)) else if f = 8 then some (6, WV (1, 0, 1, true)) else none) := by
    rcases hfs with rfl | rfl | rfl | rfl | rfl | rfl | rfl | rfl | rfl | rfl <;> rfl
  have hz := zero_width w
  have h1 := Go.MapKept.run_checkKey (w := w) Try.underlying3 hk ents.isEmpty 9999
  have h2 := Go.MapKept.run_findKey (w := w) Try.underlying3 hn
  simp only [Instr.lookup, Sem.run_bind, run_underlying Try.underlying129, Go.MapKept.run_getObj_map h, Result.andThen_ok, Sem.run_pure, h1, h2]
  clear h1 h2 hn hk
  rcases hfs with rfl | rfl | rfl | rfl | rfl | rfl | rfl | rfl | rfl | rfl <;>
    first | (simp [Result.andThen, hz, formW]; done) | (simp [Result.andThen, hz, formW]; rfl)
/-- A default operation. -/
def plainOp (k : Nat) : Prop := k ≠ 18 ∧ k ≠ 20 ∧ k ≠ 240 ∧ k ≠ 182 ∧ k ≠ 178 ∧ k ≠ 179 ∧ k ≠ 180 ∧ k ≠ 181
theorem imgW_plain {k : Nat} (h : plainOp k) : imgW k = formW (formN k) := by
  obtain ⟨h1, h2, h3, h4, h5, h6, h7, h8⟩ := h
  unfold imgW
  rw [if_neg h1, if_neg h2, if_neg h3, if_neg (by omega)]
theorem info3 : (Try.prog.info? 98).map (·.size) = some 3 := by kernel_rfl
theorem formW_ok (f : Nat) : (formW f).2.2.2 = decide (0 < f) := by
  unfold formW
  repeat' split
  all_goals first | rfl | (subst_vars; rfl)
set_option maxHeartbeats 4000000 in
set_option maxRecDepth 100000 in
theorem widths_plain (w : World) (k : Nat) (hk : k < 256) (hp : plainOp k) : Calls Try.prog 42 #[.int .u8 (k : Nat)] w fun e w' => e = .returned (.tuple #[WV (imgW k), .bool (imgW k).2.2.2]) ∧ Below w.heap.size w w' := by
  rw [imgW_plain hp, formW_ok]
  have hf9 := formN_le k
  obtain ⟨f, hf⟩ : ∃ f, f = formN k := ⟨_, rfl⟩
  have HF := Lib.hid (fun w' => Form_any w' k hk)
  rw [← hf] at HF hf9 ⊢
  obtain ⟨h1, h2, h3, h4, h5, h6, h7, h8⟩ := hp
  have b0 : ((k : Int) == 18) = false := beq_eq_false_iff_ne.2 (by omega)
  have b1 : ((k : Int) == 20) = false := beq_eq_false_iff_ne.2 (by omega)
  have b2 : ((k : Int) == 240) = false := beq_eq_false_iff_ne.2 (by omega)
  have b3 : ((k : Int) == 182) = false := beq_eq_false_iff_ne.2 (by omega)
  have b4 : ((k : Int) == 178) = false := beq_eq_false_iff_ne.2 (by omega)
  have b5 : ((k : Int) == 179) = false := beq_eq_false_iff_ne.2 (by omega)
  have b6 : ((k : Int) == 180) = false := beq_eq_false_iff_ne.2 (by omega)
  have b7 : ((k : Int) == 181) = false := beq_eq_false_iff_ne.2 (by omega)
  clear hf h1 h2 h3 h4 h5 h6 h7 h8
  obtain ⟨A, hA⟩ : ∃ A, A = (formW f).1 := ⟨_, rfl⟩
  obtain ⟨Bq, hBq⟩ : ∃ A, A = (formW f).2.1 := ⟨_, rfl⟩
  obtain ⟨Nq, hNq⟩ : ∃ A, A = (formW f).2.2.1 := ⟨_, rfl⟩
  have hWV : WV (formW f) = .agg #[.int .i64 (A : Nat), .int .i64 (Bq : Nat), .int .i64 (Nq : Nat)] := by rw [hA, hBq, hNq]; rfl
  rw [hWV]
  have HWV := Lib.hid hWV
  clear hA hBq hNq hWV
  go_enter Try.func42, Try.ntmps42
  go_wp2_with fail
  have hal : Below w.heap.size w (w.alloc (.cells #[.int .i64 0, .int .i64 0, .int .i64 0] 98)) := (Below.refl _ _).alloc (Nat.le_refl _) _
  have HB0 := Lib.hid hal
  have HK0 := Lib.hid (heap_alloc_last w (.cells #[.int .i64 0, .int .i64 0, .int .i64 0] 98))
  clear hal
  generalize w.alloc (.cells #[.int .i64 0, .int .i64 0, .int .i64 0] 98) = w1 at *
  refine (HF.out w1).mono ?_
  rintro e w2 ⟨rfl, hb2⟩
  have HB2 := Lib.hid (HB0.out.trans (hb2.mono HB0.out.size))
  have hgw : w.heap.size ≤ w2.heap.size := HB2.out.size
  have hmk := run_makeMap (P := Try.prog) 129 w2
  have m0 : MB (w2.alloc (.map #[] 0)) w2.heap.size #[] 0 := heap_alloc_last w2 _
  have q0 : Below w2.heap.size w2 (w2.alloc (.map #[] 0)) := (Below.refl _ _).alloc (Nat.le_refl _) _
  obtain ⟨M1, p1, m1, q1⟩ : ∃ M, (Instr.mapUpdate 129 (.map (some w2.heap.size)) (.int .i64 2) (.agg #[.int .i64 1, .int .i64 0, .int .i64 0])).run Try.prog (w2.alloc (.map #[] 0)) = .ok () M ∧ MB M w2.heap.size #[⟨.int .i64 2, .agg #[.int .i64 1, .int .i64 0, .int .i64 0], 0⟩] 1 ∧ Below w2.heap.size w2 M := ⟨_, run_put m0 2 _ rfl, m0.set, below_setM q0 (Nat.le_refl _)⟩
  obtain ⟨M2, p2, m2, q2⟩ : ∃ M, (Instr.mapUpdate 129 (.map (some w2.heap.size)) (.int .i64 9) (.agg #[.int .i64 1, .int .i64 0, .int .i64 0])).run Try.prog M1 = .ok () M ∧ MB M w2.heap.size #[⟨.int .i64 2, .agg #[.int .i64 1, .int .i64 0, .int .i64 0], 0⟩, ⟨.int .i64 9, .agg #[.int .i64 1, .int .i64 0, .int .i64 0], 1⟩] 2 ∧ Below w2.heap.size w2 M := ⟨_, run_put m1 9 _ rfl, m1.set, below_setM q1 (Nat.le_refl _)⟩
  clear m1 q1
  obtain ⟨M3, p3, m3, q3⟩ : ∃ M, (Instr.mapUpdate 129 (.map (some w2.heap.size)) (.int .i64 3) (.agg #[.int .i64 0, .int .i64 0, .int .i64 1])).run Try.prog M2 = .ok () M ∧ MB M w2.heap.size #[⟨.int .i64 2, .agg #[.int .i64 1, .int .i64 0, .int .i64 0], 0⟩, ⟨.int .i64 9, .agg #[.int .i64 1, .int .i64 0, .int .i64 0], 1⟩, ⟨.int .i64 3, .agg #[.int .i64 0, .int .i64 0, .int .i64 1], 2⟩] 3 ∧ Below w2.heap.size w2 M := ⟨_, run_put m2 3 _ rfl, m2.set, below_setM q2 (Nat.le_refl _)⟩
  clear m2 q2
  obtain ⟨M4, p4, m4, q4⟩ : ∃ M, (Instr.mapUpdate 129 (.map (some w2.heap.size)) (.int .i64 4) (.agg #[.int .i64 0, .int .i64 0, .int .i64 2])).run Try.prog M3 = .ok () M ∧ MB M w2.heap.size #[⟨.int .i64 2, .agg #[.int .i64 1, .int .i64 0, .int .i64 0], 0⟩, ⟨.int .i64 9, .agg #[.int .i64 1, .int .i64 0, .int .i64 0], 1⟩, ⟨.int .i64 3, .agg #[.int .i64 0, .int .i64 0, .int .i64 1], 2⟩, ⟨.int .i64 4, .agg #[.int .i64 0, .int .i64 0, .int .i64 2], 3⟩] 4 ∧ Below w2.heap.size w2 M := ⟨_, run_put m3 4 _ rfl, m3.set, below_setM q3 (Nat.le_refl _)⟩
  clear m3 q3
  obtain ⟨M5, p5, m5, q5⟩ : ∃ M, (Instr.mapUpdate 129 (.map (some w2.heap.size)) (.int .i64 7) (.agg #[.int .i64 2, .int .i64 0, .int .i64 0])).run Try.prog M4 = .ok () M ∧ MB M w2.heap.size #[⟨.int .i64 2, .agg #[.int .i64 1, .int .i64 0, .int .i64 0], 0⟩, ⟨.int .i64 9, .agg #[.int .i64 1, .int .i64 0, .int .i64 0], 1⟩, ⟨.int .i64 3, .agg #[.int .i64 0, .int .i64 0, .int .i64 1], 2⟩, ⟨.int .i64 4, .agg #[.int .i64 0, .int .i64 0, .int .i64 2], 3⟩, ⟨.int .i64 7, .agg #[.int .i64 2, .int .i64 0, .int .i64 0], 4⟩] 5 ∧ Below w2.heap.size w2 M := ⟨_, run_put m4 7 _ rfl, m4.set, below_setM q4 (Nat.le_refl _)⟩
  clear m4 q4
  obtain ⟨M6, p6, m6, q6⟩ : ∃ M, (Instr.mapUpdate 129 (.map (some w2.heap.size)) (.int .i64 6) (.agg #[.int .i64 2, .int .i64 0, .int .i64 0])).run Try.prog M5 = .ok () M ∧ MB M w2.heap.size #[⟨.int .i64 2, .agg #[.int .i64 1, .int .i64 0, .int .i64 0], 0⟩, ⟨.int .i64 9, .agg #[.int .i64 1, .int .i64 0, .int .i64 0], 1⟩, ⟨.int .i64 3, .agg #[.int .i64 0, .int .i64 0, .int .i64 1], 2⟩, ⟨.int .i64 4, .agg #[.int .i64 0, .int .i64 0, .int .i64 2], 3⟩, ⟨.int .i64 7, .agg #[.int .i64 2, .int .i64 0, .int .i64 0], 4⟩, ⟨.int .i64 6, .agg #[.int .i64 2, .int .i64 0, .int .i64 0], 5⟩] 6 ∧ Below w2.heap.size w2 M := ⟨_, run_put m5 6 _ rfl, m5.set, below_setM q5 (Nat.le_refl _)⟩
  clear m5 q5
  obtain ⟨M7, p7, m7, q7⟩ : ∃ M, (Instr.mapUpdate 129 (.map (some w2.heap.size)) (.int .i64 8) (.agg #[.int .i64 1, .int .i64 0, .int .i64 1])).run Try.prog M6 = .ok () M ∧ MB M w2.heap.size ents 7 ∧ Below w2.heap.size w2 M := ⟨_, run_put m6 8 _ rfl, m6.set, below_setM q6 (Nat.le_refl _)⟩
  clear m6 q6
  have hlk := run_look m7 f hf9
  rw [HWV.out] at hlk
  have q8 : Below w2.heap.size w2 (M7.alloc (.cells #[.int .i64 (A : Nat), .int .i64 (Bq : Nat), .int .i64 (Nq : Nat)] 98)) := q7.alloc q7.size _
  have hlt := (Array.getElem?_eq_some_iff.1 HK0.out).1
  have K0 : Blk3 w1 w.heap.size (.int .i64 0) (.int .i64 0) (.int .i64 0) 98 := HK0.out
  have K8 := Lib.hid (((K0.below hb2).belowB q8 (Nat.lt_of_lt_of_le hlt hb2.size)))
  have HB8 := Lib.hid (HB2.out.trans (q8.mono hgw))
  clear m7 q7 m0 q0 hb2 q8 HK0 K0 hlt
  obtain ⟨c0, c1, c2, f0, f1, f2, lt8⟩ := K8.out.box
  go_wp2_with fail
  exact bodyPost_ret (results_cell_row_tmp rfl _ _ w.heap.size _ _ _ _ rfl K8.out.set Try.underlying98 rfl info3) rfl ⟨rfl, HB8.out.trans (keep33 _ _ _ _ _)⟩
end Go.Proofs.Ytbcldlbmbdfejaa
