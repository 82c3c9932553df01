/- The document's Print. No condition. -/
import Derived.Test.YtlpjcfiibbcdjaaGreatDoorJRight
namespace Go.Proofs.YtlpjcfiibbcdjaaGreatDoor
open Go.ChangeShapes Go.WideShapes Go.ChangeAt Go.RowKit
def nl1 : List UInt8 := [10, 86, 101, 114, 115, 105, 111, 110, 58, 32]
def textJ (j : JD) : List UInt8 := [78, 97, 109, 101, 58, 32] ++ j.name ++ [10, 86, 101, 114, 115, 105, 111, 110, 58, 32] ++ vtext j.a j.b j.c ++ [10, 77, 97, 105, 110, 58, 32] ++ j.main ++ [10, 83, 105, 122, 101, 58, 32] ++ Lib.itoa j.size ++ [10, 72, 97, 115, 104, 58, 32] ++ hexB j.hash ++ [10]
theorem vtext_len {a b c : Int} (ha : Mil a) (hb : Mil b) (hc : Mil c) : (vtext a b c).length ≤ 100 := by
  have hla := itoa_len a (by have := ha.1; omega) (by have := ha.2; omega)
  have hlb := itoa_len b (by have := hb.1; omega) (by have := hb.2; omega)
  have hlc := itoa_len c (by have := hc.1; omega) (by have := hc.2; omega)
  rw [vtext_eq]; simp; omega
structure FitJ (j : JD) : Prop where
  a : Mil j.a
  b : Mil j.b
  c : Mil j.c
  n : j.name.length ≤ 100
  m : j.main.length ≤ 100
  s : 0 ≤ j.size ∧ j.size ≤ 1000000
  h : j.hash.length = 32
theorem okJ_fit {j : JD} (h : okJ j = true) (hh : j.hash.length = 32) : FitJ j := by
  unfold okJ at h
  simp only [Bool.and_eq_true, Bool.not_eq_true', decide_eq_true_eq, List.any_cons, List.any_nil, Bool.or_false, Bool.or_eq_false_iff, oddI, decide_eq_false_iff_not] at h
  obtain ⟨⟨⟨ha, ha2⟩, ⟨hb, hb2⟩, ⟨hc, hc2⟩⟩, hn, hm, h1, h2⟩ := h
  refine ⟨⟨by omega, by omega⟩, ⟨by omega, by omega⟩, ⟨by omega, by omega⟩, ?_, ?_, ⟨by omega, by omega⟩, hh⟩
  · unfold nameB at hn
    simp only [Bool.and_eq_true, decide_eq_true_eq] at hn
    omega
  · unfold classB at hm
    simp only [Bool.and_eq_true, decide_eq_true_eq] at hm
    omega
theorem RowJ.hash {w : World} {g : Nat} {j : JD} (h : RowJ w g j) : w.rangeAt g 6 (j.hash.map encB) := by
  intro k v hv
  rw [h.cell, ← hv]
  show (([.string ⟨j.name.toArray⟩, .int .i64 j.a, .int .i64 j.b, .int .i64 j.c, .string ⟨j.main.toArray⟩, .int .i64 j.size] : List Value) ++ j.hash.map encB)[6 + k]? = _
  rw [List.getElem?_append_right (by simp)]
  simp
theorem exec_loadAt {P : Program} {ρ : Operand → Value} {o : Oper} {ty : TypeId} {x : Operand} (ho : o.op = .load ty x) {p v : Value} (hx : ρ x = p) {w' : World} (h : (Instr.loadAt ty p).run P w' = .ok v w') : (execOp ρ o).run P w' = .ok (.value v) w' := by
  unfold execOp
  simp only [ho, hx, Sem.run_bind, h, Result.andThen_ok, Sem.run_pure]
set_option maxHeartbeats 4000000 in
set_option maxRecDepth 100000 in
theorem refPrint_any (w : World) (j : JD) (hf : FitJ j) :
    Calls Tryz.prog 11 #[j.val] w fun e w' => e = .returned (.string ⟨(textJ j).toArray⟩) ∧ Below w.heap.size w w' := by
  unfold JD.val
  obtain ⟨C, hC⟩ : ∃ C, C = j.cells.toArray := ⟨_, rfl⟩
  rw [← hC]
  have hb : Below w.heap.size w (w.alloc (.cells C JadT)) := (Below.refl _ _).alloc (Nat.le_refl _) _
  have hrow : RowJ (w.alloc (.cells C JadT)) w.heap.size j := by rw [hC]; exact heap_alloc_last w _
  have HB := Lib.hid hb
  have HROW := Lib.hid hrow
  have HPV := Lib.hid (fun w => refPrintV_any w j.a j.b j.c hf.a hf.b hf.c)
  have HDG := Lib.hid (fun w => digits_any w j.size (by have := hf.s.1; omega) (by have := hf.s.2; omega))
  have HHX := Lib.hid (fun w => refHex_any w j.hash hf.h)
  have hlv := vtext_len hf.a hf.b hf.c
  have hli := itoa_len j.size (by have := hf.s.1; omega) (by have := hf.s.2; omega)
  have hlh : (hexB j.hash).length = 64 := by rw [hexB_length, hf.h]
  have hln := hf.n
  have hlm := hf.m
  obtain ⟨T, htx⟩ : ∃ T, T = textJ j := ⟨_, rfl⟩
  rw [← htx]
  unfold textJ at htx
  have HTX := Lib.hid htx
  have HHL := Lib.hid hf.h
  generalize vtext j.a j.b j.c = tv at *
  generalize Lib.itoa j.size = ti at *
  generalize hexB j.hash = th at *
  clear hb hrow hC htx
  go_enter Tryz.func11, Tryz.ntmps11
  go_upto_region 1 with fail
  generalize w.alloc (.cells C JadT) = w1 at *
  have hrw : ∀ w', Below w1.heap.size w1.drew w' → RowJ w' w.heap.size j := fun w' h => RowJ.below (w := w1.drew) HROW.out h
  have c0 := fun w' h => (hrw w' h).c0
  have c1 := fun w' h => (hrw w' h).c1
  have c2 := fun w' h => (hrw w' h).c2
  have c3 := fun w' h => (hrw w' h).c3
  have c4 := fun w' h => (hrw w' h).c4
  have c5 := fun w' h => (hrw w' h).c5
  obtain ⟨A, hA⟩ : ∃ A, A = (j.hash.map encB).toArray := ⟨_, rfl⟩
  have ch : ∀ w', Below w1.heap.size w1.drew w' → (Instr.loadAt 24 (.pointer (some ⟨w.heap.size, 6, none⟩))).run Tryz.prog w' = .ok (.agg A) w' := fun w' h => by
    rw [hA]
    exact run_loadAt_mid w' w.heap.size 6 24 (j.hash.map encB) _ (hrw w' h).hash Tryz.underlying24 rfl (by rw [List.length_map, HHL.out]; exact info_out)
  rw [← hA] at HHX
  generalize j.name = nm at *
  generalize j.main = mn at *
  generalize j.a = a at *
  generalize j.b = b at *
  generalize j.c = c at *
  generalize j.size = sz at *
  have n0 : ¬ 9223372036854775807 < 6 + nm.length := by omega
  have n1 : ¬ 9223372036854775807 < 6 + nm.length + 10 := by omega
  have n2 : ¬ 9223372036854775807 < 6 + nm.length + 10 + tv.length := by omega
  have n3 : ¬ 9223372036854775807 < 6 + nm.length + 10 + tv.length + 7 := by omega
  have n4 : ¬ 9223372036854775807 < 6 + nm.length + 10 + tv.length + 7 + mn.length := by omega
  have n5 : ¬ 9223372036854775807 < 6 + nm.length + 10 + tv.length + 7 + mn.length + 7 := by omega
  have n6 : ¬ 9223372036854775807 < 6 + nm.length + 10 + tv.length + 7 + mn.length + 7 + ti.length := by omega
  have n7 : ¬ 9223372036854775807 < 6 + nm.length + 10 + tv.length + 7 + mn.length + 7 + ti.length + 7 := by omega
  have n8 : ¬ 9223372036854775807 < 6 + nm.length + 10 + tv.length + 7 + mn.length + 7 + ti.length + 7 + th.length := by omega
  have n9 : ¬ 9223372036854775807 < 6 + nm.length + 10 + tv.length + 7 + mn.length + 7 + ti.length + 7 + th.length + 1 := by omega
  clear hA hrw hln hlm hlv hli hlh hf
  refine wp_region_lexS (Below w1.heap.size w1.drew) (.stir [(0, true), (1, true), (2, true), (3, true), (4, true), (5, true), (6, false), (7, true), (8, true), (9, true), (10, true), (11, true), (12, true), (13, true), (14, true), (15, false), (16, true), (17, true), (18, true), (19, true), (20, false), (21, true), (22, true), (23, true)]) (by kernel_rfl) (by kernel_rfl) (fun c a d v w h => by cases d <;> exact h) ?_
  refine lexS_stir (Below w1.heap.size w1.drew) (fun y hy => hy) (Below.refl _ _) ?_
  iterate 6
    refine stir_step (fun K hK => ?_)
    simp only [stirOp, List.getElem?_toArray, List.getElem?_cons_succ, List.getElem?_cons_zero]
    rw [if_pos (by rfl)]
    apply Exists.intro
    refine ⟨fun w' hS' => ?_, ?_⟩
    · first | (go_simp <;> with_reducible rfl) | (go_simp; go_bits; with_reducible rfl)
    go_simp
    try go_bits
    refine hK _ ?_
    clear hK K
  refine stir_step (fun K hK => ?_)
  simp only [stirOp, List.getElem?_toArray, List.getElem?_cons_succ, List.getElem?_cons_zero]
  rw [if_pos (by rfl)]
  apply Exists.intro
  refine ⟨fun w' hS' => ?_, ?_⟩
  · go_simp
    exact Stirs.call (Calls.mono (HPV.out w') fun e w'' h => ⟨h.1, (fun hb'' => (hS'.trans (hb''.mono hS'.size))) h.2⟩)
  go_simp
  refine hK _ ?_
  clear hK K
  iterate 8
    refine stir_step (fun K hK => ?_)
    simp only [stirOp, List.getElem?_toArray, List.getElem?_cons_succ, List.getElem?_cons_zero]
    rw [if_pos (by rfl)]
    apply Exists.intro
    refine ⟨fun w' hS' => ?_, ?_⟩
    · first | (go_simp <;> with_reducible rfl) | (go_simp; go_bits; with_reducible rfl)
    go_simp
    try go_bits
    refine hK _ ?_
    clear hK K
  refine stir_step (fun K hK => ?_)
  simp only [stirOp, List.getElem?_toArray, List.getElem?_cons_succ, List.getElem?_cons_zero]
  rw [if_pos (by rfl)]
  apply Exists.intro
  refine ⟨fun w' hS' => ?_, ?_⟩
  · go_simp
    exact Stirs.call (Calls.mono (HDG.out w') fun e w'' h => ⟨h.1, (fun hb'' => (hS'.trans (hb''.mono hS'.size))) h.2⟩)
  go_simp
  refine hK _ ?_
  clear hK K
  iterate 3
    refine stir_step (fun K hK => ?_)
    simp only [stirOp, List.getElem?_toArray, List.getElem?_cons_succ, List.getElem?_cons_zero]
    rw [if_pos (by rfl)]
    apply Exists.intro
    refine ⟨fun w' hS' => ?_, ?_⟩
    · first | (go_simp <;> with_reducible rfl) | (go_simp; go_bits; with_reducible rfl)
    go_simp
    try go_bits
    refine hK _ ?_
    clear hK K
  refine stir_step (fun K hK => ?_)
  simp only [stirOp, List.getElem?_toArray, List.getElem?_cons_succ, List.getElem?_cons_zero]
  rw [if_pos (by rfl)]
  apply Exists.intro
  refine ⟨fun w' hS' => ?_, ?_⟩
  · exact exec_loadAt rfl rfl (ch w' hS')
  go_simp
  refine hK _ ?_
  clear hK K
  refine stir_step (fun K hK => ?_)
  simp only [stirOp, List.getElem?_toArray, List.getElem?_cons_succ, List.getElem?_cons_zero]
  rw [if_pos (by rfl)]
  apply Exists.intro
  refine ⟨fun w' hS' => ?_, ?_⟩
  · go_simp
    exact Stirs.call (Calls.mono (HHX.out w') fun e w'' h => ⟨h.1, (fun hb'' => (hS'.trans (hb''.mono hS'.size))) h.2⟩)
  go_simp
  refine hK _ ?_
  clear hK K
  iterate 3
    refine stir_step (fun K hK => ?_)
    simp only [stirOp, List.getElem?_toArray, List.getElem?_cons_succ, List.getElem?_cons_zero]
    rw [if_pos (by rfl)]
    apply Exists.intro
    refine ⟨fun w' hS' => ?_, ?_⟩
    · first | (go_simp <;> with_reducible rfl) | (go_simp; go_bits; with_reducible rfl)
    go_simp
    try go_bits
    refine hK _ ?_
    clear hK K
  refine stir_nil (fun w2 hw2 => ?_)
  have HB2 := Lib.hid (HB.out.drew.trans (hw2.mono HB.out.size))
  clear c0 c1 c2 c3 c4 c5 ch hw2
  go_wp2_with fail
  go_ret
  exact ⟨by rw [HTX.out]; simp only [← str_app]; rfl, HB2.out⟩
end Go.Proofs.YtlpjcfiibbcdjaaGreatDoor
