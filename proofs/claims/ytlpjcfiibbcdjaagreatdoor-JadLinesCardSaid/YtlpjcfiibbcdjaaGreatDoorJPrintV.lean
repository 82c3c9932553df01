/- jad's and the document's PrintVersion. No condition. -/
import Derived.Test.YtlpjcfiibbcdjaaGreatDoorJNum
import Derived.Test.YtlpjcfiibbcdjaaGreatDoorJCmp
import Derived.Test.YtlpjcfiibbcdjaaGreatDoorSs2
import Derived.Laws.MakeOwn
namespace Go.Proofs.YtlpjcfiibbcdjaaGreatDoor
open Go.ChangeShapes Go.WideShapes Go.ChangeAt Go.RowKit
def encS (x : List UInt8) : Value := .string ⟨x.toArray⟩
theorem oneS : OneE 43 9 (.string ⟨#[]⟩) 16 := ⟨Tryz.underlying43, by kernel_rfl, rfl⟩
def vtext (a b c : Int) : List UInt8 := Lib.join [Lib.itoa a, Lib.itoa b, Lib.itoa c] [46]
theorem vtext_eq (a b c : Int) : vtext a b c = Lib.itoa a ++ [46] ++ Lib.itoa b ++ [46] ++ Lib.itoa c := by
  unfold vtext; rw [Lib.join_cons]; simp [Lib.joinTail]
def Mil (a : Int) : Prop := -1000000 ≤ a ∧ a ≤ 1000000
theorem idx3 (w' : World) (A : List Int) (hl : A.length = 3) (k : Nat) (h : k < A.length) : (Instr.index 23 (.agg (A.map fun x => Value.int .i64 x).toArray) (.int .i64 k)).run Tryz.prog w' = .ok (.int .i64 A[k]) w' := by
  have hu := Tryz.underlying23
  have hk2 : ((k : Nat) : Int) < 3 := by omega
  have hk3 : k < 3 := by omega
  simp [go_sem, Instr.index, hu, hl, h, hk2, hk3]
set_option maxRecDepth 100000 in
set_option maxHeartbeats 4000000 in
theorem refPrintV_any (w : World) (a b c : Int) (ha : Mil a) (hb : Mil b) (hc : Mil c) :
    Calls Tryz.prog 17 #[.agg #[.int .i64 a, .int .i64 b, .int .i64 c]] w fun e w' => e = .returned (.string ⟨(vtext a b c).toArray⟩) ∧ Below w.heap.size w w' := by
  rw [vtext_eq]
  have HDA := Lib.hid (fun w => digits_any w a (by have := ha.1; omega) (by have := ha.2; omega))
  have HDB := Lib.hid (fun w => digits_any w b (by have := hb.1; omega) (by have := hb.2; omega))
  have HDC := Lib.hid (fun w => digits_any w c (by have := hc.1; omega) (by have := hc.2; omega))
  have hla := itoa_len a (by have := ha.1; omega) (by have := ha.2; omega)
  have hlb := itoa_len b (by have := hb.1; omega) (by have := hb.2; omega)
  have hlc := itoa_len c (by have := hc.1; omega) (by have := hc.2; omega)
  generalize Lib.itoa a = x at *
  generalize Lib.itoa b = y at *
  generalize Lib.itoa c = z at *
  have n1 : ¬ 9223372036854775807 < x.length + 1 := by omega
  have n2 : ¬ 9223372036854775807 < x.length + 1 + y.length := by omega
  have n3 : ¬ 9223372036854775807 < x.length + 1 + y.length + 1 := by omega
  have n4 : ¬ 9223372036854775807 < x.length + 1 + y.length + 1 + z.length := by omega
  clear ha hb hc hla hlb hlc
  have h1 : Below w.heap.size w (w.alloc (.cells #[.int .i64 a, .int .i64 b, .int .i64 c] 23)) := (Below.refl _ _).alloc (Nat.le_refl _) _
  have h2 : (w.alloc (.cells #[.int .i64 a, .int .i64 b, .int .i64 c] 23)).heap[w.heap.size]? = some (.cells #[.int .i64 a, .int .i64 b, .int .i64 c] 23 (0, 0)) := heap_alloc_last w _
  have HB := Lib.hid h1
  have HR := Lib.hid h2
  clear h1 h2
  go_enter Tryz.func17, Tryz.ntmps17
  go_upto_region 1 with fail
  generalize w.alloc (.cells #[.int .i64 a, .int .i64 b, .int .i64 c] 23) = w1 at *
  have c0 : ∀ w', Below w1.heap.size w1.drew w' → w'.cell? ⟨w.heap.size, 0, none⟩ = some (.int .i64 a) := fun w' h => cell_below (w := w1.drew) (by show w1.cell? _ = _; rw [cell_of_row _ _ 0 _ _ _ HR.out]; rfl) h
  have c1 : ∀ w', Below w1.heap.size w1.drew w' → w'.cell? ⟨w.heap.size, 1, none⟩ = some (.int .i64 b) := fun w' h => cell_below (w := w1.drew) (by show w1.cell? _ = _; rw [cell_of_row _ _ 1 _ _ _ HR.out]; rfl) h
  have c2 : ∀ w', Below w1.heap.size w1.drew w' → w'.cell? ⟨w.heap.size, 2, none⟩ = some (.int .i64 c) := fun w' h => cell_below (w := w1.drew) (by show w1.cell? _ = _; rw [cell_of_row _ _ 2 _ _ _ HR.out]; rfl) h
  refine wp_region_lexS (Below w1.heap.size w1.drew) (.stir [(0, true), (1, true), (2, false), (3, true), (4, true), (5, true), (6, false), (7, true), (8, true), (9, true), (10, true), (11, false), (12, true), (13, true)]) (by kernel_rfl) (by kernel_rfl) (fun c a d v w h => by cases d <;> exact h) ?_
  refine lexS_stir (Below w1.heap.size w1.drew) (fun y hy => hy) (Below.refl _ _) ?_
  iterate 2
    refine stir_step (fun K hK => ?_)
    simp only [stirOp, List.getElem?_toArray, List.getElem?_cons_succ, List.getElem?_cons_zero]
    rw [if_pos (by rfl)]
    apply Exists.intro
    refine ⟨fun w' hS' => ?_, ?_⟩
    · first | (go_simp <;> with_reducible rfl) | (go_simp; go_bits; with_reducible rfl)
    go_simp
    try go_bits
    refine hK _ ?_
    clear hK K
  refine stir_step (fun K hK => ?_)
  simp only [stirOp, List.getElem?_toArray, List.getElem?_cons_succ, List.getElem?_cons_zero]
  rw [if_pos (by rfl)]
  apply Exists.intro
  refine ⟨fun w' hS' => ?_, ?_⟩
  · go_simp
    exact Stirs.call (Calls.mono (HDA.out w') fun e w'' h => ⟨h.1, (fun hb'' => (hS'.trans (hb''.mono hS'.size))) h.2⟩)
  go_simp
  refine hK _ ?_
  clear hK K
  iterate 3
    refine stir_step (fun K hK => ?_)
    simp only [stirOp, List.getElem?_toArray, List.getElem?_cons_succ, List.getElem?_cons_zero]
    rw [if_pos (by rfl)]
    apply Exists.intro
    refine ⟨fun w' hS' => ?_, ?_⟩
    · first | (go_simp <;> with_reducible rfl) | (go_simp; go_bits; with_reducible rfl)
    go_simp
    try go_bits
    refine hK _ ?_
    clear hK K
  refine stir_step (fun K hK => ?_)
  simp only [stirOp, List.getElem?_toArray, List.getElem?_cons_succ, List.getElem?_cons_zero]
  rw [if_pos (by rfl)]
  apply Exists.intro
  refine ⟨fun w' hS' => ?_, ?_⟩
  · go_simp
    exact Stirs.call (Calls.mono (HDB.out w') fun e w'' h => ⟨h.1, (fun hb'' => (hS'.trans (hb''.mono hS'.size))) h.2⟩)
  go_simp
  refine hK _ ?_
  clear hK K
  iterate 4
    refine stir_step (fun K hK => ?_)
    simp only [stirOp, List.getElem?_toArray, List.getElem?_cons_succ, List.getElem?_cons_zero]
    rw [if_pos (by rfl)]
    apply Exists.intro
    refine ⟨fun w' hS' => ?_, ?_⟩
    · first | (go_simp <;> with_reducible rfl) | (go_simp; go_bits; with_reducible rfl)
    go_simp
    try go_bits
    refine hK _ ?_
    clear hK K
  refine stir_step (fun K hK => ?_)
  simp only [stirOp, List.getElem?_toArray, List.getElem?_cons_succ, List.getElem?_cons_zero]
  rw [if_pos (by rfl)]
  apply Exists.intro
  refine ⟨fun w' hS' => ?_, ?_⟩
  · go_simp
    exact Stirs.call (Calls.mono (HDC.out w') fun e w'' h => ⟨h.1, (fun hb'' => (hS'.trans (hb''.mono hS'.size))) h.2⟩)
  go_simp
  refine hK _ ?_
  clear hK K
  iterate 2
    refine stir_step (fun K hK => ?_)
    simp only [stirOp, List.getElem?_toArray, List.getElem?_cons_succ, List.getElem?_cons_zero]
    rw [if_pos (by rfl)]
    apply Exists.intro
    refine ⟨fun w' hS' => ?_, ?_⟩
    · first | (go_simp <;> with_reducible rfl) | (go_simp; go_bits; with_reducible rfl)
    go_simp
    try go_bits
    refine hK _ ?_
    clear hK K
  refine stir_nil (fun w2 hw2 => ?_)
  have HB2 := Lib.hid (HB.out.drew.trans (hw2.mono HB.out.size))
  clear c0 c1 c2 hw2
  go_wp2_with fail
  go_ret
  exact ⟨by simp only [← str_app]; rfl, HB2.out⟩
set_option maxRecDepth 100000 in
set_option maxHeartbeats 4000000 in
theorem PrintV_any (w : World) (a b c : Int) (ha : Mil a) (hb : Mil b) (hc : Mil c) (hv : VW w) :
    Calls Tryz.prog 16 #[.agg #[.int .i64 a, .int .i64 b, .int .i64 c]] w fun e w' => e = .returned (.string ⟨(vtext a b c).toArray⟩) ∧ Below w.heap.size w w' := by
  obtain ⟨A, hA⟩ : ∃ A, A = [a, b, c] := ⟨_, rfl⟩
  have hvt : vtext a b c = Lib.join (A.map Lib.itoa) [46] := by rw [hA]; rfl
  have hl : A.length = 3 := by rw [hA]; rfl
  have hmil : ∀ x, x ∈ A → Mil x := by rw [hA]; intro x hx; simp at hx; rcases hx with rfl | rfl | rfl <;> assumption
  have hlen : (vtext a b c).length ≤ 100 := by
    have hla := itoa_len a (by have := ha.1; omega) (by have := ha.2; omega)
    have hlb := itoa_len b (by have := hb.1; omega) (by have := hb.2; omega)
    have hlc := itoa_len c (by have := hc.1; omega) (by have := hc.2; omega)
    rw [vtext_eq]; simp; omega
  rw [hvt] at hlen ⊢
  have h1 : Below w.heap.size w (w.alloc (.cells #[.int .i64 a, .int .i64 b, .int .i64 c] 23)) := (Below.refl _ _).alloc (Nat.le_refl _) _
  have HB := Lib.hid h1
  have HV := Lib.hid (hv.below h1)
  have hix := fun w' k h => idx3 w' A hl k h
  rw [show (A.map fun x => Value.int .i64 x).toArray = #[.int .i64 a, .int .i64 b, .int .i64 c] from by rw [hA]; rfl] at hix
  have HIX := Lib.hid hix
  have HL := Lib.hid hl
  have HM := Lib.hid hmil
  have HLEN := Lib.hid hlen
  clear hv h1 hix hl hmil hA ha hb hc hvt hlen
  go_enter Tryz.func16, Tryz.ntmps16
  go_upto_region 1 with fail
  go_wp2_with fail
  generalize w.alloc (.cells #[.int .i64 a, .int .i64 b, .int .i64 c] 23) = w1 at *
  go_loopg [3, 7] 3 (fun gn sv i wr => ∃ k : Nat, k ≤ 3 ∧ gn = 3 - k ∧ i = .int .i64 k ∧ Hid (wr.ownsRow w1.heap.size 9 1 sv k (((A.take k).map Lib.itoa).map encS)) ∧ Hid (Below w1.heap.size w1 wr))
  case atStart => exact ⟨0, by omega, by omega, by go_num, Lib.hid (World.ownsRow_nil _ _ _ _), Lib.hid (Below.refl _ _)⟩
  case round =>
    obtain ⟨k, hk, rfl, rfl, HO, HBW⟩ := hrel
    by_cases hlt : k < 3
    · have k1 : (k : Int) < 3 := by omega
      have hkl : k < A.length := by rw [HL.out]; exact hlt
      have hx := HIX.out wr k hkl
      have hmx := HM.out _ (List.getElem_mem hkl)
      have hsn : ((A.take (k + 1)).map Lib.itoa).map encS = ((A.take k).map Lib.itoa).map encS ++ [encS (Lib.itoa A[k])] := by
        rw [List.take_succ_eq_append_getElem hkl, List.map_append, List.map_append]; rfl
      have HI := Lib.hid (Itoa_any wr A[k] (by have := hmx.1; omega) (by have := hmx.2; omega) (HV.out.below HBW.out))
      have HSN := Lib.hid hsn
      generalize A[k] = x at *
      clear hmx hsn hkl
      go_wp2_with fail
      refine HI.out.mono ?_
      rintro e w2 ⟨rfl, hb2⟩
      have HO2 := Lib.hid (own_below HO.out hb2)
      have HB2 := Lib.hid (HBW.out.trans (hb2.mono HBW.out.size))
      clear hb2
      go_wp2_with (at_builtin; refine wpList_app_lit2 oneS rfl _ _ rfl w1.heap.size _ k _ rfl HO2.out _ 1 _ _ rfl (by simp) rfl rfl (by omega) (by unfold maxLen; omega) HB2.out.size ?_; intro v8 W8 hown8 hg8 hb8; have HO8 := Lib.hid hown8; have HB8 := Lib.hid (HB2.out.trans hb8); clear hown8 hg8 hb8)
      go_roundg (3 - (k + 1))
      case measure => omega
      case rel => exact ⟨k + 1, by omega, rfl, by go_num, Lib.hid (by rw [HSN.out]; exact HO8.out), HB8⟩
    · obtain rfl : k = 3 := by omega
      obtain ⟨ad, cp, rfl, hsl, hcp⟩ := Sl.ofOwn HO.out
      obtain ⟨g, rfl, hgb, hgl⟩ := own_addr HO.out (by omega)
      have hlA : ((A.take 3).map Lib.itoa) = A.map Lib.itoa := by rw [List.take_of_length_le (by rw [HL.out]; exact Nat.le_refl _)]
      have hl3 : (A.map Lib.itoa).length = 3 := by rw [List.length_map]; exact HL.out
      have HJ := Join_any wr g cp (A.map Lib.itoa) [46] (fun j x hx => by
        have hj : j < 3 := by rw [← hl3]; exact (List.getElem?_eq_some_iff.1 hx).1
        rw [HO.out.cellAt j hj, hlA, List.getElem?_map, hx]; rfl) hgl (by rw [hl3]; exact hcp) (by rw [hl3]; decide) (by have := HLEN.out; omega)
      rw [hl3] at HJ
      obtain ⟨txt, ht⟩ : ∃ txt, txt = Lib.join (A.map Lib.itoa) [46] := ⟨_, rfl⟩
      rw [← ht] at HJ
      have HT := Lib.hid ht
      have HJ := Lib.hid HJ
      clear ht
      clear hsl hcp hgb hgl hlA hl3
      go_wp2_with fail
      refine HJ.out.mono ?_
      rintro e w3 ⟨rfl, hb3⟩
      have HB3 := Lib.hid (HB.out.trans ((HBW.out.trans (hb3.mono HBW.out.size)).mono HB.out.size))
      clear hb3
      go_wp2_with fail
      go_ret
      exact ⟨by rw [← HT.out]; rfl, HB3.out⟩
end Go.Proofs.YtlpjcfiibbcdjaaGreatDoor
