/- jad.Print. No condition. -/
import Derived.Test.YtlpjcfiibbcdjaaGreatDoorJRefP
namespace Go.Proofs.YtlpjcfiibbcdjaaGreatDoor
open Go.ChangeShapes Go.WideShapes Go.ChangeAt Go.RowKit
theorem textJ_eq (j : JD) : textJ j = Lib.join [[78, 97, 109, 101, 58, 32] ++ j.name, [86, 101, 114, 115, 105, 111, 110, 58, 32] ++ vtext j.a j.b j.c, [77, 97, 105, 110, 58, 32] ++ j.main, [83, 105, 122, 101, 58, 32] ++ Lib.itoa j.size, [72, 97, 115, 104, 58, 32] ++ hexB j.hash, []] [10] := by
  rw [Lib.join_cons]
  unfold textJ
  simp [Lib.joinTail]
theorem lines6 (w : World) (a b c d e : List UInt8) (t : TypeId) (k : Nat) (x : List UInt8) (h : [[78, 97, 109, 101, 58, 32] ++ a, [86, 101, 114, 115, 105, 111, 110, 58, 32] ++ b, [77, 97, 105, 110, 58, 32] ++ c, [83, 105, 122, 101, 58, 32] ++ d, [72, 97, 115, 104, 58, 32] ++ e, []][k]? = some x) :
    (w.alloc (.cells #[.string (⟨#[78, 97, 109, 101, 58, 32]⟩ ++ ⟨a.toArray⟩), .string (⟨#[86, 101, 114, 115, 105, 111, 110, 58, 32]⟩ ++ ⟨b.toArray⟩), .string (⟨#[77, 97, 105, 110, 58, 32]⟩ ++ ⟨c.toArray⟩), .string (⟨#[83, 105, 122, 101, 58, 32]⟩ ++ ⟨d.toArray⟩), .string (⟨#[72, 97, 115, 104, 58, 32]⟩ ++ ⟨e.toArray⟩), .string ⟨#[]⟩] t)).cell? ⟨w.heap.size, k, none⟩ = some (.string ⟨x.toArray⟩) := by
  rw [cell_of_row _ w.heap.size k _ _ _ (heap_alloc_last w _)]
  have hk : k < 6 := (List.getElem?_eq_some_iff.1 h).1
  have : k = 0 ∨ k = 1 ∨ k = 2 ∨ k = 3 ∨ k = 4 ∨ k = 5 := by omega
  rcases this with rfl | rfl | rfl | rfl | rfl | rfl <;> cases h <;> first | rfl | (simp only [← str_app]; rfl)
set_option maxHeartbeats 4000000 in
set_option maxRecDepth 100000 in
theorem Print_ok (w : World) (j : JD) (hok : okJ j = true) (hf : FitJ j) (hv : VW w) :
    Calls Tryz.prog 7 #[j.val] w fun e w' => e = .returned (.tuple #[.string ⟨(textJ j).toArray⟩, .int .i64 0]) ∧ Below w.heap.size w w' := by
  have hck := fun w (h : VW w) => Check_any w j (by have := hf.n; omega) (by have := hf.m; omega) h
  rw [hok] at hck
  unfold JD.val at hck ⊢
  obtain ⟨C, hC⟩ : ∃ C, C = j.cells.toArray := ⟨_, rfl⟩
  rw [← hC] at hck ⊢
  have hb : Below w.heap.size w (w.alloc (.cells C JadT)) := (Below.refl _ _).alloc (Nat.le_refl _) _
  have hrow : RowJ (w.alloc (.cells C JadT)) w.heap.size j := by rw [hC]; exact heap_alloc_last w _
  have hrow2 : (w.alloc (.cells C JadT)).heap[w.heap.size]? = some (.cells C JadT (0, 0)) := heap_alloc_last w _
  have HCZ := Lib.hid (show C.size = 38 by rw [hC]; simpa using len38 hf.h)
  have HB := Lib.hid hb
  have HROW := Lib.hid hrow
  have HROW2 := Lib.hid hrow2
  have HV := Lib.hid (hv.below hb)
  have HCK := Lib.hid hck
  have HPV := Lib.hid (fun w (h : VW w) => PrintV_any w j.a j.b j.c hf.a hf.b hf.c h)
  have HIT := Lib.hid (fun w (h : VW w) => Itoa_any w j.size (by have := hf.s.1; omega) (by have := hf.s.2; omega) h)
  have HHX := Lib.hid (fun w => Hex_any w j.hash hf.h)
  have hlv := vtext_len hf.a hf.b hf.c
  have hli := itoa_len j.size (by have := hf.s.1; omega) (by have := hf.s.2; omega)
  have hlh : (hexB j.hash).length = 64 := by rw [hexB_length, hf.h]
  have hln := hf.n
  have hlm := hf.m
  obtain ⟨T, htx⟩ : ∃ T, T = textJ j := ⟨_, rfl⟩
  rw [← htx]
  rw [textJ_eq] at htx
  have HTL := Lib.hid (show T.length ≤ 1000 by rw [htx, ← textJ_eq]; unfold textJ; simp; omega)
  have HTX := Lib.hid htx
  have HHL := Lib.hid hf.h
  generalize vtext j.a j.b j.c = tv at *
  generalize Lib.itoa j.size = ti at *
  generalize hexB j.hash = th at *
  clear hb hrow hC htx hck hv hok hrow2
  go_enter Tryz.func7, Tryz.ntmps7
  go_upto_region 1 with fail
  generalize w.alloc (.cells C JadT) = w1 at *
  go_wp2_with (refine wpList_load_row rfl _ _ rfl _ rfl _ _ _ _ HROW2.out Tryz.underlying26 rfl (by rw [HCZ.out]; exact info_jad) ?_)
  refine (HCK.out w1 HV.out).mono ?_
  rintro e w2 ⟨rfl, hb2⟩
  have HB2 := Lib.hid (HB.out.trans (hb2.mono HB.out.size))
  have HRW2 := Lib.hid (HROW.out.below hb2)
  have HV2 := Lib.hid (HV.out.below hb2)
  clear hb2 HB HROW HROW2 HV HCK HCZ
  simp only [if_true]
  go_upto_region 4 with fail
  have hrw : ∀ w', Below w2.heap.size w2 w' → RowJ w' w.heap.size j := fun w' h => RowJ.below HRW2.out h
  have c0 := fun w' h => (hrw w' h).c0
  have c1 := fun w' h => (hrw w' h).c1
  have c2 := fun w' h => (hrw w' h).c2
  have c3 := fun w' h => (hrw w' h).c3
  have c4 := fun w' h => (hrw w' h).c4
  have c5 := fun w' h => (hrw w' h).c5
  obtain ⟨A, hA⟩ : ∃ A, A = (j.hash.map encB).toArray := ⟨_, rfl⟩
  have ch : ∀ w', Below w2.heap.size w2 w' → (Instr.loadAt 24 (.pointer (some ⟨w.heap.size, 6, none⟩))).run Tryz.prog w' = .ok (.agg A) w' := fun w' h => by
    rw [hA]
    exact run_loadAt_mid w' w.heap.size 6 24 (j.hash.map encB) _ (hrw w' h).hash Tryz.underlying24 rfl (by rw [List.length_map, HHL.out]; exact info_out)
  rw [← hA] at HHX
  generalize j.name = nm at *
  generalize j.main = mn at *
  generalize j.a = a at *
  generalize j.b = b at *
  generalize j.c = c at *
  generalize j.size = sz at *
  have n0 : ¬ 9223372036854775807 < 6 + nm.length := by omega
  have n1 : ¬ 9223372036854775807 < 9 + tv.length := by omega
  have n2 : ¬ 9223372036854775807 < 6 + mn.length := by omega
  have n3 : ¬ 9223372036854775807 < 6 + ti.length := by omega
  have n4 : ¬ 9223372036854775807 < 6 + th.length := by omega
  clear hA hrw hln hlm hlv hli hlh hf
  have hSw : Below w2.heap.size w2 w2.drew := (Below.refl _ _).drew
  refine wp_region_lexS (Below w2.heap.size w2) (.of [(0, true), (1, true), (2, true), (3, true), (4, true), (7, true), (8, true), (9, true), (10, true), (11, true), (14, true), (15, true), (5, false), (6, true), (12, false), (13, true), (16, false), (17, true), (18, false), (19, false)] (.stir [(20, true), (21, true)])) (by kernel_rfl) (by kernel_rfl) (fun c a d v w h => by cases d <;> exact h) ?_
  iterate 11
    refine lexS_step (fun K hK => ?_)
    simp only [lexOp, List.getElem?_toArray, List.getElem?_cons_succ, List.getElem?_cons_zero]
    rw [if_pos (by rfl)]
    apply Exists.intro
    refine ⟨fun w' hS' => ?_, hSw, ?_⟩
    · first | (go_simp <;> with_reducible rfl) | (go_simp; go_bits; with_reducible rfl)
    go_simp
    try go_bits
    refine hK _ _ ?_
    clear hK K
  refine lexS_step (fun K hK => ?_)
  simp only [lexOp, List.getElem?_toArray, List.getElem?_cons_succ, List.getElem?_cons_zero]
  rw [if_pos (by rfl)]
  apply Exists.intro
  refine ⟨fun w' hS' => ?_, hSw, ?_⟩
  · exact exec_loadAt rfl rfl (ch w' hS')
  go_simp
  refine hK _ _ ?_
  clear hK K
  refine lexS_step (fun K hK => ?_)
  simp only [lexOp, List.getElem?_toArray, List.getElem?_cons_succ, List.getElem?_cons_zero]
  rw [if_pos (by rfl)]
  go_step
  refine (HPV.out w2.drew (HV2.out.below (Below.refl _ _).drew)).mono ?_
  rintro e w3 ⟨rfl, hb3⟩
  replace hSw := hSw.trans (hb3.mono hSw.size)
  clear hb3
  go_simp
  first | refine hK _ _ ?_ | refine ⟨hSw, hK _ _ ?_⟩
  clear hK K
  iterate 1
    refine lexS_step (fun K hK => ?_)
    simp only [lexOp, List.getElem?_toArray, List.getElem?_cons_succ, List.getElem?_cons_zero]
    rw [if_pos (by rfl)]
    apply Exists.intro
    refine ⟨fun w' hS' => ?_, hSw, ?_⟩
    · first | (go_simp <;> with_reducible rfl) | (go_simp; go_bits; with_reducible rfl)
    go_simp
    try go_bits
    refine hK _ _ ?_
    clear hK K
  refine lexS_step (fun K hK => ?_)
  simp only [lexOp, List.getElem?_toArray, List.getElem?_cons_succ, List.getElem?_cons_zero]
  rw [if_pos (by rfl)]
  go_step
  refine (HIT.out w3 (HV2.out.below hSw)).mono ?_
  rintro e w4 ⟨rfl, hb4⟩
  replace hSw := hSw.trans (hb4.mono hSw.size)
  clear hb4
  go_simp
  first | refine hK _ _ ?_ | refine ⟨hSw, hK _ _ ?_⟩
  clear hK K
  iterate 1
    refine lexS_step (fun K hK => ?_)
    simp only [lexOp, List.getElem?_toArray, List.getElem?_cons_succ, List.getElem?_cons_zero]
    rw [if_pos (by rfl)]
    apply Exists.intro
    refine ⟨fun w' hS' => ?_, hSw, ?_⟩
    · first | (go_simp <;> with_reducible rfl) | (go_simp; go_bits; with_reducible rfl)
    go_simp
    try go_bits
    refine hK _ _ ?_
    clear hK K
  refine lexS_step (fun K hK => ?_)
  simp only [lexOp, List.getElem?_toArray, List.getElem?_cons_succ, List.getElem?_cons_zero]
  rw [if_pos (by rfl)]
  go_step
  refine (HHX.out w4).mono ?_
  rintro e w5 ⟨rfl, hb5⟩
  replace hSw := hSw.trans (hb5.mono hSw.size)
  clear hb5
  go_simp
  first | refine hK _ _ ?_ | refine ⟨hSw, hK _ _ ?_⟩
  clear hK K
  iterate 1
    refine lexS_step (fun K hK => ?_)
    simp only [lexOp, List.getElem?_toArray, List.getElem?_cons_succ, List.getElem?_cons_zero]
    rw [if_pos (by rfl)]
    apply Exists.intro
    refine ⟨fun w' hS' => ?_, hSw, ?_⟩
    · first | (go_simp <;> with_reducible rfl) | (go_simp; go_bits; with_reducible rfl)
    go_simp
    try go_bits
    refine hK _ _ ?_
    clear hK K
  refine lexS_step (fun K hK => ?_)
  simp only [lexOp, List.getElem?_toArray, List.getElem?_cons_succ, List.getElem?_cons_zero]
  rw [if_pos (by rfl)]
  go_step
  have hl6 := lines6 w5 nm tv mn ti th 9
  have hb6 : Below w5.heap.size w5 (w5.alloc (.cells #[.string (⟨#[78, 97, 109, 101, 58, 32]⟩ ++ ⟨nm.toArray⟩), .string (⟨#[86, 101, 114, 115, 105, 111, 110, 58, 32]⟩ ++ ⟨tv.toArray⟩), .string (⟨#[77, 97, 105, 110, 58, 32]⟩ ++ ⟨mn.toArray⟩), .string (⟨#[83, 105, 122, 101, 58, 32]⟩ ++ ⟨ti.toArray⟩), .string (⟨#[72, 97, 115, 104, 58, 32]⟩ ++ ⟨th.toArray⟩), .string ⟨#[]⟩] 9)) := (Below.refl _ _).alloc (Nat.le_refl _) _
  have hsz6 : w5.heap.size < (w5.alloc (.cells #[.string (⟨#[78, 97, 109, 101, 58, 32]⟩ ++ ⟨nm.toArray⟩), .string (⟨#[86, 101, 114, 115, 105, 111, 110, 58, 32]⟩ ++ ⟨tv.toArray⟩), .string (⟨#[77, 97, 105, 110, 58, 32]⟩ ++ ⟨mn.toArray⟩), .string (⟨#[83, 105, 122, 101, 58, 32]⟩ ++ ⟨ti.toArray⟩), .string (⟨#[72, 97, 115, 104, 58, 32]⟩ ++ ⟨th.toArray⟩), .string ⟨#[]⟩] 9)).heap.size := by simp
  replace hSw := hSw.trans (hb6.mono hSw.size)
  generalize (w5.alloc (.cells #[.string (⟨#[78, 97, 109, 101, 58, 32]⟩ ++ ⟨nm.toArray⟩), .string (⟨#[86, 101, 114, 115, 105, 111, 110, 58, 32]⟩ ++ ⟨tv.toArray⟩), .string (⟨#[77, 97, 105, 110, 58, 32]⟩ ++ ⟨mn.toArray⟩), .string (⟨#[83, 105, 122, 101, 58, 32]⟩ ++ ⟨ti.toArray⟩), .string (⟨#[72, 97, 115, 104, 58, 32]⟩ ++ ⟨th.toArray⟩), .string ⟨#[]⟩] 9)) = w6 at *
  obtain ⟨L, hL⟩ : ∃ L : List (List UInt8), L = [[78, 97, 109, 101, 58, 32] ++ nm, [86, 101, 114, 115, 105, 111, 110, 58, 32] ++ tv, [77, 97, 105, 110, 58, 32] ++ mn, [83, 105, 122, 101, 58, 32] ++ ti, [72, 97, 115, 104, 58, 32] ++ th, []] := ⟨_, rfl⟩
  have hTX := HTX.out
  have hTL := HTL.out
  rw [← hL] at hl6 hTX
  have hLl : L.length = 6 := by rw [hL]; rfl
  have hJ := Join_any w6 w5.heap.size 6 L [10] hl6 hsz6 (by omega) (by omega) (by rw [← hTX]; omega)
  rw [← hTX, hLl] at hJ
  have HJ := Lib.hid hJ
  refine ⟨hSw, hK _ _ ?_⟩
  clear hK K hl6 hb6 hsz6 hTX hTL hLl hJ hL
  refine lexS_step (fun K hK => ?_)
  simp only [lexOp, List.getElem?_toArray, List.getElem?_cons_succ, List.getElem?_cons_zero]
  rw [if_pos (by rfl)]
  go_step
  refine HJ.out.mono ?_
  rintro e w7 ⟨rfl, hb7⟩
  replace hSw := hSw.trans (hb7.mono hSw.size)
  clear hb7
  go_simp
  first | refine hK _ _ ?_ | refine ⟨hSw, hK _ _ ?_⟩
  clear hK K
  refine lexS_stir (Below w2.heap.size w2) (fun y hy => hy) hSw ?_
  iterate 2
    refine stir_step (fun K hK => ?_)
    simp only [stirOp, List.getElem?_toArray, List.getElem?_cons_succ, List.getElem?_cons_zero]
    rw [if_pos (by rfl)]
    apply Exists.intro
    refine ⟨fun w' hS' => ?_, ?_⟩
    · first | (go_simp <;> with_reducible rfl) | (go_simp; go_bits; with_reducible rfl)
    go_simp
    try go_bits
    refine hK _ ?_
    clear hK K
  refine stir_nil (fun w8 hw8 => ?_)
  have HB8 := Lib.hid (HB2.out.trans (hw8.mono HB2.out.size))
  clear c0 c1 c2 c3 c4 c5 ch hw8 hSw
  go_wp2_with fail
  go_ret2
  exact ⟨rfl, HB8.out⟩
set_option maxHeartbeats 4000000 in
set_option maxRecDepth 100000 in
theorem Print_bad (w : World) (j : JD) (hok : okJ j = false) (hn : j.name.length ≤ 4294967000) (hm : j.main.length ≤ 4294967000) (hl : j.hash.length = 32) (hv : VW w) :
    Calls Tryz.prog 7 #[j.val] w fun e w' => e = .returned (.tuple #[.string ⟨#[]⟩, .int .i64 8]) ∧ Below w.heap.size w w' := by
  have hck := fun w (h : VW w) => Check_any w j hn hm h
  rw [hok] at hck
  unfold JD.val at hck ⊢
  obtain ⟨C, hC⟩ : ∃ C, C = j.cells.toArray := ⟨_, rfl⟩
  rw [← hC] at hck ⊢
  have hb : Below w.heap.size w (w.alloc (.cells C JadT)) := (Below.refl _ _).alloc (Nat.le_refl _) _
  have hrow2 : (w.alloc (.cells C JadT)).heap[w.heap.size]? = some (.cells C JadT (0, 0)) := heap_alloc_last w _
  have HCZ := Lib.hid (show C.size = 38 by rw [hC]; simpa using len38 hl)
  have HB := Lib.hid hb
  have HROW2 := Lib.hid hrow2
  have HV := Lib.hid (hv.below hb)
  have HCK := Lib.hid hck
  clear hb hC hck hv hok hrow2 hn hm hl
  go_enter Tryz.func7, Tryz.ntmps7
  go_upto_region 1 with fail
  generalize w.alloc (.cells C JadT) = w1 at *
  go_wp2_with (refine wpList_load_row rfl _ _ rfl _ rfl _ _ _ _ HROW2.out Tryz.underlying26 rfl (by rw [HCZ.out]; exact info_jad) ?_)
  refine (HCK.out w1 HV.out).mono ?_
  rintro e w2 ⟨rfl, hb2⟩
  have HB2 := Lib.hid (HB.out.trans (hb2.mono HB.out.size))
  clear hb2
  simp only [Bool.false_eq_true, if_false]
  go_wp2_with fail
  go_ret2
  exact ⟨rfl, HB2.out⟩
end Go.Proofs.YtlpjcfiibbcdjaaGreatDoor
