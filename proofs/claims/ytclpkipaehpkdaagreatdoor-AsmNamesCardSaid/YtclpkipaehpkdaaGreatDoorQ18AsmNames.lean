/- asm: own texts, merged (wip/merge2.py). No condition. -/
import Derived.Test.YtclpkipaehpkdaaGreatDoorQ17AsmNames
set_option linter.unusedVariables false
set_option linter.unusedSimpArgs false
namespace Go.Proofs.YtclpkipaehpkdaaGreatDoor
open Go.ChangeShapes Go.WideShapes Go.ChangeAt Go.RowKit Go.Maps
theorem BlkI.keepL {B g : Nat} {x : IN} {w w' : World} (h : BlkI g x w) (hk : KeepL B w w') : BlkI g x w' := hk.row h (by decide) (by decide)
structure InFit (x : IN) : Prop where
  op : x.op < 256
  n : IntRo x.n
  m : IntRo x.m
  cl : x.cl.length ≤ 65536
  nm : x.nm.length ≤ 65536
  ds : x.ds.length ≤ 65536
  tx : x.tx.length ≤ 65536
set_option maxRecDepth 100000 in
set_option maxHeartbeats 16000000 in
theorem almember_any (w : World) (B g : Nat) (s : LW) (x : IN) (tag : Int) (fis : Nat) (p : List UInt8 → Bool)
    (hen : ∀ (args : Array Value) (W : World), (callFunc fis args).run Tryz.prog W = .ok (.enter fis args) W)
    (hp : ∀ (W : World) (s : List UInt8), s.length ≤ 65536 → VW W → Calls Tryz.prog fis #[.string ⟨s.toArray⟩] W fun e w' => e = .returned (.bool (p s)) ∧ Below W.heap.size W w')
    (h : LoS w B g s) (hf : InFit x) (hn : s.l.length ≤ 1000000000050) (hB : B ≤ w.heap.size) (htag : 0 < tag ∧ tag ≤ 65536) :
    Calls Tryz.prog 155 #[.pointer (some ⟨g, 0, none⟩), .agg x.cells.toArray, .int .i64 tag, .func (.func fis) #[] #[]] w (LoRet (.int .i64 ((s.member x tag p).2 : Nat)) B g (s.member x tag p).1 w) := by
  have hvw : VW w := by obtain ⟨a, cap, b, h⟩ := h; exact h.vw
  have HF := Lib.hid hf
  have hb1 : Below w.heap.size w (w.alloc (.cells x.cells.toArray InsT)) := below_1 _ _
  have HS1 := Lib.hid (h.below hb1)
  have HK0 := Lib.hid (KeepL.of hb1 : KeepL B w (w.alloc (.cells x.cells.toArray InsT)))
  have HXB := Lib.hid (show BlkI w.heap.size x (w.alloc (.cells x.cells.toArray InsT)) from heap_alloc_last w _)
  have HV1 := Lib.hid (hvw.below hb1)
  have hB1 : B ≤ (w.alloc (.cells x.cells.toArray InsT)).heap.size := HK0.out.bnd hB
  unfold LW.member
  dsimp only
  obtain ⟨R, hR⟩ : ∃ R, R = (memB x.nm && p x.ds) := ⟨_, rfl⟩
  rw [← hR]
  have HR := hR
  clear hR h hf hvw hb1
  have HI1 := Lib.hid (fun W (hv : VW W) => IsName_any W x.nm HF.out.nm hv)
  have HI2 := Lib.hid (fun W (hv : VW W) => hp W x.ds HF.out.ds hv)
  generalize memB x.nm = x1 at *
  generalize p x.ds = x2 at *
  clear hp
  obtain ⟨op, n, m, cl, nm, ds, tx⟩ := x
  obtain ⟨t0, t1⟩ := htag
  dsimp only [IN.cells] at HS1 HK0 HXB HV1 hB1 HI1 HI2 HF ⊢
  go_enter Tryz.func155, Tryz.ntmps155
  go_upto_region 1 with fail
  generalize w.alloc (.cells #[.int .u8 (op : Nat), .int .i64 n, .int .i64 m, .string ⟨cl.toArray⟩, .string ⟨nm.toArray⟩, .string ⟨ds.toArray⟩, .string ⟨tx.toArray⟩] InsT) = W at *
  obtain ⟨j0, j1, j2, j3, j4, j5, j6, -, -, -, -, -, -⟩ := HXB.out.box
  dsimp only at j0 j1 j2 j3 j4 j5 j6
  have HN := Lib.hid (fun W2 ok (hb : Below W.heap.size W W2) => alneed_any W2 B g s ok 8 (HS1.out.below hb))
  go_wp2_with fail
  refine (HI1.out W HV1.out).mono ?_
  rintro e w2 ⟨rfl, hb2⟩
  have HB2 := Lib.hid hb2
  clear hb2 j0 j1 j2 j3 j4 j5 j6
  cases x1
  · have hR : R = false := HR
    subst hR
    clear HR
    go_wp2_with fail
    refine (HN.out w2 false HB2.out).mono ?_
    rintro e w3 ⟨rfl, hs3, hk3⟩
    have HK3 := Lib.hid ((KeepL.of HB2.out).trans hk3)
    have HX3 := Lib.hid ((HXB.out.below HB2.out).keepL hk3)
    have HC := Lib.hid (alclass_any w3 B g _ cl false hs3 HF.out.cl (show s.l.length ≤ _ by omega) (HK3.out.bnd hB1))
    have hl4 : ((s.need false 8).cls cl false).1.l.length ≤ s.l.length + 4 := cls_len (s.need false 8) cl false
    have hi4 : ((s.need false 8).cls cl false).2 < ((s.need false 8).cls cl false).1.l.length := put_lt _ _
    generalize (s.need false 8).cls cl false = C4 at *
    obtain ⟨s4, i4⟩ := C4
    dsimp only at hl4 hi4 HC ⊢
    obtain ⟨j0, j1, j2, j3, j4, j5, j6, -, -, -, -, -, -⟩ := HX3.out.box
    dsimp only at j0 j1 j2 j3 j4 j5 j6
    clear hs3 hk3
    go_wp2_with fail
    refine HC.out.mono ?_
    rintro e w4 ⟨rfl, hs4, hk4⟩
    have HK4 := Lib.hid (HK3.out.trans hk4)
    have HX4 := Lib.hid (HX3.out.keepL hk4)
    have HTN := Lib.hid (altext_any w4 B g s4 nm hs4 HF.out.nm (by omega) (HK4.out.bnd hB1))
    have hl5 : (s4.text nm).1.l.length ≤ s4.l.length + 2 := text_len _ _
    have hi5 : (s4.text nm).2 < (s4.text nm).1.l.length := put_lt _ _
    generalize s4.text nm = C5 at *
    obtain ⟨s5, i5⟩ := C5
    dsimp only at hl5 hi5 HTN ⊢
    clear hs4 hk4 HC HK3 HX3 j0 j1 j2 j3 j4 j5 j6
    obtain ⟨j0, j1, j2, j3, j4, j5, j6, -, -, -, -, -, -⟩ := HX4.out.box
    dsimp only at j0 j1 j2 j3 j4 j5 j6
    go_wp2_with fail
    refine HTN.out.mono ?_
    rintro e w5 ⟨rfl, hs5, hk5⟩
    have HK5 := Lib.hid (HK4.out.trans hk5)
    have HX5 := Lib.hid (HX4.out.keepL hk5)
    have HTD := Lib.hid (altext_any w5 B g s5 ds hs5 HF.out.ds (by omega) (HK5.out.bnd hB1))
    have hl6 : (s5.text ds).1.l.length ≤ s5.l.length + 2 := text_len _ _
    have hi6 : (s5.text ds).2 < (s5.text ds).1.l.length := put_lt _ _
    generalize s5.text ds = C6 at *
    obtain ⟨s6, i6⟩ := C6
    dsimp only at hl6 hi6 HTD ⊢
    clear hs5 hk5 HTN HK4 HX4 j0 j1 j2 j3 j4 j5 j6
    obtain ⟨j0, j1, j2, j3, j4, j5, j6, -, -, -, -, -, -⟩ := HX5.out.box
    dsimp only at j0 j1 j2 j3 j4 j5 j6
    go_wp2_with fail
    refine HTD.out.mono ?_
    rintro e w6 ⟨rfl, hs6, hk6⟩
    have HK6 := Lib.hid (HK5.out.trans hk6)
    have HP := Lib.hid (alput_any w6 B g s6 ⟨12, (i5 : Nat), (i6 : Nat), 0, []⟩ hs6 (kok_int (by omega) (by omega) (by omega) (intRo_of (by omega))) (show (12 : Int) ≠ 0 by decide) (by omega) (HK6.out.bnd hB1))
    have hl7 : (s6.put ⟨12, (i5 : Nat), (i6 : Nat), 0, []⟩).1.l.length ≤ s6.l.length + 2 := put_len _ _
    have hi7 : (s6.put ⟨12, (i5 : Nat), (i6 : Nat), 0, []⟩).2 < (s6.put ⟨12, (i5 : Nat), (i6 : Nat), 0, []⟩).1.l.length := put_lt _ _
    generalize s6.put ⟨12, (i5 : Nat), (i6 : Nat), 0, []⟩ = C7 at *
    obtain ⟨s7, i7⟩ := C7
    dsimp only [KV.cells] at hl7 hi7 HP ⊢
    clear hs6 hk6 HTD HK5 HX5 j0 j1 j2 j3 j4 j5 j6
    go_wp2_with fail
    refine HP.out.mono ?_
    rintro e w7 ⟨rfl, hs7, hk7⟩
    have HK7 := Lib.hid (HK6.out.trans hk7)
    have HQ := Lib.hid (alput_any w7 B g s7 ⟨tag, (i4 : Nat), (i7 : Nat), 0, []⟩ hs7 (kok_int (by omega) (by omega) (by omega) (intRo_of (by omega))) (show tag ≠ 0 by omega) (by omega) (HK7.out.bnd hB1))
    generalize s7.put ⟨tag, (i4 : Nat), (i7 : Nat), 0, []⟩ = C8 at *
    obtain ⟨s8, i8⟩ := C8
    dsimp only [KV.cells] at HQ ⊢
    clear hs7 hk7 HP HK6
    go_wp2_with fail
    refine HQ.out.mono ?_
    rintro e w8 ⟨rfl, hs8, hk8⟩
    go_wp2_with fail
    go_ret
    exact ⟨rfl, hs8, HK0.out.trans (HK7.out.trans hk8)⟩
  · have hR : R = x2 := HR
    subst hR
    clear HR
    obtain ⟨j0, j1, j2, j3, j4, j5, j6, -, -, -, -, -, -⟩ := (HXB.out.below HB2.out).box
    dsimp only at j0 j1 j2 j3 j4 j5 j6
    go_wp2_with fail
    refine (HI2.out w2 (HV1.out.below HB2.out)).mono ?_
    rintro e w9 ⟨rfl, hb3⟩
    have HB3 := Lib.hid (HB2.out.trans (hb3.mono HB2.out.size))
    clear hb3 j0 j1 j2 j3 j4 j5 j6
    go_wp2_with fail
    refine (HN.out w9 R HB3.out).mono ?_
    rintro e w3 ⟨rfl, hs3, hk3⟩
    have HK3 := Lib.hid ((KeepL.of HB3.out).trans hk3)
    have HX3 := Lib.hid ((HXB.out.below HB3.out).keepL hk3)
    have HC := Lib.hid (alclass_any w3 B g _ cl false hs3 HF.out.cl (show s.l.length ≤ _ by omega) (HK3.out.bnd hB1))
    have hl4 : ((s.need R 8).cls cl false).1.l.length ≤ s.l.length + 4 := cls_len (s.need R 8) cl false
    have hi4 : ((s.need R 8).cls cl false).2 < ((s.need R 8).cls cl false).1.l.length := put_lt _ _
    generalize (s.need R 8).cls cl false = C4 at *
    obtain ⟨s4, i4⟩ := C4
    dsimp only at hl4 hi4 HC ⊢
    obtain ⟨j0, j1, j2, j3, j4, j5, j6, -, -, -, -, -, -⟩ := HX3.out.box
    dsimp only at j0 j1 j2 j3 j4 j5 j6
    clear hs3 hk3
    go_wp2_with fail
    refine HC.out.mono ?_
    rintro e w4 ⟨rfl, hs4, hk4⟩
    have HK4 := Lib.hid (HK3.out.trans hk4)
    have HX4 := Lib.hid (HX3.out.keepL hk4)
    have HTN := Lib.hid (altext_any w4 B g s4 nm hs4 HF.out.nm (by omega) (HK4.out.bnd hB1))
    have hl5 : (s4.text nm).1.l.length ≤ s4.l.length + 2 := text_len _ _
    have hi5 : (s4.text nm).2 < (s4.text nm).1.l.length := put_lt _ _
    generalize s4.text nm = C5 at *
    obtain ⟨s5, i5⟩ := C5
    dsimp only at hl5 hi5 HTN ⊢
    clear hs4 hk4 HC HK3 HX3 j0 j1 j2 j3 j4 j5 j6
    obtain ⟨j0, j1, j2, j3, j4, j5, j6, -, -, -, -, -, -⟩ := HX4.out.box
    dsimp only at j0 j1 j2 j3 j4 j5 j6
    go_wp2_with fail
    refine HTN.out.mono ?_
    rintro e w5 ⟨rfl, hs5, hk5⟩
    have HK5 := Lib.hid (HK4.out.trans hk5)
    have HX5 := Lib.hid (HX4.out.keepL hk5)
    have HTD := Lib.hid (altext_any w5 B g s5 ds hs5 HF.out.ds (by omega) (HK5.out.bnd hB1))
    have hl6 : (s5.text ds).1.l.length ≤ s5.l.length + 2 := text_len _ _
    have hi6 : (s5.text ds).2 < (s5.text ds).1.l.length := put_lt _ _
    generalize s5.text ds = C6 at *
    obtain ⟨s6, i6⟩ := C6
    dsimp only at hl6 hi6 HTD ⊢
    clear hs5 hk5 HTN HK4 HX4 j0 j1 j2 j3 j4 j5 j6
    obtain ⟨j0, j1, j2, j3, j4, j5, j6, -, -, -, -, -, -⟩ := HX5.out.box
    dsimp only at j0 j1 j2 j3 j4 j5 j6
    go_wp2_with fail
    refine HTD.out.mono ?_
    rintro e w6 ⟨rfl, hs6, hk6⟩
    have HK6 := Lib.hid (HK5.out.trans hk6)
    have HP := Lib.hid (alput_any w6 B g s6 ⟨12, (i5 : Nat), (i6 : Nat), 0, []⟩ hs6 (kok_int (by omega) (by omega) (by omega) (intRo_of (by omega))) (show (12 : Int) ≠ 0 by decide) (by omega) (HK6.out.bnd hB1))
    have hl7 : (s6.put ⟨12, (i5 : Nat), (i6 : Nat), 0, []⟩).1.l.length ≤ s6.l.length + 2 := put_len _ _
    have hi7 : (s6.put ⟨12, (i5 : Nat), (i6 : Nat), 0, []⟩).2 < (s6.put ⟨12, (i5 : Nat), (i6 : Nat), 0, []⟩).1.l.length := put_lt _ _
    generalize s6.put ⟨12, (i5 : Nat), (i6 : Nat), 0, []⟩ = C7 at *
    obtain ⟨s7, i7⟩ := C7
    dsimp only [KV.cells] at hl7 hi7 HP ⊢
    clear hs6 hk6 HTD HK5 HX5 j0 j1 j2 j3 j4 j5 j6
    go_wp2_with fail
    refine HP.out.mono ?_
    rintro e w7 ⟨rfl, hs7, hk7⟩
    have HK7 := Lib.hid (HK6.out.trans hk7)
    have HQ := Lib.hid (alput_any w7 B g s7 ⟨tag, (i4 : Nat), (i7 : Nat), 0, []⟩ hs7 (kok_int (by omega) (by omega) (by omega) (intRo_of (by omega))) (show tag ≠ 0 by omega) (by omega) (HK7.out.bnd hB1))
    generalize s7.put ⟨tag, (i4 : Nat), (i7 : Nat), 0, []⟩ = C8 at *
    obtain ⟨s8, i8⟩ := C8
    dsimp only [KV.cells] at HQ ⊢
    clear hs7 hk7 HP HK6
    go_wp2_with fail
    refine HQ.out.mono ?_
    rintro e w8 ⟨rfl, hs8, hk8⟩
    go_wp2_with fail
    go_ret
    exact ⟨rfl, hs8, HK0.out.trans (HK7.out.trans hk8)⟩
end Go.Proofs.YtclpkipaehpkdaaGreatDoor

namespace Go.Proofs.YtclpkipaehpkdaaGreatDoor
open Go.ChangeShapes Go.WideShapes Go.ChangeAt Go.RowKit Go.Maps
set_option maxRecDepth 100000 in
set_option maxHeartbeats 16000000 in
theorem alcon_any (w : World) (B g : Nat) (s : LW) (x : IN) (h : LoS w B g s) (hf : InFit x) (hn : s.l.length ≤ 1000000000050) (hB : B ≤ w.heap.size) :
    Calls Tryz.prog 71 #[.pointer (some ⟨g, 0, none⟩), .agg x.cells.toArray] w (LoRet (.int .i64 ((s.con x).2 : Nat)) B g (s.con x).1 w) := by
  have HF := Lib.hid hf
  have hb1 : Below w.heap.size w (w.alloc (.cells x.cells.toArray InsT)) := below_1 _ _
  have HS1 := Lib.hid (h.below hb1)
  have HK0 := Lib.hid (KeepL.of hb1 : KeepL B w (w.alloc (.cells x.cells.toArray InsT)))
  have HXB := Lib.hid (show BlkI w.heap.size x (w.alloc (.cells x.cells.toArray InsT)) from heap_alloc_last w _)
  obtain ⟨R, hR⟩ : ∃ R, R = s.con x := ⟨_, rfl⟩
  rw [← hR]
  have HR := Lib.hid hR
  clear hR h hf hb1
  obtain ⟨op, n, m, cl, nm, ds, tx⟩ := x
  dsimp only [IN.cells] at HS1 HK0 HXB HF HR ⊢
  by_cases h73 : ds = [73]
  · have d73 : (ds == [73]) = true := by rw [h73]; rfl
    have d83 : (ds == [83]) = false := by rw [h73]; rfl
    have d74 : (ds == [74]) = false := by rw [h73]; rfl
    by_cases h18 : op = 18
    · have e18 : ((op : Int) == 18) = true := by rw [h18]; rfl
      by_cases htx : tx = []
      · have t1 : (tx == []) = true := by rw [htx]; rfl
        have t2 : tx.isEmpty = true := by rw [htx]; rfl
        have HRR := Lib.hid (show R = (s.need (int32B n) 8).put ⟨3, 0, 0, n, []⟩ by rw [HR.out]; unfold LW.con; rw [if_pos ⟨h73, h18, htx⟩])
        clear HR h73 h18 htx

        go_enter Tryz.func71, Tryz.ntmps71
        go_upto_region 1 with fail
        generalize w.alloc (.cells #[.int .u8 (op : Nat), .int .i64 n, .int .i64 m, .string ⟨cl.toArray⟩, .string ⟨nm.toArray⟩, .string ⟨ds.toArray⟩, .string ⟨tx.toArray⟩] InsT) = W at *
        obtain ⟨j0, j1, j2, j3, j4, j5, j6, -, -, -, -, -, -⟩ := HXB.out.box
        dsimp only at j0 j1 j2 j3 j4 j5 j6

        obtain ⟨b, hb⟩ : ∃ b, b = int32B n := ⟨_, rfl⟩
        rw [← hb] at HRR
        obtain ⟨q, hq⟩ : ∃ q, q = wrap32I n := ⟨_, rfl⟩
        have hw : IntKind.i32.wrap n = q := by rw [hq]; exact wrap32I_eq n
        have hqb : -2147483648 ≤ q ∧ q ≤ 2147483647 := by rw [hq]; unfold wrap32I; omega
        have hqe : (n == q) = b := by
          rw [hb, hq, Bool.eq_iff_iff, beq_iff_eq]
          unfold int32B wrap32I
          rw [decide_eq_true_iff]
          omega
        obtain ⟨q0, q1⟩ := hqb
        have hw2 : IntKind.i64.wrap q = q := by rw [IntKind.wrap_i64]; omega
        have HN := Lib.hid (alneed_any W B g s b 8 HS1.out)
        clear hq hb
        go_wp2_with fail
        refine HN.out.mono ?_
        rintro e w3 ⟨rfl, hs3, hk3⟩
        have HK3 := Lib.hid (HK0.out.trans hk3)
        have HX3 := Lib.hid (HXB.out.keepL hk3)
        have HP := Lib.hid (alput_any w3 B g _ ⟨3, 0, 0, n, []⟩ hs3 (kok_int (by omega) (by omega) (by omega) HF.out.n) (show (3 : Int) ≠ 0 by decide) (show s.l.length ≤ _ by omega) (HK3.out.bnd hB))
        clear hs3 hk3 hw hw2 hqe j0 j1 j2 j3 j4 j5 j6
        obtain ⟨j0, j1, j2, j3, j4, j5, j6, -, -, -, -, -, -⟩ := HX3.out.box
        dsimp only [KV.cells] at j0 j1 j2 j3 j4 j5 j6 HP
        go_wp2_with fail
        refine HP.out.mono ?_
        rintro e w4 ⟨rfl, hs4, hk4⟩
        go_wp2_with fail
        go_ret
        rw [HRR.out]
        exact ⟨rfl, hs4, HK3.out.trans hk4⟩
      · have t1 : (tx == []) = false := by simpa using htx
        have t2 : tx.isEmpty = false := by simpa using htx
        have HRR := Lib.hid (show R = (s.need false 8, 0) by rw [HR.out]; unfold LW.con; rw [if_neg (fun h => htx h.2.2), if_neg (fun h => by rw [h73] at h; simp at h), if_neg (fun h => by rw [h73] at h; simp at h)])
        clear HR h73 h18 htx

        go_enter Tryz.func71, Tryz.ntmps71
        go_upto_region 1 with fail
        generalize w.alloc (.cells #[.int .u8 (op : Nat), .int .i64 n, .int .i64 m, .string ⟨cl.toArray⟩, .string ⟨nm.toArray⟩, .string ⟨ds.toArray⟩, .string ⟨tx.toArray⟩] InsT) = W at *
        obtain ⟨j0, j1, j2, j3, j4, j5, j6, -, -, -, -, -, -⟩ := HXB.out.box
        dsimp only at j0 j1 j2 j3 j4 j5 j6

        have HN := Lib.hid (alneed_any W B g s false 8 HS1.out)
        go_wp2_with fail
        refine HN.out.mono ?_
        rintro e w3 ⟨rfl, hs3, hk3⟩
        go_wp2_with fail
        go_ret
        rw [HRR.out]
        exact ⟨rfl, hs3, HK0.out.trans hk3⟩
    · have e18 : ((op : Int) == 18) = false := by rw [beq_eq_false_iff_ne]; omega
      have HRR := Lib.hid (show R = (s.need false 8, 0) by rw [HR.out]; unfold LW.con; rw [if_neg (fun h => h18 h.2.1), if_neg (fun h => by rw [h73] at h; simp at h), if_neg (fun h => by rw [h73] at h; simp at h)])
      clear HR h73 h18

      go_enter Tryz.func71, Tryz.ntmps71
      go_upto_region 1 with fail
      generalize w.alloc (.cells #[.int .u8 (op : Nat), .int .i64 n, .int .i64 m, .string ⟨cl.toArray⟩, .string ⟨nm.toArray⟩, .string ⟨ds.toArray⟩, .string ⟨tx.toArray⟩] InsT) = W at *
      obtain ⟨j0, j1, j2, j3, j4, j5, j6, -, -, -, -, -, -⟩ := HXB.out.box
      dsimp only at j0 j1 j2 j3 j4 j5 j6

      have HN := Lib.hid (alneed_any W B g s false 8 HS1.out)
      go_wp2_with fail
      refine HN.out.mono ?_
      rintro e w3 ⟨rfl, hs3, hk3⟩
      go_wp2_with fail
      go_ret
      rw [HRR.out]
      exact ⟨rfl, hs3, HK0.out.trans hk3⟩
  by_cases h83 : ds = [83]
  · have d73 : (ds == [73]) = false := by rw [h83]; rfl
    have d83 : (ds == [83]) = true := by rw [h83]; rfl
    have d74 : (ds == [74]) = false := by rw [h83]; rfl
    by_cases h18 : op = 18
    · have e18 : ((op : Int) == 18) = true := by rw [h18]; rfl
      by_cases hn0 : n = 0
      · have t1 : (n == 0) = true := by rw [hn0]; rfl
        have HRR := Lib.hid (show R = ((s.text tx).1).put ⟨8, ((s.text tx).2 : Nat), 0, 0, []⟩ by rw [HR.out]; unfold LW.con; rw [if_neg (fun h => by rw [h83] at h; simp at h), if_pos ⟨h83, h18, hn0⟩])
        clear HR h83 h18 hn0

        go_enter Tryz.func71, Tryz.ntmps71
        go_upto_region 1 with fail
        generalize w.alloc (.cells #[.int .u8 (op : Nat), .int .i64 n, .int .i64 m, .string ⟨cl.toArray⟩, .string ⟨nm.toArray⟩, .string ⟨ds.toArray⟩, .string ⟨tx.toArray⟩] InsT) = W at *
        obtain ⟨j0, j1, j2, j3, j4, j5, j6, -, -, -, -, -, -⟩ := HXB.out.box
        dsimp only at j0 j1 j2 j3 j4 j5 j6

        have HN := Lib.hid (altext_any W B g s tx HS1.out HF.out.tx (by omega) (HK0.out.bnd hB))
        have hl5 : (s.text tx).1.l.length ≤ s.l.length + 2 := text_len _ _
        have hi5 : (s.text tx).2 < (s.text tx).1.l.length := put_lt _ _
        generalize s.text tx = C5 at *
        obtain ⟨s5, i5⟩ := C5
        dsimp only at hl5 hi5 HN HRR
        go_wp2_with fail
        refine HN.out.mono ?_
        rintro e w3 ⟨rfl, hs3, hk3⟩
        have HK3 := Lib.hid (HK0.out.trans hk3)
        have HP := Lib.hid (alput_any w3 B g _ ⟨8, (i5 : Nat), 0, 0, []⟩ hs3 (kok_int (by omega) (by omega) (by omega) (intRo_of (by omega))) (show (8 : Int) ≠ 0 by decide) (by omega) (HK3.out.bnd hB))
        clear hs3 hk3 j0 j1 j2 j3 j4 j5 j6
        dsimp only [KV.cells] at HP
        go_wp2_with fail
        refine HP.out.mono ?_
        rintro e w4 ⟨rfl, hs4, hk4⟩
        go_wp2_with fail
        go_ret
        rw [HRR.out]
        exact ⟨rfl, hs4, HK3.out.trans hk4⟩
      · have t1 : (n == 0) = false := by simpa using hn0
        have HRR := Lib.hid (show R = (s.need false 8, 0) by rw [HR.out]; unfold LW.con; rw [if_neg (fun h => by rw [h83] at h; simp at h), if_neg (fun h => hn0 h.2.2), if_neg (fun h => by rw [h83] at h; simp at h)])
        clear HR h83 h18 hn0

        go_enter Tryz.func71, Tryz.ntmps71
        go_upto_region 1 with fail
        generalize w.alloc (.cells #[.int .u8 (op : Nat), .int .i64 n, .int .i64 m, .string ⟨cl.toArray⟩, .string ⟨nm.toArray⟩, .string ⟨ds.toArray⟩, .string ⟨tx.toArray⟩] InsT) = W at *
        obtain ⟨j0, j1, j2, j3, j4, j5, j6, -, -, -, -, -, -⟩ := HXB.out.box
        dsimp only at j0 j1 j2 j3 j4 j5 j6

        have HN := Lib.hid (alneed_any W B g s false 8 HS1.out)
        go_wp2_with fail
        refine HN.out.mono ?_
        rintro e w3 ⟨rfl, hs3, hk3⟩
        go_wp2_with fail
        go_ret
        rw [HRR.out]
        exact ⟨rfl, hs3, HK0.out.trans hk3⟩
    · have e18 : ((op : Int) == 18) = false := by rw [beq_eq_false_iff_ne]; omega
      have HRR := Lib.hid (show R = (s.need false 8, 0) by rw [HR.out]; unfold LW.con; rw [if_neg (fun h => by rw [h83] at h; simp at h), if_neg (fun h => h18 h.2.1), if_neg (fun h => by rw [h83] at h; simp at h)])
      clear HR h83 h18

      go_enter Tryz.func71, Tryz.ntmps71
      go_upto_region 1 with fail
      generalize w.alloc (.cells #[.int .u8 (op : Nat), .int .i64 n, .int .i64 m, .string ⟨cl.toArray⟩, .string ⟨nm.toArray⟩, .string ⟨ds.toArray⟩, .string ⟨tx.toArray⟩] InsT) = W at *
      obtain ⟨j0, j1, j2, j3, j4, j5, j6, -, -, -, -, -, -⟩ := HXB.out.box
      dsimp only at j0 j1 j2 j3 j4 j5 j6

      have HN := Lib.hid (alneed_any W B g s false 8 HS1.out)
      go_wp2_with fail
      refine HN.out.mono ?_
      rintro e w3 ⟨rfl, hs3, hk3⟩
      go_wp2_with fail
      go_ret
      rw [HRR.out]
      exact ⟨rfl, hs3, HK0.out.trans hk3⟩
  by_cases h74 : ds = [74]
  · have d73 : (ds == [73]) = false := by rw [h74]; rfl
    have d83 : (ds == [83]) = false := by rw [h74]; rfl
    have d74 : (ds == [74]) = true := by rw [h74]; rfl
    by_cases h20 : op = 20
    · have e20 : ((op : Int) == 20) = true := by rw [h20]; rfl
      by_cases htx : tx = []
      · have t1 : (tx == []) = true := by rw [htx]; rfl
        have t2 : tx.isEmpty = true := by rw [htx]; rfl
        have HRR := Lib.hid (show R = s.put ⟨5, 0, 0, n, []⟩ by rw [HR.out]; unfold LW.con; rw [if_neg (fun h => by rw [h74] at h; simp at h), if_neg (fun h => by rw [h74] at h; simp at h), if_pos ⟨h74, h20, htx⟩])
        clear HR h74 h20 htx

        go_enter Tryz.func71, Tryz.ntmps71
        go_upto_region 1 with fail
        generalize w.alloc (.cells #[.int .u8 (op : Nat), .int .i64 n, .int .i64 m, .string ⟨cl.toArray⟩, .string ⟨nm.toArray⟩, .string ⟨ds.toArray⟩, .string ⟨tx.toArray⟩] InsT) = W at *
        obtain ⟨j0, j1, j2, j3, j4, j5, j6, -, -, -, -, -, -⟩ := HXB.out.box
        dsimp only at j0 j1 j2 j3 j4 j5 j6

        have HP := Lib.hid (alput_any W B g s ⟨5, 0, 0, n, []⟩ HS1.out (kok_int (by omega) (by omega) (by omega) HF.out.n) (show (5 : Int) ≠ 0 by decide) (by omega) (HK0.out.bnd hB))
        dsimp only [KV.cells] at HP
        go_wp2_with fail
        refine HP.out.mono ?_
        rintro e w4 ⟨rfl, hs4, hk4⟩
        go_wp2_with fail
        go_ret
        rw [HRR.out]
        exact ⟨rfl, hs4, HK0.out.trans hk4⟩
      · have t1 : (tx == []) = false := by simpa using htx
        have t2 : tx.isEmpty = false := by simpa using htx
        have HRR := Lib.hid (show R = (s.need false 8, 0) by rw [HR.out]; unfold LW.con; rw [if_neg (fun h => by rw [h74] at h; simp at h), if_neg (fun h => by rw [h74] at h; simp at h), if_neg (fun h => htx h.2.2)])
        clear HR h74 h20 htx

        go_enter Tryz.func71, Tryz.ntmps71
        go_upto_region 1 with fail
        generalize w.alloc (.cells #[.int .u8 (op : Nat), .int .i64 n, .int .i64 m, .string ⟨cl.toArray⟩, .string ⟨nm.toArray⟩, .string ⟨ds.toArray⟩, .string ⟨tx.toArray⟩] InsT) = W at *
        obtain ⟨j0, j1, j2, j3, j4, j5, j6, -, -, -, -, -, -⟩ := HXB.out.box
        dsimp only at j0 j1 j2 j3 j4 j5 j6

        have HN := Lib.hid (alneed_any W B g s false 8 HS1.out)
        go_wp2_with fail
        refine HN.out.mono ?_
        rintro e w3 ⟨rfl, hs3, hk3⟩
        go_wp2_with fail
        go_ret
        rw [HRR.out]
        exact ⟨rfl, hs3, HK0.out.trans hk3⟩
    · have e20 : ((op : Int) == 20) = false := by rw [beq_eq_false_iff_ne]; omega
      have HRR := Lib.hid (show R = (s.need false 8, 0) by rw [HR.out]; unfold LW.con; rw [if_neg (fun h => by rw [h74] at h; simp at h), if_neg (fun h => by rw [h74] at h; simp at h), if_neg (fun h => h20 h.2.1)])
      clear HR h74 h20

      go_enter Tryz.func71, Tryz.ntmps71
      go_upto_region 1 with fail
      generalize w.alloc (.cells #[.int .u8 (op : Nat), .int .i64 n, .int .i64 m, .string ⟨cl.toArray⟩, .string ⟨nm.toArray⟩, .string ⟨ds.toArray⟩, .string ⟨tx.toArray⟩] InsT) = W at *
      obtain ⟨j0, j1, j2, j3, j4, j5, j6, -, -, -, -, -, -⟩ := HXB.out.box
      dsimp only at j0 j1 j2 j3 j4 j5 j6

      have HN := Lib.hid (alneed_any W B g s false 8 HS1.out)
      go_wp2_with fail
      refine HN.out.mono ?_
      rintro e w3 ⟨rfl, hs3, hk3⟩
      go_wp2_with fail
      go_ret
      rw [HRR.out]
      exact ⟨rfl, hs3, HK0.out.trans hk3⟩
  have d73 : (ds == [73]) = false := by simpa using h73
  have d83 : (ds == [83]) = false := by simpa using h83
  have d74 : (ds == [74]) = false := by simpa using h74
  have HRR := Lib.hid (show R = (s.need false 8, 0) by rw [HR.out]; unfold LW.con; rw [if_neg (fun h => h73 h.1), if_neg (fun h => h83 h.1), if_neg (fun h => h74 h.1)])
  clear HR h73 h83 h74

  go_enter Tryz.func71, Tryz.ntmps71
  go_upto_region 1 with fail
  generalize w.alloc (.cells #[.int .u8 (op : Nat), .int .i64 n, .int .i64 m, .string ⟨cl.toArray⟩, .string ⟨nm.toArray⟩, .string ⟨ds.toArray⟩, .string ⟨tx.toArray⟩] InsT) = W at *
  obtain ⟨j0, j1, j2, j3, j4, j5, j6, -, -, -, -, -, -⟩ := HXB.out.box
  dsimp only at j0 j1 j2 j3 j4 j5 j6

  have HN := Lib.hid (alneed_any W B g s false 8 HS1.out)
  go_wp2_with fail
  refine HN.out.mono ?_
  rintro e w3 ⟨rfl, hs3, hk3⟩
  go_wp2_with fail
  go_ret
  rw [HRR.out]
  exact ⟨rfl, hs3, HK0.out.trans hk3⟩
end Go.Proofs.YtclpkipaehpkdaaGreatDoor

