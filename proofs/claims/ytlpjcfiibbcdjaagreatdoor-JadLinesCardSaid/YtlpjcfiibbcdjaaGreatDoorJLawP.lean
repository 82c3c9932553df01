/- jad: the walk of JadPrints. No condition. -/
import Derived.Test.YtlpjcfiibbcdjaaGreatDoorJFix
namespace Go.Proofs.YtlpjcfiibbcdjaaGreatDoor
open Go.ChangeShapes Go.WideShapes Go.ChangeAt Go.RowKit
def RowC (w : World) (g : Nat) (C : Array Value) : Prop := w.heap[g]? = some (.cells C JadT (0, 0))
theorem RowC.below {w w' : World} {g : Nat} {C : Array Value} (h : RowC w g C) (hb : Below w.heap.size w w') : RowC w' g C := by
  unfold RowC at h ⊢
  rw [hb.block g (rowLt h)]; exact h
theorem run_exec_binJ {P : Program} {ρ : Operand → Value} {o : Oper} {op : BinOp} {t : TypeId} {x y : Operand} {ty : TypeId} (ho : o.op = .binOp op t x y ty) {v : Value} {w : World}
    (h : ((eqGuard op t x y (ρ x) (ρ y)).run P w).andThen (fun _ w' => (binOp op t (ρ x) (ρ y)).run P w') = .ok v w) : (execOp ρ o).run P w = .ok (.value v) w := by
  unfold execOp
  simp only [ho, Sem.run_bind, Sem.run_pure]
  rw [h]
  rfl
theorem wpList_binJ {P : Program} {ops : Array Oper} {rest : List Oper} {o : Oper} {a : Act} {w : World} {Q : Exit → Act → World → Prop} (hgd : Region.wanted o (yielded ops a.tmps) = true) (op : BinOp) (t : TypeId) (x y : Operand) (ty : TypeId) (ho : o.op = .binOp op t x y ty)
    (p q v : Value) (hx : a.eval x = p) (hy : a.eval y = q) (hrun : ((eqGuard op t x y p q).run P w).andThen (fun _ w' => (binOp op t p q).run P w') = .ok v w) (h : wpList P ops Q rest (a.put o.dst v) w) : wpList P ops Q (o :: rest) a w := by
  refine wpList_step fun K hK => ?_
  rw [if_pos hgd]
  unfold Oper.wp
  rw [run_exec_binJ ho (by rw [hx, hy]; exact hrun)]
  exact hK _ _ h
theorem eql_jad (w : World) (j : JD) (hh : j.hash.length = 32) (o1 o2 : Operand) : ((eqGuard .eql JadT o1 o2 (.agg j.cells.toArray) (.agg j.cells.toArray)).run Tryz.prog w).andThen (fun _ w' => (binOp .eql JadT (.agg j.cells.toArray) (.agg j.cells.toArray)).run Tryz.prog w') = .ok (.bool true) w := by
  have h := eqJ w 9997 j hh
  rw [run_eqGuard_agg w _ _ _ _ _ _ jad_guard, Result.andThen_ok, run_eql_struct, h, Result.andThen_ok]
set_option maxHeartbeats 8000000 in
set_option maxRecDepth 100000 in
theorem walk_JadPrints (j : JD) (hh : j.hash.length = 32) (w : World) (hv : VW w) (hn : j.name.length ≤ 281474976710656) (hm : j.main.length ≤ 281474976710656) :
    Calls Tryz.prog 3 #[j.val] w fun e w' => e = .returned (.bool true) ∧ Below w.heap.size w w' := by
  have HCK := Lib.hid (fun (h1 : j.name.length ≤ 100) (h2 : j.main.length ≤ 200) w (h : VW w) => Check_any w j (by omega) (by omega) h)
  have HRT := Lib.hid (fun w => Right_any w j hn hm)
  have HPO := Lib.hid (fun (hok : okJ j = true) w (h : VW w) => Print_ok w j hok (okJ_fit hok hh) h)
  have HPB := Lib.hid (fun (hok : okJ j = false) (h1 : j.name.length ≤ 100) (h2 : j.main.length ≤ 200) w (h : VW w) => Print_bad w j hok (by omega) (by omega) hh h)
  have HPA := Lib.hid (fun (hok : okJ j = true) w (h : VW w) => Parse_text w j hok hh h)
  have HRP := Lib.hid (fun (hok : okJ j = true) w => refPrint_any w j (okJ_fit hok hh))
  have heq := fun w o1 o2 => eql_jad w j hh o1 o2
  unfold JD.val at HCK HRT HPO HPB HPA HRP ⊢
  obtain ⟨C, hC⟩ : ∃ C, C = j.cells.toArray := ⟨_, rfl⟩
  rw [← hC] at HCK HRT HPO HPB HPA HRP heq ⊢
  have HEQ := Lib.hid heq
  have hb : Below w.heap.size w (w.alloc (.cells C JadT)) := (Below.refl _ _).alloc (Nat.le_refl _) _
  have HR1 := Lib.hid (show RowC (w.alloc (.cells C JadT)) w.heap.size C from heap_alloc_last w _)
  have HB1 := Lib.hid hb
  have HV := Lib.hid hv
  have HCZ := Lib.hid (show C.size = 38 by rw [hC]; simpa using len38 hh)
  have HCO := Lib.hid (show C.all (·.oneCell') = true by rw [hC]; exact oneJ j)
  have HC0 := Lib.hid (show C[0]? = some (.string ⟨j.name.toArray⟩) ∧ C[4]? = some (.string ⟨j.main.toArray⟩) by rw [hC]; exact ⟨rfl, rfl⟩)
  clear heq hb hv hC hn hm
  go_enter Tryz.func3, Tryz.ntmps3
  go_upto_region 1 with fail
  generalize w.alloc (.cells C JadT) = w1 at *
  go_wp2_with fail
  refine (fixed_any w1 (HV.out.below HB1.out)).mono ?_
  rintro e w2 ⟨rfl, hb2⟩
  have HR2 := Lib.hid (HR1.out.below hb2)
  have HB2 := Lib.hid (HB1.out.trans (hb2.mono HB1.out.size))
  clear hb2 HR1 HB1
  have c0 : w2.cell? ⟨w.heap.size, 0, none⟩ = some (.string ⟨j.name.toArray⟩) := by rw [cell_of_row _ _ 0 _ _ _ HR2.out]; exact HC0.out.1
  have c4 : w2.cell? ⟨w.heap.size, 4, none⟩ = some (.string ⟨j.main.toArray⟩) := by rw [cell_of_row _ _ 4 _ _ _ HR2.out]; exact HC0.out.2
  by_cases hn1 : 100 < j.name.length
  · have n1 : (100 : Int) < j.name.length := by omega
    clear hn1
    go_wp2_with fail
    go_ret
    exact ⟨rfl, HB2.out⟩
  have n1 : ¬ (100 : Int) < j.name.length := by omega
  by_cases hm1 : 200 < j.main.length
  · have m1 : (200 : Int) < j.main.length := by omega
    clear hm1 hn1
    go_wp2_with fail
    go_ret
    exact ⟨rfl, HB2.out⟩
  have m1 : ¬ (200 : Int) < j.main.length := by omega
  have HCK2 := Lib.hid (HCK.out (by omega) (by omega))
  have HPB2 := Lib.hid (fun h => HPB.out h (by omega) (by omega))
  clear hn1 hm1 HCK HPB
  cases hok : okJ j
  · have HP := Lib.hid (HPB2.out hok w2 (HV.out.below HB2.out))
    rw [hok] at HRT HCK2
    clear HPO HPA HRP hok
    go_wp2_with (refine wpList_load_rowH rfl _ _ rfl _ rfl _ _ _ _ HR2.out Tryz.underlying26 rfl (by rw [HCZ.out]; exact info_jad) ?_)
    refine HP.out.mono ?_
    rintro e w3 ⟨rfl, hb3⟩
    have HR3 := Lib.hid (HR2.out.below hb3)
    have HB3 := Lib.hid (HB2.out.trans (hb3.mono HB2.out.size))
    clear hb3
    go_wp2_with (refine wpList_load_rowH rfl _ _ rfl _ rfl _ _ _ _ HR3.out Tryz.underlying26 rfl (by rw [HCZ.out]; exact info_jad) ?_)
    refine (HRT.out w3).mono ?_
    rintro e w4 ⟨rfl, hb4⟩
    have HR4 := Lib.hid (HR3.out.below hb4)
    have HB4 := Lib.hid (HB3.out.trans (hb4.mono HB3.out.size))
    clear hb4
    go_wp2_with (refine wpList_load_rowH rfl _ _ rfl _ rfl _ _ _ _ HR4.out Tryz.underlying26 rfl (by rw [HCZ.out]; exact info_jad) ?_)
    refine (HCK2.out w4 (HV.out.below HB4.out)).mono ?_
    rintro e w5 ⟨rfl, hb5⟩
    have HB5 := Lib.hid (HB4.out.trans (hb5.mono HB4.out.size))
    clear hb5
    go_wp2_with fail
    go_ret
    exact ⟨rfl, HB5.out⟩
  · have HP := Lib.hid (HPO.out hok w2 (HV.out.below HB2.out))
    have HPA2 := Lib.hid (HPA.out hok)
    have HRP2 := Lib.hid (HRP.out hok)
    rw [hok] at HRT HCK2
    clear HPB2 hok HPO HPA HRP
    generalize textJ j = T at *
    go_wp2_with (refine wpList_load_rowH rfl _ _ rfl _ rfl _ _ _ _ HR2.out Tryz.underlying26 rfl (by rw [HCZ.out]; exact info_jad) ?_)
    refine HP.out.mono ?_
    rintro e w3 ⟨rfl, hb3⟩
    have HR3 := Lib.hid (HR2.out.below hb3)
    have HB3 := Lib.hid (HB2.out.trans (hb3.mono HB2.out.size))
    clear hb3
    go_wp2_with (refine wpList_load_rowH rfl _ _ rfl _ rfl _ _ _ _ HR3.out Tryz.underlying26 rfl (by rw [HCZ.out]; exact info_jad) ?_)
    refine (HRT.out w3).mono ?_
    rintro e w4 ⟨rfl, hb4⟩
    have HR4 := Lib.hid (HR3.out.below hb4)
    have HB4 := Lib.hid (HB3.out.trans (hb4.mono HB3.out.size))
    clear hb4
    go_wp2_with fail
    refine (HPA2.out w4 (HV.out.below HB4.out)).mono ?_
    rintro e w5 ⟨rfl, hb5⟩
    have HR5 := Lib.hid (HR4.out.below hb5)
    have HB5 := Lib.hid (HB4.out.trans (hb5.mono HB4.out.size))
    clear hb5
    go_upto_region 9 with (refine wpList_store_row rfl _ _ _ rfl _ C rfl rfl _ _ (heap_alloc_last w5 _) (by rw [HCZ.out]; exact info_jad) (by rw [HCZ.out]; rfl) HCO.out ?_)
    change Code.wp _ _ _ _ ((w5.alloc (.cells zeroJ.cells.toArray JadT)).setRow w5.heap.size C)
    have hb6 : Below w5.heap.size w5 ((w5.alloc (.cells zeroJ.cells.toArray JadT)).setRow w5.heap.size C) := below_setRow ((Below.refl _ _).alloc (Nat.le_refl _) _) (Nat.le_refl _) _
    have hr6 : RowC ((w5.alloc (.cells zeroJ.cells.toArray JadT)).setRow w5.heap.size C) w5.heap.size C := setRow_heap _ _ _ _ _ _ (heap_alloc_last w5 _)
    generalize (w5.alloc (.cells zeroJ.cells.toArray JadT)).setRow w5.heap.size C = w6 at *
    have HK6 := Lib.hid hr6
    have HR6 := Lib.hid (HR5.out.below hb6)
    have HB6 := Lib.hid (HB5.out.trans (hb6.mono HB5.out.size))
    clear hb6 hr6
    go_wp2_with (refine wpList_load_rowH rfl _ _ rfl _ rfl _ _ _ _ HR6.out Tryz.underlying26 rfl (by rw [HCZ.out]; exact info_jad) ?_)
    refine (HCK2.out w6 (HV.out.below HB6.out)).mono ?_
    rintro e w7 ⟨rfl, hb7⟩
    have HR7 := Lib.hid (HR6.out.below hb7)
    have HK7 := Lib.hid (HK6.out.below hb7)
    have HB7 := Lib.hid (HB6.out.trans (hb7.mono HB6.out.size))
    clear hb7
    go_wp2_with (refine wpList_load_rowH rfl _ _ rfl _ rfl _ _ _ _ HR7.out Tryz.underlying26 rfl (by rw [HCZ.out]; exact info_jad) ?_)
    refine (HRP2.out w7).mono ?_
    rintro e w8 ⟨rfl, hb8⟩
    have HR8 := Lib.hid (HR7.out.below hb8)
    have HK8 := Lib.hid (HK7.out.below hb8)
    have HB8 := Lib.hid (HB7.out.trans (hb8.mono HB7.out.size))
    have he := HEQ.out w8
    clear hb8
    go_wp2_with (first
      | (refine wpList_load_rowH rfl _ _ rfl _ rfl _ _ _ _ HK8.out Tryz.underlying26 rfl (by rw [HCZ.out]; exact info_jad) ?_)
      | (refine wpList_load_rowH rfl _ _ rfl _ rfl _ _ _ _ HR8.out Tryz.underlying26 rfl (by rw [HCZ.out]; exact info_jad) ?_)
      | (refine wpList_binJ rfl _ JadT _ _ _ rfl _ _ _ rfl rfl (he _ _) ?_))
    go_ret
    exact ⟨rfl, HB8.out⟩
end Go.Proofs.YtlpjcfiibbcdjaaGreatDoor
