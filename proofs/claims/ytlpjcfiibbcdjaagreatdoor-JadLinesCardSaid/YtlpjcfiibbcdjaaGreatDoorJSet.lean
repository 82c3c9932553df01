/- What each line sets: the closures of jad.fields. No condition. -/
import Derived.Test.YtlpjcfiibbcdjaaGreatDoorJPrint
import Derived.Laws.EntriesVeiled
import Derived.Maps.OwnIn
namespace Go.Proofs.YtlpjcfiibbcdjaaGreatDoor
open Go.ChangeShapes Go.WideShapes Go.ChangeAt Go.RowKit
theorem grown_belowJ {w w' : World} {row : Option Nat} (h : Below w.heap.size w w') : w.grownBy w' row := ⟨h.os, h.tape, h.output, h.size, fun k hk _ => h.block k hk⟩
theorem grown_setJ {w w' : World} {g o : Nat} {v : Value} (h : w.grownBy w' (some g)) : w.grownBy (w'.setCell ⟨g, o, none⟩ v) (some g) := by
  refine ⟨h.os, h.tape, h.output, ?_, fun k hk hne => ?_⟩
  · simpa using h.size
  · have hkg : k ≠ g := fun e => hne (by rw [e])
    unfold World.setCell
    simp [Array.getElem?_modify, Ne.symm hkg, h.block k hk hne]
theorem grown_rowJ {w w' : World} {g : Nat} {A : Array Value} (h : w.grownBy w' (some g)) : w.grownBy (w'.setRow g A) (some g) := by
  refine ⟨h.os, h.tape, h.output, ?_, fun k hk hne => ?_⟩
  · rw [setRow_size]; exact h.size
  · rw [setRow_other _ _ _ _ (fun e => hne (by rw [e]))]; exact h.block k hk hne
/-- The descriptor with a line's value. -/
def setJ (i : Nat) (v : List UInt8) (j : JD) : JD :=
  if i = 0 then { j with name := v } else if i = 1 then { j with a := (pvV v).getD 0 0, b := (pvV v).getD 1 0, c := (pvV v).getD 2 0 } else if i = 2 then { j with main := v } else if i = 3 then { j with size := atoiV v } else { j with hash := unhexV v }
def setOk (i : Nat) (v : List UInt8) : Bool := if i = 0 then true else if i = 1 then pvOk v else if i = 2 then true else if i = 3 then numOk v 65536 else decide (unhexE v = 0)
theorem RowJ.fr {w : World} {g : Nat} {j : JD} (h : RowJ w g j) (k : Nat) : w.frozen? ⟨g, k, none⟩ = false := by
  unfold World.frozen?
  unfold RowJ at h
  rw [h]
  rfl
theorem RowJ.set {w : World} {g : Nat} {j j' : JD} (h : RowJ w g j) (k : Nat) (x : Value) (e : j.cells.set k x = j'.cells) : RowJ (w.setCell ⟨g, k, none⟩ x) g j' := by
  unfold RowJ at h ⊢
  unfold World.setCell
  simp only [Array.getElem?_modify, h, Option.map_some, if_true]
  rw [← e]
  simp
def SetRet (w : World) (gj : Nat) (j : JD) (i : Nat) (v : List UInt8) (e : Ending) (w' : World) : Prop := e = .returned (.bool (setOk i v)) ∧ RowJ w' gj (setJ i v j) ∧ w.grownBy w' (some gj)
set_option maxRecDepth 100000 in
set_option maxHeartbeats 2000000 in
theorem set0_any (w : World) (gp gj : Nat) (j : JD) (v : List UInt8) (hp : w.cell? ⟨gp, 0, none⟩ = some (.pointer (some ⟨gj, 0, none⟩))) (hr : RowJ w gj j) :
    Calls Tryz.prog 47 #[.string ⟨v.toArray⟩, .pointer (some ⟨gp, 0, none⟩)] w (SetRet w gj j 0 v) := by
  have HN := Lib.hid (hr.set (j' := setJ 0 v j) 0 (.string ⟨v.toArray⟩) rfl)
  have HG := Lib.hid (grown_setJ (g := gj) (o := 0) (v := .string ⟨v.toArray⟩) (grown_belowJ (row := some gj) (Below.refl w.heap.size w)))
  have f0 := hr.fr 0
  have c0 := hr.c0
  clear hr
  go_enter Tryz.func47, Tryz.ntmps47
  go_wp2_with fail
  go_ret
  exact ⟨rfl, HN.out, HG.out⟩
set_option maxRecDepth 100000 in
set_option maxHeartbeats 2000000 in
theorem set2_any (w : World) (gp gj : Nat) (j : JD) (v : List UInt8) (hp : w.cell? ⟨gp, 0, none⟩ = some (.pointer (some ⟨gj, 0, none⟩))) (hr : RowJ w gj j) :
    Calls Tryz.prog 49 #[.string ⟨v.toArray⟩, .pointer (some ⟨gp, 0, none⟩)] w (SetRet w gj j 2 v) := by
  have HN := Lib.hid (hr.set (j' := setJ 2 v j) 4 (.string ⟨v.toArray⟩) rfl)
  have HG := Lib.hid (grown_setJ (g := gj) (o := 4) (v := .string ⟨v.toArray⟩) (grown_belowJ (row := some gj) (Below.refl w.heap.size w)))
  have f0 := hr.fr 4
  have c0 := hr.c4
  clear hr
  go_enter Tryz.func49, Tryz.ntmps49
  go_wp2_with fail
  go_ret
  exact ⟨rfl, HN.out, HG.out⟩
set_option maxRecDepth 100000 in
set_option maxHeartbeats 2000000 in
theorem set3_any (w : World) (gp gj : Nat) (j : JD) (v : List UInt8) (hp : w.cell? ⟨gp, 0, none⟩ = some (.pointer (some ⟨gj, 0, none⟩))) (hr : RowJ w gj j) (hl : v.length ≤ 4294967000) (hv : VW w) :
    Calls Tryz.prog 50 #[.string ⟨v.toArray⟩, .pointer (some ⟨gp, 0, none⟩)] w (SetRet w gj j 3 v) := by
  obtain ⟨r, hr0⟩ : ∃ r, r = setOk 3 v := ⟨_, rfl⟩
  have HRR := Lib.hid hr0
  have HNU := Lib.hid (number_any w v 65536 hl (by decide) hv)
  rw [show numOk v 65536 = r from hr0.symm] at HNU
  have HP := Lib.hid hp
  have HJ := Lib.hid hr
  have HNX := Lib.hid (fun w1 (h : RowJ w1 gj j) => h.set (j' := setJ 3 v j) 5 (.int .i64 (atoiV v)) rfl)
  generalize atoiV v = n at *
  clear hp hr hl hv hr0
  go_enter Tryz.func50, Tryz.ntmps50
  go_wp2_with fail
  refine HNU.out.mono ?_
  rintro e w1 ⟨rfl, hb1⟩
  have hp1 := cell_below HP.out hb1
  have hr1 := HJ.out.below hb1
  have HN := Lib.hid (HNX.out w1 hr1)
  have HG := Lib.hid (grown_setJ (g := gj) (o := 5) (v := .int .i64 n) (grown_belowJ (row := some gj) hb1))
  have f0 := hr1.fr 5
  have c0 := hr1.c5
  clear hr1 hb1
  go_wp2_with fail
  go_ret
  exact ⟨by rw [← HRR.out]; rfl, HN.out, HG.out⟩
set_option maxRecDepth 100000 in
set_option maxHeartbeats 2000000 in
theorem set1_any (w : World) (gp gj : Nat) (j : JD) (v : List UInt8) (hp : w.cell? ⟨gp, 0, none⟩ = some (.pointer (some ⟨gj, 0, none⟩))) (hr : RowJ w gj j) (hl : v.length ≤ 4294967000) (hv : VW w) :
    Calls Tryz.prog 48 #[.string ⟨v.toArray⟩, .pointer (some ⟨gp, 0, none⟩)] w (SetRet w gj j 1 v) := by
  obtain ⟨x, y, z, hV⟩ : ∃ x y z, pvV v = [x, y, z] := by
    have := pvV_len v
    match h : pvV v with
    | [x, y, z] => exact ⟨x, y, z, rfl⟩
    | [] => rw [h] at this; cases this
    | [_] => rw [h] at this; cases this
    | [_, _] => rw [h] at this; cases this
    | _ :: _ :: _ :: _ :: _ => rw [h] at this; simp at this
  have hset : setJ 1 v j = { j with a := x, b := y, c := z } := by unfold setJ; simp [hV]
  have hpv := ParseV_any w v hl hv
  rw [hV, show (([x, y, z] : List Int).map encI).toArray = #[.int .i64 x, .int .i64 y, .int .i64 z] from rfl] at hpv
  obtain ⟨er, her⟩ : ∃ er, er = pvE v := ⟨_, rfl⟩
  rw [← her] at hpv
  have HE := Lib.hid (show setOk 1 v = (er == 0) by rw [her]; unfold setOk pvE; cases pvOk v <;> rfl)
  have HPV := Lib.hid hpv
  have HP := Lib.hid hp
  have HJ := Lib.hid hr
  have HNX := Lib.hid (fun w1 (h : RowJ w1 gj j) => show RowJ (((w1.setCell ⟨gj, 1, none⟩ (.int .i64 x)).setCell ⟨gj, 2, none⟩ (.int .i64 y)).setCell ⟨gj, 3, none⟩ (.int .i64 z)) gj (setJ 1 v j) by
    rw [hset]
    exact ((h.set (j' := { j with a := x }) 1 _ rfl).set (j' := { j with a := x, b := y }) 2 _ rfl).set 3 _ rfl)
  clear hp hr hl hv hV hset hpv her
  go_enter Tryz.func48, Tryz.ntmps48
  go_wp2_with fail
  refine HPV.out.mono ?_
  rintro e w1 ⟨rfl, hb1⟩
  go_upto_region 2 with fail
  have hb2 : Below w.heap.size w (w1.alloc (.cells #[.int .i64 x, .int .i64 y, .int .i64 z] 23)) := hb1.trans (((Below.refl _ _).alloc (Nat.le_refl _) _).mono hb1.size)
  have hrow2 : (w1.alloc (.cells #[.int .i64 x, .int .i64 y, .int .i64 z] 23)).heap[w1.heap.size]? = some (.cells #[.int .i64 x, .int .i64 y, .int .i64 z] 23 (0, 0)) := heap_alloc_last w1 _
  generalize w1.alloc (.cells #[.int .i64 x, .int .i64 y, .int .i64 z] 23) = w2 at *
  generalize w1.heap.size = gv at *
  have v0 : w2.cell? ⟨gv, 0, none⟩ = some (.int .i64 x) := by rw [cell_of_row _ _ 0 _ _ _ hrow2]; rfl
  have v1 : w2.cell? ⟨gv, 1, none⟩ = some (.int .i64 y) := by rw [cell_of_row _ _ 1 _ _ _ hrow2]; rfl
  have v2 : w2.cell? ⟨gv, 2, none⟩ = some (.int .i64 z) := by rw [cell_of_row _ _ 2 _ _ _ hrow2]; rfl
  have hp2 := cell_below HP.out hb2
  have hr2 := HJ.out.below hb2
  have HN := Lib.hid (HNX.out w2 hr2)
  have HG := Lib.hid (grown_setJ (g := gj) (o := 3) (v := .int .i64 z) (grown_setJ (g := gj) (o := 2) (v := .int .i64 y) (grown_setJ (g := gj) (o := 1) (v := .int .i64 x) (grown_belowJ (row := some gj) hb2))))
  have f1 := hr2.fr 1
  have f2 := hr2.fr 2
  have f3 := hr2.fr 3
  have c1 := hr2.c1
  have c2 := hr2.c2
  have c3 := hr2.c3
  clear hr2 hb2 hb1 hrow2
  go_wp2_with fail
  go_ret
  exact ⟨by rw [HE.out]; rfl, HN.out, HG.out⟩
theorem wpList_store_part {P : Program} {ops : Array Oper} {rest : List Oper} {op : Oper} {a : Act} {w : World} {Q : Exit → Act → World → Prop} (hgd : op.guard = none) (ty : TypeId) (x y : Operand) (ho : op.op = .store ty x y)
    (b o : Nat) (cells : Array Value) (hx : a.eval x = .pointer (some ⟨b, o, none⟩)) (hy : a.eval y = .agg cells) (cur : Array Value) (t : TypeId)
    (hg : w.heap[b]? = some (.cells cur t (0, 0))) (hle : o + cells.size ≤ cur.size) (hi : (P.info? ty).map (·.size) = some cells.size) (h1 : cells.all (·.oneCell') = true)
    (h : wpList P ops Q rest (a.put op.dst undef) (w.setRow b (cur.toList.take o ++ cells.toList ++ cur.toList.drop (o + cells.size)).toArray)) : wpList P ops Q (op :: rest) a w := by
  refine wpList_plain hgd fun K hK => ?_
  have hrun : (storeVar ty ⟨b, o, none⟩ (.agg cells)).run P w = .ok () (w.setRow b (cur.toList.take o ++ cells.toList ++ cur.toList.drop (o + cells.size)).toArray) := by
    have := run_storeCells_at (P := P) b o t cells.toList 0 cur w hg (by simpa using hle) (fun v hv => (Array.all_eq_true_iff_forall_mem.1 h1) v (by simpa using hv))
    cases hq : P.info? ty with
    | none => simp [hq] at hi
    | some i =>
      have hs : cells.size = i.size := by simp [hq] at hi; omega
      simp only [Nat.add_zero, Array.length_toList] at this
      simp [storeVar, sizeOf, typeInfo, hq, Value.cells, hs, Sem.run_bind] at this ⊢
      exact this
  unfold Oper.wp execOp
  simp only [ho, hx, hy, Instr.storeAt, Instr.sureAddr, Sem.run_bind, Sem.run_pure, Result.andThen_ok, hrun]
  exact hK _ _ h
theorem unhexV_len (v : List UInt8) : (unhexV v).length = 32 := by
  unfold unhexV
  split
  · exact unhxL_length v
  · rfl
set_option maxRecDepth 100000 in
set_option maxHeartbeats 4000000 in
theorem set4_any (w : World) (gp gj : Nat) (j : JD) (v : List UInt8) (hp : w.cell? ⟨gp, 0, none⟩ = some (.pointer (some ⟨gj, 0, none⟩))) (hr : RowJ w gj j) (hh : j.hash.length = 32) (hl : v.length ≤ 4294967000) :
    Calls Tryz.prog 51 #[.string ⟨v.toArray⟩, .pointer (some ⟨gp, 0, none⟩)] w (SetRet w gj j 4 v) := by
  have hux := Unhex_any w v (by omega)
  obtain ⟨A, hA⟩ : ∃ A, A = ((unhexV v).map encB).toArray := ⟨_, rfl⟩
  obtain ⟨er, her⟩ : ∃ er, er = unhexE v := ⟨_, rfl⟩
  rw [← hA, ← her] at hux
  have HE := Lib.hid (show setOk 4 v = (er == 0) by rw [her]; unfold setOk; rw [if_neg (by decide), if_neg (by decide), if_neg (by decide), if_neg (by decide), Bool.eq_iff_iff]; simp)
  have HUX := Lib.hid hux
  have HP := Lib.hid hp
  have HJ := Lib.hid hr
  have HSZ := Lib.hid (show A.size = 32 by rw [hA]; simpa using unhexV_len v)
  have HON := Lib.hid (show A.all (·.oneCell') = true by rw [hA]; simp [encB, Value.oneCell'])
  have hcs : ((j.cells.toArray.toList.take 6 ++ A.toList ++ j.cells.toArray.toList.drop (6 + A.size)).toArray) = (setJ 4 v j).cells.toArray := by
    rw [HSZ.out, hA]
    have hd : j.cells.drop 38 = [] := List.drop_eq_nil_of_le (by rw [len38 hh]; exact Nat.le_refl _)
    rw [show j.cells.toArray.toList = j.cells from rfl, show 6 + 32 = 38 from rfl, hd, List.append_nil]
    rfl
  have HCS := Lib.hid hcs
  obtain ⟨C, hC⟩ : ∃ C, C = j.cells.toArray := ⟨_, rfl⟩
  rw [← hC] at HCS
  have HCE := Lib.hid hC
  have HCZ := Lib.hid (show C.size = 38 by rw [hC]; simpa using len38 hh)
  clear hp hr hl hA hux her hcs hh hC
  go_enter Tryz.func51, Tryz.ntmps51
  go_wp2_with fail
  refine HUX.out.mono ?_
  rintro e w1 ⟨rfl, hb1⟩
  go_upto_region 2 with (refine wpList_store_row rfl _ _ _ rfl _ A rfl rfl _ _ (heap_alloc_last w1 _) (by rw [HSZ.out]; exact info_out) (by rw [HSZ.out]; rfl) HON.out ?_)
  have hbz : ∀ Z, Below w.heap.size w ((w1.alloc (.cells Z 24)).setRow w1.heap.size A) := fun Z => below_setRow (hb1.trans (((Below.refl _ _).alloc (Nat.le_refl _) _).mono hb1.size)) hb1.size _
  have hrz : ∀ Z, ((w1.alloc (.cells Z 24)).setRow w1.heap.size A).heap[w1.heap.size]? = some (.cells A 24 (0, 0)) := fun Z => setRow_heap _ _ _ _ _ _ (heap_alloc_last w1 _)
  obtain ⟨W, hW⟩ : ∃ W, W = ((w1.alloc (.cells #[.int .u8 0, .int .u8 0, .int .u8 0, .int .u8 0, .int .u8 0, .int .u8 0, .int .u8 0, .int .u8 0, .int .u8 0, .int .u8 0, .int .u8 0, .int .u8 0, .int .u8 0, .int .u8 0, .int .u8 0, .int .u8 0, .int .u8 0, .int .u8 0, .int .u8 0, .int .u8 0, .int .u8 0, .int .u8 0, .int .u8 0, .int .u8 0, .int .u8 0, .int .u8 0, .int .u8 0, .int .u8 0, .int .u8 0, .int .u8 0, .int .u8 0, .int .u8 0] 24)).setRow w1.heap.size A) := ⟨_, rfl⟩
  have hb2 : Below w.heap.size w W := by rw [hW]; exact hbz _
  have hrow2 : W.heap[w1.heap.size]? = some (.cells A 24 (0, 0)) := by rw [hW]; exact hrz _
  rw [← hW]
  clear hbz hrz hW
  generalize w1.heap.size = gv at *
  have HROW := Lib.hid hrow2
  have hp2 := cell_below HP.out hb2
  have hr2 := HJ.out.below hb2
  unfold RowJ at hr2
  rw [← HCE.out] at hr2
  have HR2 := Lib.hid hr2
  have HN := Lib.hid (show RowJ (W.setRow gj (C.toList.take 6 ++ A.toList ++ C.toList.drop (6 + A.size)).toArray) gj (setJ 4 v j) by
    rw [HCS.out]; exact setRow_heap _ _ _ _ _ _ hr2)
  have HG := Lib.hid (grown_rowJ (g := gj) (A := (C.toList.take 6 ++ A.toList ++ C.toList.drop (6 + A.size)).toArray) (grown_belowJ (row := some gj) hb2))
  rw [List.append_assoc] at HN HG
  clear hr2 hb2 hb1 hrow2 HCS HCE
  go_wp2_with (first
    | (refine wpList_load_row rfl _ _ rfl _ rfl _ _ _ _ HROW.out Tryz.underlying24 rfl (by rw [HSZ.out]; exact info_out) ?_)
    | (refine wpList_store_part rfl _ _ _ rfl gj 6 A rfl rfl C _ HR2.out (by rw [HSZ.out, HCZ.out]; decide) (by rw [HSZ.out]; exact info_out) HON.out ?_))
  go_ret
  exact ⟨by rw [HE.out]; rfl, HN.out, HG.out⟩
end Go.Proofs.YtlpjcfiibbcdjaaGreatDoor
