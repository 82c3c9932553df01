/- sha: fixed; arrays of 32 bytes compared. No condition. -/
import Derived.Test.YtkcpblfdmfkppaaShaUnhex
import Derived.ChangeKeysEq
namespace Go.Proofs.Ytkcpblfdmfkppaa
open Go.ChangeShapes Go.WideShapes Go.ChangeAt Go.RowKit
theorem habc : hashB [97, 98, 99] = [186, 120, 22, 191, 143, 1, 207, 234, 65, 65, 64, 222, 93, 174, 34, 35, 176, 3, 97, 163, 150, 23, 122, 156, 180, 16, 255, 97, 242, 0, 21, 173] := by decide +kernel
theorem part_b (w : World) (xs : List UInt8) (i : Nat) (h : i < xs.length) : (part 5 (xs.map encB).toArray i).run Try.prog w = .ok (encB xs[i]) w := by
  have hu := run_underlying Try.underlying5
  have hc : (xs.map encB).toArray[i]? = some (encB xs[i]) := by rw [List.getElem?_toArray, List.getElem?_map, List.getElem?_eq_getElem h]; rfl
  simp [part, isAgg, hu, hc]
theorem eqItems_b (w : World) (d : Nat) (xs ys : List UInt8) : ∀ is : List Nat, (∀ i ∈ is, i < xs.length ∧ i < ys.length) →
    (Op.eqItems (d + 1) 5 1 (xs.map encB).toArray (ys.map encB).toArray is).run Try.prog w = .ok (is.all fun i => xs.getD i 0 == ys.getD i 0) w
  | [], _ => by simp [Op.eqItems]
  | i :: is, h => by
    obtain ⟨h1, h2⟩ := h i (List.mem_cons_self ..)
    have ih := eqItems_b w d xs ys is (fun j hj => h j (List.mem_cons_of_mem _ hj))
    have e1 : xs.getD i 0 = xs[i] := by simp [List.getD, h1]
    have e2 : ys.getD i 0 = ys[i] := by simp [List.getD, h2]
    have e3 : (((xs[i].toNat : Nat) : Int) == ((ys[i].toNat : Nat) : Int)) = (xs[i] == ys[i]) := by
      rw [Bool.eq_iff_iff, beq_iff_eq, beq_iff_eq]
      exact ⟨fun h => UInt8.toNat_inj.1 (by exact_mod_cast h), fun h => by rw [h]⟩
    simp only [Op.eqItems, Sem.run_bind, Nat.mul_one, part_b w xs i h1, part_b w ys i h2, Result.andThen_ok]
    rw [show encB xs[i] = Value.int .u8 (xs[i].toNat : Nat) from rfl, show encB ys[i] = Value.int .u8 (ys[i].toNat : Nat) from rfl]
    rw [run_equalIn_int w d 5 _ _ _ _ Try.underlying5, Result.andThen_ok, e3, List.all_cons, e1, e2]
    cases hq : xs[i] == ys[i]
    · simp
    · simpa using ih
theorem all_same (xs ys : List UInt8) (n : Nat) (hx : xs.length = n) (hy : ys.length = n) : ((List.range n).all fun i => xs.getD i 0 == ys.getD i 0) = decide (xs = ys) := by
  rw [Bool.eq_iff_iff, List.all_eq_true, decide_eq_true_eq]
  constructor
  · intro h
    refine List.ext_getElem (by omega) (fun i h1 h2 => ?_)
    have := h i (List.mem_range.2 (by omega))
    simpa [List.getD, h1, h2] using this
  · rintro rfl i _
    simp
theorem run_eql32 (w : World) (xs ys : List UInt8) (hx : xs.length = 32) (hy : ys.length = 32) : (Op.equalIn 10000 24 (.agg (xs.map encB).toArray) (.agg (ys.map encB).toArray)).run Try.prog w = .ok (decide (xs = ys)) w := by
  obtain ⟨_, hinf, _⟩ := oneN
  obtain ⟨i, hi, _⟩ := info_parts hinf
  rw [run_equalIn_array w 9999 _ _ Try.underlying24 hi]
  have hc : Try.prog.cellsOf 5 = 1 := by kernel_rfl
  rw [hc]
  have := eqItems_b w 9998 xs ys (List.range 32) (fun i hi => by have := List.mem_range.1 hi; omega)
  rw [all_same xs ys 32 hx hy] at this
  exact this
theorem guard32 : Try.prog.eqGuardType Try.prog.depth 24 = false := by kernel_rfl
theorem abcX : hexB [186, 120, 22, 191, 143, 1, 207, 234, 65, 65, 64, 222, 93, 174, 34, 35, 176, 3, 97, 163, 150, 23, 122, 156, 180, 16, 255, 97, 242, 0, 21, 173] = [98, 97, 55, 56, 49, 54, 98, 102, 56, 102, 48, 49, 99, 102, 101, 97, 52, 49, 52, 49, 52, 48, 100, 101, 53, 100, 97, 101, 50, 50, 50, 51, 98, 48, 48, 51, 54, 49, 97, 51, 57, 54, 49, 55, 55, 97, 57, 99, 98, 52, 49, 48, 102, 102, 54, 49, 102, 50, 48, 48, 49, 53, 97, 100] := by decide +kernel
theorem wpList_load_rowG {P : Program} {ops : Array Oper} {rest : List Oper} {o : Oper} {a : Act} {w : World} {Q : Exit → Act → World → Prop} (hgd : Region.wanted o (yielded ops a.tmps) = true) (ty : TypeId) (x : Operand) (ho : o.op = .load ty x)
    (g : Nat) (hx : a.eval x = .pointer (some ⟨g, 0, none⟩)) (t : TypeId) (cs : Array Value) (fr : Nat × Nat) (d : TypeDesc) (hg : w.heap[g]? = some (.cells cs t fr))
    (hu : P.underlying ty = some d) (hd : (match d with | .struct _ | .array _ _ => true | _ => false) = true) (hi : (P.info? ty).map (·.size) = some cs.size)
    (h : wpList P ops Q rest (a.put o.dst (.agg cs)) w) : wpList P ops Q (o :: rest) a w := by
  refine wpList_step fun K hK => ?_
  rw [if_pos hgd]
  exact wp_load_row ty x ho g hx t cs fr d hg hu hd hi (hK _ _ h)
theorem hx8 : ((⟨#[98, 97, 55, 56, 49, 54, 98, 102, 56, 102, 48, 49, 99, 102, 101, 97, 52, 49, 52, 49, 52, 48, 100, 101, 53, 100, 97, 101, 50, 50, 50, 51, 98, 48, 48, 51, 54, 49, 97, 51, 57, 54, 49, 55, 55, 97, 57, 99, 98, 52, 49, 48, 102, 102, 54, 49, 102, 50, 48, 48, 49, 53, 97, 100]⟩ : ByteArray).extract 0 8).toList = [98, 97, 55, 56, 49, 54, 98, 102] := by decide +kernel
theorem Hex_abc (w : World) (A : Array Value) (hA : A = ((hashB [97, 98, 99]).map encB).toArray) : Calls Try.prog 12 #[.agg A] w fun e w' => e = .returned (.string ⟨#[98, 97, 55, 56, 49, 54, 98, 102, 56, 102, 48, 49, 99, 102, 101, 97, 52, 49, 52, 49, 52, 48, 100, 101, 53, 100, 97, 101, 50, 50, 50, 51, 98, 48, 48, 51, 54, 49, 97, 51, 57, 54, 49, 55, 55, 97, 57, 99, 98, 52, 49, 48, 102, 102, 54, 49, 102, 50, 48, 48, 49, 53, 97, 100]⟩) ∧ Below w.heap.size w w' := by
  have h := Hex_any w (hashB [97, 98, 99]) (hashB_length _)
  rw [← hA, habc, abcX] at h
  exact h
set_option maxHeartbeats 4000000 in
set_option maxRecDepth 100000 in
theorem fixed_any (w : World) : Calls Try.prog 6 #[] w fun e w' => e = .returned (.bool true) ∧ Below w.heap.size w w' := by
  have hal : Below w.heap.size w (w.alloc (.cells #[.int .u8 97, .int .u8 98, .int .u8 99] 5 (3, 4))) := (Below.refl _ _).alloc (Nat.le_refl _) _
  have HS := Lib.hid (SumB_any (w.alloc (.cells #[.int .u8 97, .int .u8 98, .int .u8 99] 5 (3, 4))) (some ⟨w.heap.size, 0, none⟩) 3 3 [97, 98, 99] (Sl.lit (heap_alloc_last w _) rfl rfl) (by omega) (by omega))
  obtain ⟨A, hA⟩ : ∃ A, A = ((hashB [97, 98, 99]).map encB).toArray := ⟨_, rfl⟩
  rw [← hA] at HS
  have HX := Lib.hid (fun w' => Hex_abc w' A hA)
  have hA2 := hA
  rw [habc] at hA2
  have HAC := Lib.hid (show A[0]? = some (.int .u8 186) ∧ A[1]? = some (.int .u8 120) ∧ A[2]? = some (.int .u8 22) ∧ A[3]? = some (.int .u8 191) ∧ A[31]? = some (.int .u8 173) by rw [hA2]; exact ⟨rfl, rfl, rfl, rfl, rfl⟩)
  have HAS := Lib.hid (show A.size = 32 by rw [hA]; simp [hashB_length])
  have HAO := Lib.hid (show A.all (·.oneCell') = true by rw [hA]; simp [encB, Value.oneCell'])
  have HB := Lib.hid hal
  clear hal hA hA2
  have kc := fun (w : World) (C : Array Value) (n c : Nat) => Lib.run_convert_bytes_const (P := Try.prog) w 22 5 C n c Try.underlying22 Try.underlying5
  go_enter Try.func6, Try.ntmps6
  go_wp2_with fail
  clear kc
  refine HS.out.mono ?_
  rintro e w1 ⟨rfl, hb1⟩
  have HB1 := Lib.hid (HB.out.trans (hb1.mono HB.out.size))
  clear hb1 HS HB
  go_upto_region 2 with (first
    | (refine wpList_store_new rfl _ _ _ rfl A rfl rfl _ _ (by rw [HAS.out]; exact info_out) (by rw [HAS.out]; rfl) HAO.out ?_))
  have hal : Below w1.heap.size w1 (w1.alloc (.cells A 24)) := (Below.refl _ _).alloc (Nat.le_refl _) _
  have hrow : (w1.alloc (.cells A 24)).heap[w1.heap.size]? = some (.cells A 24 (0, 0)) := heap_alloc_last w1 _
  have HR := Lib.hid hrow
  have HB2 := Lib.hid (HB1.out.trans (hal.mono HB1.out.size))
  clear hal hrow HB1
  generalize w1.alloc (.cells A 24) = w2 at *
  generalize w1.heap.size = g at *
  have HU := Lib.hid (Unhex_any w2 [120] (by decide))
  obtain ⟨Z, hZ⟩ : ∃ Z, Z = ((unhexV [120]).map encB).toArray := ⟨_, rfl⟩
  rw [← hZ, show unhexE [120] = 8 by decide] at HU
  have HZS := Lib.hid (show Z.size = 32 by rw [hZ]; simp [unhexV_length])
  have HZO := Lib.hid (show Z.all (·.oneCell') = true by rw [hZ]; simp [encB, Value.oneCell'])
  clear hZ
  go_wp2_with fail
  refine HU.out.mono ?_
  rintro e w3 ⟨rfl, hb3⟩
  have hrow3 : w3.heap[g]? = some (.cells A 24 (0, 0)) := by
    rw [hb3.block g (Array.getElem?_eq_some_iff.1 HR.out).1]
    exact HR.out
  have HB3 := Lib.hid (HB2.out.trans (hb3.mono HB2.out.size))
  clear HU HB2 HR hb3
  go_upto_region 3 with (first
    | (refine wpList_store_new rfl _ _ _ rfl Z rfl rfl _ _ (by rw [HZS.out]; exact info_out) (by rw [HZS.out]; rfl) HZO.out ?_))
  have hal : Below w3.heap.size w3 (w3.alloc (.cells Z 24)) := (Below.refl _ _).alloc (Nat.le_refl _) _
  have hrow4 : (w3.alloc (.cells Z 24)).heap[g]? = some (.cells A 24 (0, 0)) := by
    rw [hal.block g (Array.getElem?_eq_some_iff.1 hrow3).1]
    exact hrow3
  have HB4 := Lib.hid (HB3.out.trans (hal.mono HB3.out.size))
  clear hrow3 hal HB3
  generalize w3.alloc (.cells Z 24) = w4 at *
  obtain ⟨q0, q1, q2, q3, q31⟩ := HAC.out
  have c0 : w4.cell? ⟨g, 0, none⟩ = some (.int .u8 186) := by rw [cell_of_row w4 g 0 _ _ _ hrow4]; exact q0
  have c1 : w4.cell? ⟨g, 1, none⟩ = some (.int .u8 120) := by rw [cell_of_row w4 g 1 _ _ _ hrow4]; exact q1
  have c2 : w4.cell? ⟨g, 2, none⟩ = some (.int .u8 22) := by rw [cell_of_row w4 g 2 _ _ _ hrow4]; exact q2
  have c3 : w4.cell? ⟨g, 3, none⟩ = some (.int .u8 191) := by rw [cell_of_row w4 g 3 _ _ _ hrow4]; exact q3
  have c31 : w4.cell? ⟨g, 31, none⟩ = some (.int .u8 173) := by rw [cell_of_row w4 g 31 _ _ _ hrow4]; exact q31
  have HR4 := Lib.hid hrow4
  clear hrow4 q0 q1 q2 q3 q31
  go_wp2_with (refine wpList_load_rowG rfl _ _ rfl _ rfl _ _ _ _ HR4.out Try.underlying24 rfl (by rw [HAS.out]; exact info_out) ?_)
  refine (HX.out w4).mono ?_
  rintro e w5 ⟨rfl, hb5⟩
  go_wp2_with fail
  go_ret
  refine ⟨?_, HB4.out.trans (hb5.mono HB4.out.size)⟩
  show Ending.returned (.bool (((⟨#[98, 97, 55, 56, 49, 54, 98, 102, 56, 102, 48, 49, 99, 102, 101, 97, 52, 49, 52, 49, 52, 48, 100, 101, 53, 100, 97, 101, 50, 50, 50, 51, 98, 48, 48, 51, 54, 49, 97, 51, 57, 54, 49, 55, 55, 97, 57, 99, 98, 52, 49, 48, 102, 102, 54, 49, 102, 50, 48, 48, 49, 53, 97, 100]⟩ : ByteArray).extract 0 8).toList == [98, 97, 55, 56, 49, 54, 98, 102])) = _
  rw [hx8]
  rfl
end Go.Proofs.Ytkcpblfdmfkppaa
