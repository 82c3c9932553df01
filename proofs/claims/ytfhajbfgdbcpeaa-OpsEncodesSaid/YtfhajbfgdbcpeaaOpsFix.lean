/- ops: the law's fixed calls; OpsForms. No condition. -/
import Derived.Test.YtfhajbfgdbcpeaaOpsFn7
import Derived.Laws.StructEq
namespace Go.Proofs.Ytfhajbfgdbcpeaa
open Go.ChangeShapes Go.WideShapes Go.ChangeAt Go.RowKit
theorem raw_fields : Try.prog.underlying 36 = some (.struct (Try.prog.fieldsOf 36)) := by kernel_rfl
theorem raw_held : Try.prog.stoodInHeld 36 = false := by kernel_rfl
theorem raw_guard : Try.prog.eqGuardType Try.prog.depth 36 = false := by kernel_rfl
theorem raw_list : (Try.prog.fieldsOf 36).toList.map (fun f => (f.name, f.type, f.offset)) = [("At", 3, 0), ("Op", 5, 1), ("A", 3, 2), ("B", 3, 3)] := by kernel_rfl
/-- Are two instructions the same? -/
def sameR (c d : RW) : Bool := decide (c.pos = d.pos ∧ c.op = d.op ∧ c.a = d.a ∧ c.b = d.b)
theorem run_equalR (w : World) (d : Nat) (x y : RW) : (Op.equalIn (d + 1 + 1) 36 (.agg #[.int .i64 x.pos, .int .u8 (x.op : Nat), .int .i64 x.a, .int .i64 x.b]) (.agg #[.int .i64 y.pos, .int .u8 (y.op : Nat), .int .i64 y.a, .int .i64 y.b])).run Try.prog w = .ok (sameR x y) w := by
  rw [run_equalIn_struct w (d + 1) _ _ _ raw_fields raw_held]
  have hl := raw_list
  match hf : (Try.prog.fieldsOf 36).toList, hl with
  | [f0, f1, f2, f3], hl =>
    simp only [List.map_cons, List.map_nil, List.cons.injEq, Prod.mk.injEq, and_true] at hl
    obtain ⟨⟨n0, t0, o0⟩, ⟨n1, t1, o1⟩, ⟨n2, t2, o2⟩, ⟨n3, t3, o3⟩⟩ := hl
    simp only [Op.eqFields, n0, n1, n2, n3, t0, t1, t2, t3, o0, o1, o2, o3]
    have i0 : ∀ (i : Nat) (cs : Array Value) (w : World) (h : i < cs.size), (part 3 cs i).run Try.prog w = .ok cs[i] w := fun i cs w h => part_plain Try.underlying3 rfl w cs i _ (Array.getElem?_eq_getElem h)
    have i1 : ∀ (i : Nat) (cs : Array Value) (w : World) (h : i < cs.size), (part 5 cs i).run Try.prog w = .ok cs[i] w := fun i cs w h => part_plain Try.underlying5 rfl w cs i _ (Array.getElem?_eq_getElem h)
    by_cases g0 : x.pos = y.pos
    · by_cases g1 : x.op = y.op
      · by_cases g2 : x.a = y.a
        · simp [i0, i1, run_equalIn_int _ _ _ _ _ _ _ Try.underlying3, run_equalIn_int _ _ _ _ _ _ _ Try.underlying5, g0, g1, g2, sameR]
          by_cases g3 : x.b = y.b <;> simp [g3]
        · simp [i0, i1, run_equalIn_int _ _ _ _ _ _ _ Try.underlying3, run_equalIn_int _ _ _ _ _ _ _ Try.underlying5, g0, g1, g2, sameR]
      · have g1' : ((x.op : Int) == (y.op : Int)) = false := by simp; omega
        simp [i0, i1, run_equalIn_int _ _ _ _ _ _ _ Try.underlying3, run_equalIn_int _ _ _ _ _ _ _ Try.underlying5, g0, g1, sameR]
        omega
    · simp [i0, run_equalIn_int _ _ _ _ _ _ _ Try.underlying3, g0, sameR]
  | [], hl | [_], hl | [_, _], hl | [_, _, _], hl | _ :: _ :: _ :: _ :: _ :: _, hl => simp at hl
theorem fx1 : decodeR [132, 1, 255] = (0, [⟨0, 132, 1, -1⟩]) := by kernel_rfl
theorem fx2 : decodeR [255] = (8, []) := by kernel_rfl
theorem fx3 : encodeR [⟨0, 167, 1, 0⟩] = (2, []) := by kernel_rfl
set_option maxRecDepth 100000 in
set_option maxHeartbeats 4000000 in
theorem fixed13 (w : World) : Calls Try.prog 7 #[] w (QuietRet (.bool true) w) := by
  have HS1 := Lib.hid (show Sl encB (w.alloc (.cells #[.int .u8 132, .int .u8 1, .int .u8 255] 5)) (some ⟨w.heap.size, 0, none⟩) 3 [132, 1, 255] from Sl.lit (heap_alloc_last w _) rfl rfl)
  have HD1 := Lib.hid (Decode_any _ _ 3 3 _ HS1.out (by decide) (by decide))
  rw [fx1] at HD1
  go_enter Try.func7, Try.ntmps7
  go_wp2_with fail
  refine HD1.out.mono ?_
  rintro e w1 ⟨v1, m1, rfl, ho1, _, hb1⟩
  obtain ⟨a1, c1, rfl, hs1, hc1⟩ := Ss.ofOwn RW.cells_length (by decide) ho1
  obtain rfl : m1 = 1 := hs1.1.symm
  have HR1 := Lib.hid hs1
  have HB1 := Lib.hid (((Below.refl w.heap.size w).alloc (Nat.le_refl _) (.cells #[.int .u8 132, .int .u8 1, .int .u8 255] 5)).trans (hb1.mono (by simp)))
  clear ho1 hs1 hb1
  have HS2 := Lib.hid (show Sl encB (w1.alloc (.cells #[.int .u8 255] 5)) (some ⟨w1.heap.size, 0, none⟩) 1 [255] from Sl.lit (heap_alloc_last w1 _) rfl rfl)
  have HD2 := Lib.hid (Decode_any _ _ 1 1 _ HS2.out (by decide) (by decide))
  rw [fx2] at HD2
  go_wp2_with fail
  refine HD2.out.mono ?_
  rintro e w2 ⟨v2, m2, rfl, ho2, _, hb2⟩
  have hb12 : Below w1.heap.size w1 w2 := ((Below.refl w1.heap.size w1).alloc (Nat.le_refl _) (.cells #[.int .u8 255] 5)).trans (hb2.mono (by simp))
  have HR2 := Lib.hid (HR1.out.below hb12)
  have HB2 := Lib.hid (HB1.out.trans (hb12.mono HB1.out.size))
  clear ho2 hb2 hb12
  have HS3 := Lib.hid (show Rs (w2.alloc (.cells #[.int .i64 0, .int .u8 167, .int .i64 1, .int .i64 0] 36)) (some ⟨w2.heap.size, 0, none⟩) 1 [⟨0, 167, 1, 0⟩] from Ss.lit RW.cells_length (heap_alloc_last w2 _) rfl rfl)
  have HD3 := Lib.hid (Encode_any _ _ 1 1 _ HS3.out (by decide) (fun r hr => by rw [List.mem_singleton.1 hr]; exact ⟨intRo_of (by decide), intRo_of (by decide), by decide⟩))
  rw [fx3] at HD3
  go_wp2_with fail
  refine HD3.out.mono ?_
  rintro e w3 ⟨a3, m3, c3, rfl, _, _, hb3⟩
  have hb23 : Below w2.heap.size w2 w3 := ((Below.refl w2.heap.size w2).alloc (Nat.le_refl _) (.cells #[.int .i64 0, .int .u8 167, .int .i64 1, .int .i64 0] 36)).trans (hb3.mono (by simp))
  obtain ⟨b, off, r, rfl, _, hr, q⟩ := Rs.at (HR2.out.below hb23) 0 (by decide)
  simp only [List.getElem?_cons_zero, Option.some.injEq] at hr
  subst hr
  obtain ⟨q0, q1, q2, q3⟩ := q
  simp only [Nat.zero_mul, Nat.add_zero] at q0 q1 q2 q3
  have HB3 := Lib.hid (HB2.out.trans (hb23.mono HB2.out.size))
  have HL := Lib.hid (Len_any w3 167 (by decide))
  rw [show sizeN (formN 167) = 3 from rfl] at HL
  have hq := run_equalR w3 9998 ⟨0, 132, 1, -1⟩ ⟨0, 132, 1, -1⟩
  rw [show sameR ⟨0, 132, 1, -1⟩ ⟨0, 132, 1, -1⟩ = true from rfl] at hq
  have hgd := raw_guard
  clear hb3 hb23
  go_wp2_with fail
  refine HL.out.mono ?_
  rintro e w4 ⟨rfl, hb4⟩
  have HB4 := Lib.hid (HB3.out.trans (hb4.mono HB3.out.size))
  clear hb4
  go_wp2_with fail
  go_ret
  exact ⟨rfl, HB4.out⟩
end Go.Proofs.Ytfhajbfgdbcpeaa
