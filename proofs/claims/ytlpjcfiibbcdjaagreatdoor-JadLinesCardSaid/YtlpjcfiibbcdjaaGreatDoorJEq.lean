/- == of versions and descriptors that are the same. No condition. -/
import Derived.Test.YtlpjcfiibbcdjaaGreatDoorJBack
import Derived.ChangeKeysEq
import Derived.Stop.BytesEq
namespace Go.Proofs.YtlpjcfiibbcdjaaGreatDoor
open Go.ChangeShapes Go.WideShapes Go.ChangeAt Go.RowKit
theorem cells_int : Tryz.prog.cellsOf 3 = 1 := by kernel_rfl
theorem info_intS : (Tryz.prog.info? 3).map (·.size) = some 1 := by kernel_rfl
theorem info_int : ∃ i, Tryz.prog.info? 3 = some i := by
  have h := info_intS
  cases hq : Tryz.prog.info? 3 with
  | none => rw [hq] at h; cases h
  | some i => exact ⟨i, rfl⟩
theorem part_one (t : TypeId) (cs : Array Value) (i : Nat) (w : World) (d' : TypeDesc) (h1 : Tryz.prog.underlying t = some d') (h2 : (match d' with | .struct _ | .array _ _ => false | _ => true) = true) (v : Value) (h3 : cs[i]? = some v) : (part t cs i).run Tryz.prog w = .ok v w := by
  cases d' <;> simp [part, isAgg, run_underlying h1, h3] at h2 ⊢
theorem eq3 (w : World) (d : Nat) (a b c : Int) : (Op.equalIn (d + 1 + 1) 23 (.agg #[.int .i64 a, .int .i64 b, .int .i64 c]) (.agg #[.int .i64 a, .int .i64 b, .int .i64 c])).run Tryz.prog w = .ok true w := by
  obtain ⟨i, hi⟩ := info_int
  rw [run_equalIn_array w (d + 1) _ _ Tryz.underlying23 hi, cells_int, show List.range 3 = [0, 1, 2] from rfl]
  have p : ∀ (k : Nat) (v : Value) (w : World), (#[.int .i64 a, .int .i64 b, .int .i64 c] : Array Value)[k]? = some v → (part 3 #[.int .i64 a, .int .i64 b, .int .i64 c] k).run Tryz.prog w = .ok v w := fun k v w h => part_one _ _ _ w _ Tryz.underlying3 rfl v h
  have p0 := fun w => p 0 _ w rfl
  have p1 := fun w => p 1 _ w rfl
  have p2 := fun w => p 2 _ w rfl
  clear p
  simp [Op.eqItems, p0, p1, p2, run_equalIn_int _ _ _ _ _ _ _ Tryz.underlying3]
theorem jad_fields : Tryz.prog.underlying JadT = some (.struct (Tryz.prog.fieldsOf JadT)) := by kernel_rfl
theorem jad_held : Tryz.prog.stoodInHeld JadT = false := by kernel_rfl
theorem jad_guard : Tryz.prog.eqGuardType Tryz.prog.depth JadT = false := by kernel_rfl
theorem ver_guard : Tryz.prog.eqGuardType Tryz.prog.depth 23 = false := by kernel_rfl
theorem jad_list : (Tryz.prog.fieldsOf JadT).toList.map (fun f => (f.name, f.type, f.offset)) = [("Name", 9, 0), ("Version", 23, 1), ("Main", 9, 4), ("Size", 3, 5), ("Hash", 24, 6)] := by kernel_rfl
theorem part_agg (t : TypeId) (cs : Array Value) (i n : Nat) (w : World) (d' : TypeDesc) (h1 : Tryz.prog.underlying t = some d') (h2 : (match d' with | .struct _ | .array _ _ => true | _ => false) = true) (hi : (Tryz.prog.info? t).map (·.size) = some n) (A : Array Value) (h3 : cs.extract i (i + n) = A) : (part t cs i).run Tryz.prog w = .ok (.agg A) w := by
  cases hq : Tryz.prog.info? t with
  | none => simp [hq] at hi
  | some x =>
    have hs : x.size = n := by simpa [hq] using hi
    cases d' <;> simp [part, isAgg, run_underlying h1, sizeOf, typeInfo, hq, hs, h3] at h2 ⊢
theorem u8_size (w : World) : (sizeOf 5).run Tryz.prog w = .ok 1 w := by
  have h : (Tryz.prog.info? 5).map (·.size) = some 1 := by kernel_rfl
  cases hq : Tryz.prog.info? 5 with
  | none => simp [hq] at h
  | some x =>
    have hs : x.size = 1 := by simpa [hq] using h
    simp [sizeOf, typeInfo, hq, hs]
theorem eqJ (w : World) (d : Nat) (j : JD) (hh : j.hash.length = 32) : (Op.equalIn (d + 1 + 1 + 1) JadT (.agg j.cells.toArray) (.agg j.cells.toArray)).run Tryz.prog w = .ok true w := by
  rw [run_equalIn_struct w (d + 1 + 1) _ _ _ jad_fields jad_held]
  have hl := jad_list
  generalize (Tryz.prog.fieldsOf JadT).toList = L at hl ⊢
  rcases L with _ | ⟨f0, _ | ⟨f1, _ | ⟨f2, _ | ⟨f3, _ | ⟨f4, _ | ⟨f5, L⟩⟩⟩⟩⟩⟩ <;> simp only [List.map_cons, List.map_nil, List.cons.injEq, reduceCtorEq, and_false, false_and, Prod.mk.injEq, and_true] at hl
  · obtain ⟨⟨n0, t0, o0⟩, ⟨n1, t1, o1⟩, ⟨n2, t2, o2⟩, ⟨n3, t3, o3⟩, ⟨n4, t4, o4⟩⟩ := hl
    have p0 := fun w => part_one 9 j.cells.toArray 0 w _ Tryz.underlying9 rfl (.string ⟨j.name.toArray⟩) (by simp [JD.cells])
    have p2 := fun w => part_one 9 j.cells.toArray 4 w _ Tryz.underlying9 rfl (.string ⟨j.main.toArray⟩) (by simp [JD.cells])
    have p3 := fun w => part_one 3 j.cells.toArray 5 w _ Tryz.underlying3 rfl (.int .i64 j.size) (by simp [JD.cells])
    have p1 := fun w => part_agg 23 j.cells.toArray 1 3 w _ Tryz.underlying23 rfl info_ver #[.int .i64 j.a, .int .i64 j.b, .int .i64 j.c] (by simp [JD.cells])
    have p4 := fun w => part_agg 24 j.cells.toArray 6 32 w _ Tryz.underlying24 rfl info_out (j.hash.map encB).toArray (by
      have : (j.hash.map encB).length = 32 := by rw [List.length_map, hh]
      simp [JD.cells]
      rw [List.take_of_length_le (by simp [hh])])
    have e4 := fun w => run_equalIn_bytes (P := Tryz.prog) w d 24 5 32 Tryz.underlying24 Tryz.underlying5 u8_size j.hash j.hash hh hh
    have e1 := fun w => eq3 w d j.a j.b j.c
    simp only [Op.eqFields, n0, n1, n2, n3, n4, t0, t1, t2, t3, t4, o0, o1, o2, o3, o4, ne_eq]
    simp [p0, p1, p2, p3, p4, run_equalIn_int _ _ _ _ _ _ _ Tryz.underlying3, run_equalIn_string _ _ _ _ _ Tryz.underlying9, e1]
    have e5 := fun w => (show (Op.equalIn (d + 1 + 1) 24 (.agg (j.hash.map encB).toArray) (.agg (j.hash.map encB).toArray)).run Tryz.prog w = .ok true w by have h := e4 w; rw [show (j.hash == j.hash) = true by simp] at h; exact h)
    simp [e5]
end Go.Proofs.YtlpjcfiibbcdjaaGreatDoor
