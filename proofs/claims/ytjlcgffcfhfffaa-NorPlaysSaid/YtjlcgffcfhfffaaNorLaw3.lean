/- nor: a nil flash. No condition. -/
import Derived.Test.YtjlcgffcfhfffaaNorLaw2
namespace Go.Proofs.Ytjlcgffcfhfffaa
open Go.ChangeShapes Go.WideShapes Go.ChangeAt Go.RowKit
set_option maxRecDepth 100000 in
set_option maxHeartbeats 1000000 in
theorem Fuse_nil (w : World) (n keep m : Int) : Calls Try.prog 15 #[.pointer none, .int .i64 n, .agg #[.int .i64 keep, .int .u8 m]] w fun e w' => e = .returned (.tuple #[]) ∧ Below w.heap.size w w' := by
  have hb : Below w.heap.size w (w.alloc (.cells #[.int .i64 keep, .int .u8 m] 39)) := (Below.refl _ _).alloc (Nat.le_refl _) _
  go_enter Try.func15, Try.ntmps15
  go_wp2_with fail
  go_end0
  exact ⟨rfl, hb⟩
set_option maxRecDepth 100000 in
set_option maxHeartbeats 1000000 in
theorem Reset_nil (w : World) : Calls Try.prog 16 #[.pointer none] w fun e w' => e = .returned (.tuple #[]) ∧ w = w' := by
  go_enter Try.func16, Try.ntmps16
  go_wp2_with fail
  go_end0
  exact ⟨rfl, rfl⟩
set_option maxRecDepth 100000 in
set_option maxHeartbeats 1000000 in
theorem span_nil (w : World) (p n : Int) : Calls Try.prog 25 #[.pointer none, .int .i64 p, .int .i64 n] w fun e w' => e = .returned (.tuple #[.slice none 0 0, .int .i64 5]) ∧ w = w' := by
  go_enter Try.func25, Try.ntmps25
  go_wp2_with fail
  go_ret2
  exact ⟨rfl, rfl⟩
def NilRead (w : World) (e : Ending) (w' : World) : Prop := ∃ a m c, e = .returned (.tuple #[.slice a m c, .int .i64 5]) ∧ Below w.heap.size w w'
set_option maxRecDepth 100000 in
set_option maxHeartbeats 1000000 in
theorem Read_nil (w : World) (p n : Int) : Calls Try.prog 14 #[.pointer none, .int .i64 p, .int .i64 n] w (NilRead w) := by
  go_enter Try.func14, Try.ntmps14
  go_wp2_with fail
  with_reducible refine (span_nil w p n).mono ?_
  rintro e w1 ⟨rfl, rfl⟩
  go_wp2_with fail
  refine (Clone_any w none 0 0 [] (Sl.nil _ _) (by omega)).mono ?_
  rintro e w2 ⟨v2, m2, rfl, hown, hb⟩
  obtain ⟨a2, c2, rfl, _, _⟩ := Sl.ofOwn hown
  go_wp2_with fail
  go_ret2
  exact ⟨a2, m2, c2, rfl, hb⟩
set_option maxRecDepth 100000 in
set_option maxHeartbeats 1000000 in
theorem Program_nil (w : World) (p : Int) (a : Option Addr) (n cap : Nat) : Calls Try.prog 11 #[.pointer none, .int .i64 p, .slice a n cap] w fun e w' => e = .returned (.int .i64 5) ∧ w = w' := by
  go_enter Try.func11, Try.ntmps11
  go_wp2_with fail
  with_reducible refine (span_nil w p n).mono ?_
  rintro e w1 ⟨rfl, rfl⟩
  go_wp2_with fail
  go_ret
  exact ⟨rfl, rfl⟩
set_option maxRecDepth 100000 in
set_option maxHeartbeats 1000000 in
theorem Erase_nil (w : World) (s : Int) : Calls Try.prog 13 #[.pointer none, .int .i64 s] w fun e w' => e = .returned (.int .i64 5) ∧ w = w' := by
  go_enter Try.func13, Try.ntmps13
  go_wp2_with fail
  go_ret
  exact ⟨rfl, rfl⟩
set_option maxRecDepth 100000 in
set_option maxHeartbeats 1000000 in
theorem Erases_nil (w : World) (s : Int) : Calls Try.prog 12 #[.pointer none, .int .i64 s] w fun e w' => e = .returned (.int .i64 0) ∧ w = w' := by
  go_enter Try.func12, Try.ntmps12
  go_wp2_with fail
  go_ret
  exact ⟨rfl, rfl⟩
set_option maxRecDepth 100000 in
set_option maxHeartbeats 1000000 in
theorem Geometry_nil (w : World) : Calls Try.prog 22 #[.pointer none] w fun e w' => e = .returned (.agg #[.int .i64 0, .int .i64 0, .int .i64 0]) ∧ Below w.heap.size w w' := by
  go_enter Try.func22, Try.ntmps22
  go_wp2_with fail
  exact bodyPost_ret (results_cell_row rfl _ _ w.heap.size _ _ _ _ rfl (heap_alloc_last w _) Try.underlying25 rfl infoGeo) rfl ⟨rfl, (Below.refl _ _).alloc (Nat.le_refl _) _⟩
set_option maxRecDepth 100000 in
set_option maxHeartbeats 4000000 in
theorem walk_NorNil (p n : Int) (a : Option Addr) (len cap : Nat) (z : List Int) (keep : Int) (mask : UInt8) (w : World) (hp : (Lit.int .i64 p).wf = true) (hn : (Lit.int .i64 n).wf = true) (h0 : IsRow .u8 w a len cap z) (hk : (Lit.int .i64 keep).wf = true) :
    Calls Try.prog 7 #[.int .i64 p, .int .i64 n, .slice a len cap, .agg #[.int .i64 keep, .int .u8 (mask.toNat : Int)]] w fun e w' => e = .returned (.bool true) ∧ Below w.heap.size w w' := by
  have hb0 : Below w.heap.size w (w.alloc (.cells #[.int .i64 keep, .int .u8 (mask.toNat : Int)] 39)) := (Below.refl _ _).alloc (Nat.le_refl _) _
  have hbx : ∀ w', Below (w.alloc (.cells #[.int .i64 keep, .int .u8 (mask.toNat : Int)] 39)).heap.size (w.alloc (.cells #[.int .i64 keep, .int .u8 (mask.toNat : Int)] 39)) w' → BoxS w.heap.size (.int .i64 keep) (.int .u8 (mask.toNat : Int)) w' := by
    intro w' h
    constructor
    · rw [h.cell (by simp), cell_of_row _ w.heap.size 0 _ _ _ (heap_alloc_last w _)]; rfl
    · rw [h.cell (by simp), cell_of_row _ w.heap.size 1 _ _ _ (heap_alloc_last w _)]; rfl
  have HB0 := Lib.hid hb0
  have HBX := Lib.hid hbx
  clear hb0 hbx hp hn hk h0
  generalize hW0 : w.alloc (.cells #[.int .i64 keep, .int .u8 (mask.toNat : Int)] 39) = W0 at HB0 HBX
  have FX := Lib.hid (fixed_any W0)
  go_enter Try.func7, Try.ntmps7
  go_upto_region 1 with fail
  clear hW0
  go_wp2_with fail
  with_reducible refine FX.out.mono ?_
  rintro e w1 ⟨rfl, hb⟩
  have HA := Lib.hid hb
  obtain ⟨b1, b2⟩ := HBX.out w1 hb
  clear hb FX
  go_wp2_with fail
  with_reducible refine (Fuse_nil w1 _ _ _).mono ?_
  rintro e w2 ⟨rfl, hb⟩
  replace HA := Lib.hid (HA.out.trans (hb.mono HA.out.size))
  clear hb b1 b2
  go_wp2_with fail
  with_reducible refine (Reset_nil w2).mono ?_
  rintro e w3 ⟨rfl, rfl⟩
  go_wp2_with fail
  with_reducible refine (Read_nil w2 _ _).mono ?_
  rintro e w3 ⟨a3, m3, c3, rfl, hb⟩
  replace HA := Lib.hid (HA.out.trans (hb.mono HA.out.size))
  clear hb
  go_wp2_with fail
  with_reducible refine (Program_nil w3 _ _ _ _).mono ?_
  rintro e w4 ⟨rfl, rfl⟩
  go_wp2_with fail
  with_reducible refine (Erase_nil w3 _).mono ?_
  rintro e w4 ⟨rfl, rfl⟩
  go_wp2_with fail
  with_reducible refine (Erases_nil w3 _).mono ?_
  rintro e w4 ⟨rfl, rfl⟩
  go_wp2_with fail
  with_reducible refine (Geometry_nil w3).mono ?_
  rintro e w4 ⟨rfl, hb⟩
  replace HA := Lib.hid (HA.out.trans (hb.mono HA.out.size))
  clear hb
  have he : ∀ w', (binOp .eql 25 (.agg #[.int .i64 0, .int .i64 0, .int .i64 0]) (.agg #[.int .i64 0, .int .i64 0, .int .i64 0])).run Try.prog w' = .ok (.bool true) w' := fun _ => by kernel_rfl
  go_wp2_with fail
  go_ret
  exact ⟨rfl, HB0.out.trans (HA.out.mono HB0.out.size)⟩
end Go.Proofs.Ytjlcgffcfhfffaa
