/- jar: the fixed calls. No condition. -/
import Derived.Test.YtaedohlfcbppaaaJarPlain4
import Derived.Test.YtaedohlfcbppaaaJarPack
namespace Go.Proofs.Ytaedohlfcbppaaa
open Go.ChangeShapes Go.WideShapes Go.ChangeAt Go.RowKit
theorem jx1 : packR [] = (0, [67, 74, 48, 49, 0]) := by kernel_rfl
theorem jx2 : unpackR [67, 74, 48, 49, 1, 1, 97, 0, 0, 0, 0, 0, 0, 0, 0] = (0, [⟨[97], []⟩]) := by kernel_rfl
theorem jx3 : unpackR [] = (6, []) := by kernel_rfl
theorem one_iv {F : List IW} {x : IV} (h : F.map IW.iv = [x]) : ∃ f : IW, F = [f] ∧ f.iv = x := by
  match F, h with
  | [f], h => exact ⟨f, rfl, by simpa using h⟩
set_option maxRecDepth 100000 in
set_option maxHeartbeats 4000000 in
theorem fixed20 (w : World) : Calls Try.prog 7 #[] w fun e w' => e = .returned (.bool true) ∧ Below w.heap.size w w' := by
  have HP := Lib.hid (Pack_any w none 0 0 [] (Ss.nil _ _) (fun f hf => by cases hf) (by decide))
  rw [show ([] : List IW).map IW.iv = [] from rfl, jx1] at HP
  have kc := fun (w : World) (C : Array Value) (n c : Nat) => Lib.run_convert_bytes_const (P := Try.prog) w 22 5 C n c Try.underlying22 Try.underlying5
  go_enter Try.func7, Try.ntmps7
  go_wp2_with fail
  refine HP.out.mono ?_
  rintro e w1 ⟨a1, m1, c1, rfl, hs1, hc1, hb1⟩
  have HS1 := Lib.hid hs1
  have HB1 := Lib.hid hb1
  clear hs1 hb1
  have HU := Lib.hid (Unpack_any (w1.alloc (Obj.cells #[.int .u8 67, .int .u8 74, .int .u8 48, .int .u8 49, .int .u8 1, .int .u8 1, .int .u8 97, .int .u8 0, .int .u8 0, .int .u8 0, .int .u8 0, .int .u8 0, .int .u8 0, .int .u8 0, .int .u8 0] 5 (15, 16))) (some ⟨w1.heap.size, 0, none⟩) 15 15 [67, 74, 48, 49, 1, 1, 97, 0, 0, 0, 0, 0, 0, 0, 0] (Sl.lit (enc := encB) (heap_alloc_last w1 _) rfl rfl) (by decide) (by decide))
  rw [jx2] at HU
  go_wp2_with fail
  refine HU.out.mono ?_
  clear kc
  rintro e w2 ⟨v2, m2, F2, rfl, ho2, hf2, _, hb2⟩
  obtain ⟨f, rfl, hfi⟩ := one_iv hf2
  obtain ⟨a2, c2, rfl, hs2, hc2⟩ := Ss.ofOwn IW.cells_length (by decide) ho2
  obtain rfl : m2 = 1 := hs2.1.symm
  have hfn : f.name = [97] := congrArg IV.name hfi
  obtain ⟨b2, o2, g2, rfl, _, hg2, n0, n1⟩ := Im.at hs2 0 (by decide)
  simp at hg2
  subst hg2
  rw [hfn] at n0
  simp only [Nat.zero_mul, Nat.add_zero] at n0
  have hbb : Below w1.heap.size w1 w2 := ((Below.refl w1.heap.size w1).alloc (Nat.le_refl _) _).trans (hb2.mono (by simp))
  have HB2 := Lib.hid (HB1.out.trans (hbb.mono HB1.out.size))
  have HS2 := Lib.hid (HS1.out.below hbb)
  have HN0 := Lib.hid n0
  clear ho2 hf2 hb2 hs2 hfi hfn n0 n1 hbb
  have HV := Lib.hid (Unpack_any w2 none 0 0 [] (Sl.nil _ _) (by decide) (by decide))
  rw [jx3] at HV
  go_wp2_with fail
  refine HV.out.mono ?_
  rintro e w3 ⟨v3, m3, F3, rfl, ho3, _, _, hb3⟩
  obtain ⟨a3, c3, rfl, _, _⟩ := Ss.ofOwn IW.cells_length (by decide) ho3
  have HB3 := Lib.hid (HB2.out.trans (hb3.mono HB2.out.size))
  have n0 := cellS_below hb3 HN0.out
  have cv1 := run_conv (HS2.out.below hb3) c1
  clear ho3 hb3
  go_wp2_with fail
  go_ret
  exact ⟨rfl, HB3.out⟩
end Go.Proofs.Ytaedohlfcbppaaa
