/- image: ImageNext. No condition. -/
import Derived.Test.YtbcldlbmbdfejaaImgFix
import Derived.Test.YtbcldlbmbdfejaaBits
namespace Go.Proofs.Ytbcldlbmbdfejaa
open Go.ChangeShapes Go.WideShapes Go.ChangeAt Go.RowKit
theorem link_fields : Try.prog.underlying 54 = some (.struct (Try.prog.fieldsOf 54)) := by kernel_rfl
theorem link_held : Try.prog.stoodInHeld 54 = false := by kernel_rfl
theorem link_guard : Try.prog.eqGuardType Try.prog.depth 54 = false := by kernel_rfl
theorem link_list : (Try.prog.fieldsOf 54).toList.map (fun f => (f.name, f.type, f.offset)) = [("Op", 5, 0), ("A", 3, 1), ("B", 3, 2), ("N", 2, 3)] := by kernel_rfl
/-- Are two instructions the same? -/
def sameL (c d : LK) : Bool := decide (c.op = d.op ∧ c.a = d.a ∧ c.b = d.b ∧ c.n = d.n)
theorem sameL_self (c : LK) : sameL c c = true := decide_eq_true ⟨rfl, rfl, rfl, rfl⟩
theorem run_equalL (w : World) (d : Nat) (x y : LK) : (Op.equalIn (d + 1 + 1) 54 (.agg #[.int .u8 (x.op : Nat), .int .i64 x.a, .int .i64 x.b, .int .i64 x.n]) (.agg #[.int .u8 (y.op : Nat), .int .i64 y.a, .int .i64 y.b, .int .i64 y.n])).run Try.prog w = .ok (sameL x y) w := by
  rw [run_equalIn_struct w (d + 1) _ _ _ link_fields link_held]
  have hl := link_list
  match hf : (Try.prog.fieldsOf 54).toList, hl with
  | [f0, f1, f2, f3], hl =>
    simp only [List.map_cons, List.map_nil, List.cons.injEq, Prod.mk.injEq, and_true] at hl
    obtain ⟨⟨n0, t0, o0⟩, ⟨n1, t1, o1⟩, ⟨n2, t2, o2⟩, ⟨n3, t3, o3⟩⟩ := hl
    simp only [Op.eqFields, n0, n1, n2, n3, t0, t1, t2, t3, o0, o1, o2, o3]
    have i0 : ∀ (i : Nat) (cs : Array Value) (w : World) (h : i < cs.size), (part 3 cs i).run Try.prog w = .ok cs[i] w := fun i cs w h => part_plain Try.underlying3 rfl w cs i _ (Array.getElem?_eq_getElem h)
    have i1 : ∀ (i : Nat) (cs : Array Value) (w : World) (h : i < cs.size), (part 5 cs i).run Try.prog w = .ok cs[i] w := fun i cs w h => part_plain Try.underlying5 rfl w cs i _ (Array.getElem?_eq_getElem h)
    have i2 : ∀ (i : Nat) (cs : Array Value) (w : World) (h : i < cs.size), (part 2 cs i).run Try.prog w = .ok cs[i] w := fun i cs w h => part_plain Try.underlying2 rfl w cs i _ (Array.getElem?_eq_getElem h)
    by_cases g0 : x.op = y.op
    · by_cases g1 : x.a = y.a
      · by_cases g2 : x.b = y.b
        · simp [i0, i1, i2, run_equalIn_int _ _ _ _ _ _ _ Try.underlying3, run_equalIn_int _ _ _ _ _ _ _ Try.underlying5, run_equalIn_int _ _ _ _ _ _ _ Try.underlying2, g0, g1, g2, sameL]
          by_cases g3 : x.n = y.n <;> simp [g3]
        · simp [i0, i1, run_equalIn_int _ _ _ _ _ _ _ Try.underlying3, run_equalIn_int _ _ _ _ _ _ _ Try.underlying5, g0, g1, g2, sameL]
      · simp [i0, i1, run_equalIn_int _ _ _ _ _ _ _ Try.underlying3, run_equalIn_int _ _ _ _ _ _ _ Try.underlying5, g0, g1, sameL]
    · have g0' : ((x.op : Int) == (y.op : Int)) = false := by simp; omega
      simp [i0, i1, run_equalIn_int _ _ _ _ _ _ _ Try.underlying3, run_equalIn_int _ _ _ _ _ _ _ Try.underlying5, g0, sameL]
      omega
  | [], hl | [_], hl | [_, _], hl | [_, _, _], hl | _ :: _ :: _ :: _ :: _ :: _, hl => simp at hl
/-- Both answer Next alike. -/
theorem Next_any (w : World) (a : Option Addr) (n cap : Nat) (bs : List UInt8) (p : Int) (hs : Sl encB w a n bs) (hn : n ≤ 1048576) (hcap : n ≤ cap) (hp : IntR p) :
    Calls Try.prog 18 #[.slice a n cap, .int .i64 p] w fun e w' => e = .returned (NextR.ret (nextR bs p)) ∧ Below w.heap.size w w' := by
  by_cases h : p < 0 ∨ (n : Int) ≤ p
  · rw [show nextR bs p = ⟨0, 0, 0, 0, 0, 2⟩ by unfold nextR; rw [if_pos (by rw [hs.1]; exact h)]]
    exact Next_out w a n cap bs p hs hn hp h
  · obtain ⟨q, rfl⟩ : ∃ q : Nat, p = (q : Int) := ⟨p.toNat, by omega⟩
    exact Next_in w a n cap bs q hs hn hcap (by omega)
theorem refNext_any (w : World) (a : Option Addr) (n cap : Nat) (bs : List UInt8) (p : Int) (hs : Sl encB w a n bs) (hn : n ≤ 1048576) (hcap : n ≤ cap) (hp : IntR p) :
    Calls Try.prog 19 #[.slice a n cap, .int .i64 p] w fun e w' => e = .returned (NextR.ret (nextR bs p)) ∧ Below w.heap.size w w' := by
  by_cases h : p < 0 ∨ (n : Int) ≤ p
  · rw [show nextR bs p = ⟨0, 0, 0, 0, 0, 2⟩ by unfold nextR; rw [if_pos (by rw [hs.1]; exact h)]]
    exact refNext_out w a n cap bs p hs hn hp h
  · obtain ⟨q, rfl⟩ : ∃ q : Nat, p = (q : Int) := ⟨p.toNat, by omega⟩
    exact refNext_in w a n cap bs q hs hn hcap (by omega)
set_option maxRecDepth 100000 in
set_option maxHeartbeats 8000000 in
theorem walk_ImageNext (a : Option Addr) (n cap : Nat) (z : List Int) (p : Int) (w : World) (h : IsRow .u8 w a n cap z) (hp : (Lit.int .i64 p).wf = true) :
    Calls Try.prog 6 #[.slice a n cap, .int .i64 p] w fun e w' => e = .returned (.bool true) ∧ Below w.heap.size w w' := by
  have hcap := Row.cap h
  obtain ⟨bs, hb, _⟩ := Bs.ofRow h
  have hs : Sl encB w a n bs := hb.sl
  have hpr : IntR p := by have h0 := bounds_i64 hp; unfold IntR; omega
  have HS := Lib.hid hs
  clear hs hb h hp
  have HF := Lib.hid (fixed25 w)
  unfold QuietRet at HF
  go_enter Try.func6, Try.ntmps6
  go_wp2_with fail
  refine HF.out.mono ?_
  rintro e w1 ⟨rfl, hb1⟩
  have HB1 := Lib.hid hb1
  clear hb1 HF
  by_cases h2 : 2000 < n
  · have ed : decide ((2000 : Int) < n) = true := by simp; omega
    clear h2
    go_wp2_with fail
    go_ret
    exact ⟨rfl, HB1.out⟩
  have ed : decide ((2000 : Int) < n) = false := by simp; omega
  have HN1 := Lib.hid (fun w' (h : Below w.heap.size w w') => Next_any w' a n cap bs p (HS.out.below h) (by omega) hcap hpr)
  have HN2 := Lib.hid (fun w' (h : Below w.heap.size w w') => refNext_any w' a n cap bs p (HS.out.below h) (by omega) hcap hpr)
  generalize nextR bs p = r at *
  obtain ⟨k, x, y, z', sz, er⟩ := r
  unfold NextR.ret LinkV at HN1 HN2
  simp only at HN1 HN2
  clear h2
  go_wp2_with fail
  refine (HN1.out w1 HB1.out).mono ?_
  rintro e w2 ⟨rfl, hb2⟩
  have HB2 := Lib.hid (HB1.out.trans (hb2.mono HB1.out.size))
  clear hb2
  go_upto_region 6 with fail
  have hal : Below w2.heap.size w2 (w2.alloc (.cells #[.int .u8 (k : Nat), .int .i64 x, .int .i64 y, .int .i64 z'] 54)) := (Below.refl _ _).alloc (Nat.le_refl _) _
  have HX := Lib.hid (show Blk4 (w2.alloc (.cells #[.int .u8 (k : Nat), .int .i64 x, .int .i64 y, .int .i64 z'] 54)) w2.heap.size (.int .u8 (k : Nat)) (.int .i64 x) (.int .i64 y) (.int .i64 z') 54 from heap_alloc_last w2 _)
  have HB3 := Lib.hid (HB2.out.trans (hal.mono HB2.out.size))
  clear hal HB2
  generalize w2.alloc (.cells #[.int .u8 (k : Nat), .int .i64 x, .int .i64 y, .int .i64 z'] 54) = w3 at *
  generalize w2.heap.size = g1 at *
  go_wp2_with fail
  refine (HN2.out w3 HB3.out).mono ?_
  rintro e w4 ⟨rfl, hb4⟩
  have HB4 := Lib.hid (HB3.out.trans (hb4.mono HB3.out.size))
  have HX4 := Lib.hid (HX.out.below hb4)
  clear hb4 HX HB3
  go_upto_region 7 with fail
  have hal : Below w4.heap.size w4 (w4.alloc (.cells #[.int .u8 (k : Nat), .int .i64 x, .int .i64 y, .int .i64 z'] 54)) := (Below.refl _ _).alloc (Nat.le_refl _) _
  have HY := Lib.hid (show Blk4 (w4.alloc (.cells #[.int .u8 (k : Nat), .int .i64 x, .int .i64 y, .int .i64 z'] 54)) w4.heap.size (.int .u8 (k : Nat)) (.int .i64 x) (.int .i64 y) (.int .i64 z') 54 from heap_alloc_last w4 _)
  have HX5 := Lib.hid (HX4.out.below hal)
  have HB5 := Lib.hid (HB4.out.trans (hal.mono HB4.out.size))
  clear hal HB4 HX4
  generalize w4.alloc (.cells #[.int .u8 (k : Nat), .int .i64 x, .int .i64 y, .int .i64 z'] 54) = w5 at *
  generalize w4.heap.size = g2 at *
  obtain ⟨c0, c1, c2, c3, f0, f1, f2, f3, lt4⟩ := HX5.out.box
  obtain ⟨d0, d1, d2, d3, i0, i1, i2, i3, lt5⟩ := HY.out.box
  have hq := run_equalL w5 9998 ⟨k, x, y, z'⟩ ⟨k, x, y, z'⟩
  rw [sameL_self] at hq
  have hgd := link_guard
  go_wp2_with fail
  go_ret
  exact ⟨rfl, HB5.out⟩
end Go.Proofs.Ytbcldlbmbdfejaa
