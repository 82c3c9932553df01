/- image: the law's fixed calls. No condition. -/
import Derived.Test.YtbcldlbmbdfejaaQ10ImageCuts
import Derived.Test.YtbcldlbmbdfejaaQ18ImageCuts
import Derived.Laws.StructEq
import Derived.Test.YtbcldlbmbdfejaaQ01ImageCuts
import Derived.Test.YtbcldlbmbdfejaaQ12ImageCuts
import Derived.Test.YtbcldlbmbdfejaaQ14ImageCuts
namespace Go.Proofs.Ytbcldlbmbdfejaa
open Go.ChangeShapes Go.WideShapes Go.ChangeAt Go.RowKit
def b18 : List UInt8 := [67, 73, 48, 49, 0, 0, 0, 0, 0, 0, 0, 0, 0, 0, 0, 0, 0, 0]
theorem fxB : imgBytes x0W [] = (0, b18) := by kernel_rfl
theorem fxP : parseR b18 = (xp0, 0) := by kernel_rfl
theorem fxL1 : lkOk [⟨177, 0, 0, 0⟩] = true := by kernel_rfl
theorem fxL2 : lkB [⟨177, 0, 0, 0⟩] = [177] := by kernel_rfl
theorem fxL3 : placesL [⟨177, 0, 0, 0⟩] = [0, 1] := by kernel_rfl
theorem fxL4 : lkOk [⟨255, 0, 0, 0⟩] = false := by kernel_rfl
theorem x0W_right : x0W.Right := by
  have h0 : IntR 0 := by unfold IntR; omega
  exact ⟨h0, h0, (fun c hc => by cases hc), (fun c hc => by cases hc), (fun c hc => by cases hc), (fun c hc => by cases hc), by decide, by decide, by decide, by decide, by decide, (fun k hk => by cases hk)⟩
theorem LK.right0 (k : Nat) (h : k < 256) : (⟨k, 0, 0, 0⟩ : LK).right := by
  have h0 : IntR 0 := by unfold IntR; omega
  exact ⟨h, h0, h0, h0⟩
set_option maxRecDepth 100000 in
set_option maxHeartbeats 8000000 in
theorem fixed25 (w : World) : Calls Try.prog 7 #[] w (QuietRet (.bool true) w) := by
  have HS1 := Lib.hid (show Ls (w.alloc (.cells #[.int .u8 177, .int .i64 0, .int .i64 0, .int .i64 0] 54)) (some ⟨w.heap.size, 0, none⟩) 1 [⟨177, 0, 0, 0⟩] from Ss.lit LK.len (heap_alloc_last w _) rfl rfl)
  have HL1 := Lib.hid (Link_any _ _ 1 1 _ HS1.out (by decide) (fun r hr => by rw [List.mem_singleton.1 hr]; exact LK.right0 177 (by decide)))
  go_enter Try.func7, Try.ntmps7
  go_wp2_with fail
  refine HL1.out.mono ?_
  rintro e w1 (⟨_, v1, m1, p1, rfl, ho1, hp1, hb1⟩ | ⟨hbad, _⟩)
  case inr => rw [fxL1] at hbad; cases hbad
  rw [fxL2] at ho1
  rw [fxL3] at hp1
  simp only [List.length_singleton] at hp1
  have hm1 : m1 = 1 := ho1.len.symm
  subst hm1
  obtain ⟨a1, c1, rfl, hs1, hc1⟩ := ho1.sl
  obtain ⟨a2, c2, rfl, hs2, hc2⟩ := Sl.ofOwn hp1
  have H1 := Lib.hid hs1
  have H2 := Lib.hid hs2
  have HB1 := Lib.hid (((Below.refl w.heap.size w).alloc (Nat.le_refl _) (.cells #[.int .u8 177, .int .i64 0, .int .i64 0, .int .i64 0] 54)).trans (hb1.mono (by simp)))
  clear ho1 hp1 hb1 hs1 hs2 HL1 HS1
  have HS2 := Lib.hid (show Ls (w1.alloc (.cells #[.int .u8 255, .int .i64 0, .int .i64 0, .int .i64 0] 54)) (some ⟨w1.heap.size, 0, none⟩) 1 [⟨255, 0, 0, 0⟩] from Ss.lit LK.len (heap_alloc_last w1 _) rfl rfl)
  have HL2 := Lib.hid (Link_any _ _ 1 1 _ HS2.out (by decide) (fun r hr => by rw [List.mem_singleton.1 hr]; exact LK.right0 255 (by decide)))
  go_wp2_with fail
  refine HL2.out.mono ?_
  rintro e w2 (⟨hbad, _⟩ | ⟨_, rfl, hb2⟩)
  · rw [fxL4] at hbad; cases hbad
  have hb12 : Below w1.heap.size w1 w2 := ((Below.refl w1.heap.size w1).alloc (Nat.le_refl _) (.cells #[.int .u8 255, .int .i64 0, .int .i64 0, .int .i64 0] 54)).trans (hb2.mono (by simp))
  have H1' := Lib.hid (H1.out.below hb12)
  have H2' := Lib.hid (H2.out.below hb12)
  have HB2 := Lib.hid (HB1.out.trans (hb12.mono HB1.out.size))
  clear hb2 hb12 HL2 HS2 H1 H2 HB1
  have HBY := Lib.hid (Bytes_any w2 x0W (x0W_rd w2) x0W_right none 0 0 [] (Sl.nil _ _) (fun f hf => by cases hf) (fun _ _ => by decide))
  rw [show ([] : List BV).map (·.data) = [] from rfl, fxB] at HBY
  rw [x0W_vals] at HBY
  unfold zImg at HBY
  go_wp2_with fail
  refine HBY.out.mono ?_
  rintro e w3 ⟨a3, m3, c3, rfl, hs3, hc3, hb3⟩
  have hm3 : m3 = 18 := hs3.1.symm
  subst hm3
  have H1 := Lib.hid (H1'.out.below hb3)
  have H2 := Lib.hid (H2'.out.below hb3)
  have H3 := Lib.hid hs3
  have HB3 := Lib.hid (HB2.out.trans (hb3.mono HB2.out.size))
  have HPA := Lib.hid (Parse_any w3 a3 18 c3 b18 hs3 hc3 (by decide))
  rw [fxP] at HPA
  clear hs3 hb3 H1' H2' HB2 HBY
  go_wp2_with fail
  refine HPA.out.mono ?_
  rintro e w4 ⟨x, rfl, hxp, _, hb4⟩
  have hmain : x.main = 0 := congrArg XP.main hxp
  have H1' := Lib.hid (H1.out.below hb4)
  have H2' := Lib.hid (H2.out.below hb4)
  have HB4 := Lib.hid (HB3.out.trans (hb4.mono HB3.out.size))
  obtain ⟨ca, cn, cc, cs, ma, mn, mc, ms, st, sa, sn, sc, ss, ya, yn, yc, ys, xa, xn, xc, xs, ka, kn, kc, ks, main⟩ := x
  simp only at hmain
  subst hmain
  unfold XW.vals
  simp only
  clear hxp hb4 H1 H2 H3 HB3 HPA
  go_upto_region 5 with fail
  have hal : Below w4.heap.size w4 (w4.alloc (.cells #[.slice ca cn cc, .slice ma mn mc, .int .i64 st, .slice sa sn sc, .slice ya yn yc, .slice xa xn xc, .slice ka kn kc, .int .i64 0] 30)) := (Below.refl _ _).alloc (Nat.le_refl _) _
  have HX := Lib.hid (heap_alloc_last w4 (.cells #[.slice ca cn cc, .slice ma mn mc, .int .i64 st, .slice sa sn sc, .slice ya yn yc, .slice xa xn xc, .slice ka kn kc, .int .i64 0] 30))
  have H1 := Lib.hid (H1'.out.below hal)
  have H2 := Lib.hid (H2'.out.below hal)
  have HB5 := Lib.hid (HB4.out.trans (hal.mono HB4.out.size))
  clear hal H1' H2' HB4
  generalize w4.alloc (.cells #[.slice ca cn cc, .slice ma mn mc, .int .i64 st, .slice sa sn sc, .slice ya yn yc, .slice xa xn xc, .slice ka kn kc, .int .i64 0] 30) = w5 at *
  generalize w4.heap.size = gx at *
  have c7 := row_cell HX.out 7 rfl
  have cv := run_conv H1.out c1
  obtain ⟨b2, o2, rfl, _, hcell⟩ := H2.out.2 (by decide)
  have q1 := hcell 1 (by decide)
  unfold encP at q1
  simp only [List.getElem_cons_succ, List.getElem_cons_zero] at q1
  clear hcell
  go_wp2_with fail
  go_ret
  exact ⟨rfl, HB5.out⟩
end Go.Proofs.Ytbcldlbmbdfejaa
/- image: ImageNext. No condition. -/
namespace Go.Proofs.Ytbcldlbmbdfejaa
open Go.ChangeShapes Go.WideShapes Go.ChangeAt Go.RowKit
theorem link_fields : Try.prog.underlying 54 = some (.struct (Try.prog.fieldsOf 54)) := by kernel_rfl
theorem link_held : Try.prog.stoodInHeld 54 = false := by kernel_rfl
theorem link_guard : Try.prog.eqGuardType Try.prog.depth 54 = false := by kernel_rfl
theorem link_list : (Try.prog.fieldsOf 54).toList.map (fun f => (f.name, f.type, f.offset)) = [("Op", 5, 0), ("A", 3, 1), ("B", 3, 2), ("N", 2, 3)] := by kernel_rfl
/-- Are two instructions the same? -/
def sameL (c d : LK) : Bool := decide (c.op = d.op ∧ c.a = d.a ∧ c.b = d.b ∧ c.n = d.n)
theorem sameL_self (c : LK) : sameL c c = true := decide_eq_true ⟨rfl, rfl, rfl, rfl⟩
theorem run_equalL (w : World) (d : Nat) (x y : LK) : (Op.equalIn (d + 1 + 1) 54 (.agg #[.int .u8 (x.op : Nat), .int .i64 x.a, .int .i64 x.b, .int .i64 x.n]) (.agg #[.int .u8 (y.op : Nat), .int .i64 y.a, .int .i64 y.b, .int .i64 y.n])).run Try.prog w = .ok (sameL x y) w := by
  rw [run_equalIn_struct w (d + 1) _ _ _ link_fields link_held]
  have hl := link_list
  match hf : (Try.prog.fieldsOf 54).toList, hl with
  | [f0, f1, f2, f3], hl =>
    simp only [List.map_cons, List.map_nil, List.cons.injEq, Prod.mk.injEq, and_true] at hl
    obtain ⟨⟨n0, t0, o0⟩, ⟨n1, t1, o1⟩, ⟨n2, t2, o2⟩, ⟨n3, t3, o3⟩⟩ := hl
    simp only [Op.eqFields, n0, n1, n2, n3, t0, t1, t2, t3, o0, o1, o2, o3]
    have i0 : ∀ (i : Nat) (cs : Array Value) (w : World) (h : i < cs.size), (part 3 cs i).run Try.prog w = .ok cs[i] w := fun i cs w h => part_plain Try.underlying3 rfl w cs i _ (Array.getElem?_eq_getElem h)
    have i1 : ∀ (i : Nat) (cs : Array Value) (w : World) (h : i < cs.size), (part 5 cs i).run Try.prog w = .ok cs[i] w := fun i cs w h => part_plain Try.underlying5 rfl w cs i _ (Array.getElem?_eq_getElem h)
    have i2 : ∀ (i : Nat) (cs : Array Value) (w : World) (h : i < cs.size), (part 2 cs i).run Try.prog w = .ok cs[i] w := fun i cs w h => part_plain Try.underlying2 rfl w cs i _ (Array.getElem?_eq_getElem h)
    by_cases g0 : x.op = y.op
    · by_cases g1 : x.a = y.a
      · by_cases g2 : x.b = y.b
        · simp [i0, i1, i2, run_equalIn_int _ _ _ _ _ _ _ Try.underlying3, run_equalIn_int _ _ _ _ _ _ _ Try.underlying5, run_equalIn_int _ _ _ _ _ _ _ Try.underlying2, g0, g1, g2, sameL]
          by_cases g3 : x.n = y.n <;> simp [g3]
        · simp [i0, i1, run_equalIn_int _ _ _ _ _ _ _ Try.underlying3, run_equalIn_int _ _ _ _ _ _ _ Try.underlying5, g0, g1, g2, sameL]
      · simp [i0, i1, run_equalIn_int _ _ _ _ _ _ _ Try.underlying3, run_equalIn_int _ _ _ _ _ _ _ Try.underlying5, g0, g1, sameL]
    · have g0' : ((x.op : Int) == (y.op : Int)) = false := by simp; omega
      simp [i0, i1, run_equalIn_int _ _ _ _ _ _ _ Try.underlying3, run_equalIn_int _ _ _ _ _ _ _ Try.underlying5, g0, sameL]
      omega
  | [], hl | [_], hl | [_, _], hl | [_, _, _], hl | _ :: _ :: _ :: _ :: _ :: _, hl => simp at hl
/-- Both answer Next alike. -/
theorem Next_any (w : World) (a : Option Addr) (n cap : Nat) (bs : List UInt8) (p : Int) (hs : Sl encB w a n bs) (hn : n ≤ 1048576) (hcap : n ≤ cap) (hp : IntR p) :
    Calls Try.prog 18 #[.slice a n cap, .int .i64 p] w fun e w' => e = .returned (NextR.ret (nextR bs p)) ∧ Below w.heap.size w w' := by
  by_cases h : p < 0 ∨ (n : Int) ≤ p
  · rw [show nextR bs p = ⟨0, 0, 0, 0, 0, 2⟩ by unfold nextR; rw [if_pos (by rw [hs.1]; exact h)]]
    exact Next_out w a n cap bs p hs hn hp h
  · obtain ⟨q, rfl⟩ : ∃ q : Nat, p = (q : Int) := ⟨p.toNat, by omega⟩
    exact Next_in w a n cap bs q hs hn hcap (by omega)
theorem refNext_any (w : World) (a : Option Addr) (n cap : Nat) (bs : List UInt8) (p : Int) (hs : Sl encB w a n bs) (hn : n ≤ 1048576) (hcap : n ≤ cap) (hp : IntR p) :
    Calls Try.prog 19 #[.slice a n cap, .int .i64 p] w fun e w' => e = .returned (NextR.ret (nextR bs p)) ∧ Below w.heap.size w w' := by
  by_cases h : p < 0 ∨ (n : Int) ≤ p
  · rw [show nextR bs p = ⟨0, 0, 0, 0, 0, 2⟩ by unfold nextR; rw [if_pos (by rw [hs.1]; exact h)]]
    exact refNext_out w a n cap bs p hs hn hp h
  · obtain ⟨q, rfl⟩ : ∃ q : Nat, p = (q : Int) := ⟨p.toNat, by omega⟩
    exact refNext_in w a n cap bs q hs hn hcap (by omega)
set_option maxRecDepth 100000 in
set_option maxHeartbeats 8000000 in
theorem walk_ImageNext (a : Option Addr) (n cap : Nat) (z : List Int) (p : Int) (w : World) (h : IsRow .u8 w a n cap z) (hp : (Lit.int .i64 p).wf = true) :
    Calls Try.prog 6 #[.slice a n cap, .int .i64 p] w fun e w' => e = .returned (.bool true) ∧ Below w.heap.size w w' := by
  have hcap := Row.cap h
  obtain ⟨bs, hb, _⟩ := Bs.ofRow h
  have hs : Sl encB w a n bs := hb.sl
  have hpr : IntR p := by have h0 := bounds_i64 hp; unfold IntR; omega
  have HS := Lib.hid hs
  clear hs hb h hp
  have HF := Lib.hid (fixed25 w)
  unfold QuietRet at HF
  go_enter Try.func6, Try.ntmps6
  go_wp2_with fail
  refine HF.out.mono ?_
  rintro e w1 ⟨rfl, hb1⟩
  have HB1 := Lib.hid hb1
  clear hb1 HF
  by_cases h2 : 2000 < n
  · have ed : decide ((2000 : Int) < n) = true := by simp; omega
    clear h2
    go_wp2_with fail
    go_ret
    exact ⟨rfl, HB1.out⟩
  have ed : decide ((2000 : Int) < n) = false := by simp; omega
  have HN1 := Lib.hid (fun w' (h : Below w.heap.size w w') => Next_any w' a n cap bs p (HS.out.below h) (by omega) hcap hpr)
  have HN2 := Lib.hid (fun w' (h : Below w.heap.size w w') => refNext_any w' a n cap bs p (HS.out.below h) (by omega) hcap hpr)
  generalize nextR bs p = r at *
  obtain ⟨k, x, y, z', sz, er⟩ := r
  unfold NextR.ret LinkV at HN1 HN2
  simp only at HN1 HN2
  clear h2
  go_wp2_with fail
  refine (HN1.out w1 HB1.out).mono ?_
  rintro e w2 ⟨rfl, hb2⟩
  have HB2 := Lib.hid (HB1.out.trans (hb2.mono HB1.out.size))
  clear hb2
  go_upto_region 6 with fail
  have hal : Below w2.heap.size w2 (w2.alloc (.cells #[.int .u8 (k : Nat), .int .i64 x, .int .i64 y, .int .i64 z'] 54)) := (Below.refl _ _).alloc (Nat.le_refl _) _
  have HX := Lib.hid (show Blk4 (w2.alloc (.cells #[.int .u8 (k : Nat), .int .i64 x, .int .i64 y, .int .i64 z'] 54)) w2.heap.size (.int .u8 (k : Nat)) (.int .i64 x) (.int .i64 y) (.int .i64 z') 54 from heap_alloc_last w2 _)
  have HB3 := Lib.hid (HB2.out.trans (hal.mono HB2.out.size))
  clear hal HB2
  generalize w2.alloc (.cells #[.int .u8 (k : Nat), .int .i64 x, .int .i64 y, .int .i64 z'] 54) = w3 at *
  generalize w2.heap.size = g1 at *
  go_wp2_with fail
  refine (HN2.out w3 HB3.out).mono ?_
  rintro e w4 ⟨rfl, hb4⟩
  have HB4 := Lib.hid (HB3.out.trans (hb4.mono HB3.out.size))
  have HX4 := Lib.hid (HX.out.below hb4)
  clear hb4 HX HB3
  go_upto_region 7 with fail
  have hal : Below w4.heap.size w4 (w4.alloc (.cells #[.int .u8 (k : Nat), .int .i64 x, .int .i64 y, .int .i64 z'] 54)) := (Below.refl _ _).alloc (Nat.le_refl _) _
  have HY := Lib.hid (show Blk4 (w4.alloc (.cells #[.int .u8 (k : Nat), .int .i64 x, .int .i64 y, .int .i64 z'] 54)) w4.heap.size (.int .u8 (k : Nat)) (.int .i64 x) (.int .i64 y) (.int .i64 z') 54 from heap_alloc_last w4 _)
  have HX5 := Lib.hid (HX4.out.below hal)
  have HB5 := Lib.hid (HB4.out.trans (hal.mono HB4.out.size))
  clear hal HB4 HX4
  generalize w4.alloc (.cells #[.int .u8 (k : Nat), .int .i64 x, .int .i64 y, .int .i64 z'] 54) = w5 at *
  generalize w4.heap.size = g2 at *
  obtain ⟨c0, c1, c2, c3, f0, f1, f2, f3, lt4⟩ := HX5.out.box
  obtain ⟨d0, d1, d2, d3, i0, i1, i2, i3, lt5⟩ := HY.out.box
  have hq := run_equalL w5 9998 ⟨k, x, y, z'⟩ ⟨k, x, y, z'⟩
  rw [sameL_self] at hq
  have hgd := link_guard
  go_wp2_with fail
  go_ret
  exact ⟨rfl, HB5.out⟩
end Go.Proofs.Ytbcldlbmbdfejaa
/- image: ImageLinks. No condition. -/
namespace Go.Proofs.Ytbcldlbmbdfejaa
open Go.ChangeShapes Go.WideShapes Go.ChangeAt Go.RowKit
/-- What is put stands there. -/
theorem get_put_atI (pre t : List UInt8) (v m : Nat) (h1 : 1 ≤ m) (h8 : m ≤ 8) : getR (pre ++ (putB v m ++ t)) (pre.length : Nat) (m : Nat) = (((v % 256 ^ m : Nat) : Int), 0) := by
  unfold getR
  rw [if_neg (by omega), if_neg (by simp [putB_length]; omega)]
  simp only [Int.toNat_natCast]
  rw [List.drop_left, List.take_append_of_le_length (by rw [putB_length]; exact Nat.le_refl _), List.take_of_length_le (by rw [putB_length]; exact Nat.le_refl _), get_put]
theorem get_put_0 (pre t : List UInt8) (v m : Nat) (h8 : m ≤ 8) (hv : v < 256 ^ m) : (getR (pre ++ (putB v m ++ t)) (pre.length : Nat) (m : Nat)).1 = (v : Int) := by
  by_cases h0 : m = 0
  · subst h0
    have : v = 0 := by simp at hv; omega
    subst this
    unfold getR
    rw [if_pos (by omega)]
    rfl
  · rw [get_put_atI pre t v m (by omega) h8, Nat.mod_eq_of_lt hv]
theorem room_u64 {v : Int} {n : Nat} (hn : n ≤ 2) (h : roomB v n = true) : (u64V v : Int) = v ∧ u64V v < 256 ^ n := by
  unfold roomB at h
  have h2 := of_decide_eq_true h
  have e : (2 : Int) ^ (8 * n) = ((256 ^ n : Nat) : Int) := by
    have : n = 0 ∨ n = 1 ∨ n = 2 := by omega
    rcases this with rfl | rfl | rfl <;> decide
  have h3 : (256 ^ n : Nat) ≤ 65536 := by
    have : n = 0 ∨ n = 1 ∨ n = 2 := by omega
    rcases this with rfl | rfl | rfl <;> decide
  rw [e] at h2
  unfold u64V
  omega
theorem signB_mod (v : Nat) (n : Nat) (h1 : 1 ≤ n) (h8 : n ≤ 8) : signB ((v % 256 ^ n : Nat) : Int) n = signB (v : Int) n := by
  unfold signB
  rw [if_neg (by omega), if_neg (by omega)]
  have e : (2 : Int) ^ (8 * ((n : Int)).toNat) = ((256 ^ n : Nat) : Int) := by
    rw [Int.toNat_natCast]
    have : (256 : Nat) ^ n = 2 ^ (8 * n) := by rw [show (256 : Nat) = 2 ^ 8 from rfl, ← Nat.pow_mul]
    rw [this]
    norm_cast
  rw [e]
  congr 1
  rw [Int.natCast_emod, Int.emod_add_emod]
theorem next_link (pre t : List UInt8) (r : LK) (hr : r.right) (ho : r.ok = true) : nextR (pre ++ (r.bytes ++ t)) (pre.length : Nat) = ⟨r.op, r.a, r.b, r.n, (r.bytes.length : Nat), 0⟩ := by
  obtain ⟨o, x, y, z⟩ := r
  obtain ⟨hop, hx, hy, hz⟩ := hr
  simp only at hop hx hy hz
  obtain ⟨wa, wb, wn, ok, hq⟩ : ∃ wa wb wn ok, imgW o = (wa, wb, wn, ok) := ⟨_, _, _, _, rfl⟩
  have hsm := imgW_small ⟨o, hop⟩
  simp only [hq] at hsm
  obtain ⟨ha2, hb1, hn8⟩ := hsm
  unfold LK.ok at ho
  simp only [hq, Bool.and_eq_true] at ho
  obtain ⟨⟨⟨rfl, ra⟩, rb⟩, rn⟩ := ho
  have hby : LK.bytes ⟨o, x, y, z⟩ = [UInt8.ofNat o] ++ putB (u64V x) wa ++ putB (u64V y) wb ++ putB (u64V z) wn := by unfold LK.bytes; simp only [hq]
  rw [hby]
  have hlen : ([UInt8.ofNat o] ++ putB (u64V x) wa ++ putB (u64V y) wb ++ putB (u64V z) wn).length = 1 + wa + wb + wn := by simp [putB_length]; omega
  rw [hlen]
  unfold nextR
  have hk : ((pre ++ ([UInt8.ofNat o] ++ putB (u64V x) wa ++ putB (u64V y) wb ++ putB (u64V z) wn ++ t)).getD ((pre.length : Nat) : Int).toNat 0).toNat = o := by
    rw [Int.toNat_natCast]
    simp only [List.getD_eq_getElem?_getD, List.getElem?_append_right (Nat.le_refl _), Nat.sub_self, List.append_assoc, List.cons_append, List.nil_append, List.getElem?_cons_zero, Option.getD_some]
    exact UInt8.toNat_ofNat_of_lt' hop
  rw [if_neg (by rw [List.length_append, List.length_append, hlen]; omega)]
  simp only [hk, hq]
  rw [if_neg (by decide), if_neg (by rw [List.length_append, List.length_append, hlen]; omega)]
  obtain ⟨ea, la⟩ := room_u64 ha2 ra
  obtain ⟨eb, lb⟩ := room_u64 (by omega) rb
  have e1 : pre ++ ([UInt8.ofNat o] ++ putB (u64V x) wa ++ putB (u64V y) wb ++ putB (u64V z) wn ++ t) = (pre ++ [UInt8.ofNat o]) ++ (putB (u64V x) wa ++ (putB (u64V y) wb ++ putB (u64V z) wn ++ t)) := by simp only [List.append_assoc]
  have e2 : pre ++ ([UInt8.ofNat o] ++ putB (u64V x) wa ++ putB (u64V y) wb ++ putB (u64V z) wn ++ t) = (pre ++ [UInt8.ofNat o] ++ putB (u64V x) wa) ++ (putB (u64V y) wb ++ (putB (u64V z) wn ++ t)) := by simp only [List.append_assoc]
  have e3 : pre ++ ([UInt8.ofNat o] ++ putB (u64V x) wa ++ putB (u64V y) wb ++ putB (u64V z) wn ++ t) = (pre ++ [UInt8.ofNat o] ++ putB (u64V x) wa ++ putB (u64V y) wb) ++ (putB (u64V z) wn ++ t) := by simp only [List.append_assoc]
  have g1 := get_put_0 (pre ++ [UInt8.ofNat o]) (putB (u64V y) wb ++ putB (u64V z) wn ++ t) (u64V x) wa (by omega) la
  have g2 := get_put_0 (pre ++ [UInt8.ofNat o] ++ putB (u64V x) wa) (putB (u64V z) wn ++ t) (u64V y) wb (by omega) lb
  rw [← e1] at g1
  rw [← e2] at g2
  have l1 : ((pre ++ [UInt8.ofNat o]).length : Int) = (pre.length : Int) + 1 := by simp
  have l2 : ((pre ++ [UInt8.ofNat o] ++ putB (u64V x) wa).length : Int) = (pre.length : Int) + 1 + wa := by simp [putB_length]; omega
  have l3 : ((pre ++ [UInt8.ofNat o] ++ putB (u64V x) wa ++ putB (u64V y) wb).length : Int) = (pre.length : Int) + 1 + wa + wb := by simp [putB_length]; omega
  rw [l1] at g1
  rw [l2] at g2
  rw [g1, g2, ea, eb]
  have g3 : signB (getR (pre ++ ([UInt8.ofNat o] ++ putB (u64V x) wa ++ putB (u64V y) wb ++ putB (u64V z) wn ++ t)) ((pre.length : Int) + 1 + wa + wb) wn).1 wn = z := by
    unfold sgnB at rn
    by_cases h0 : wn = 0
    · subst h0
      rw [if_pos rfl] at rn
      have hz0 := of_decide_eq_true rn
      rw [signB_odd _ _ (by omega), hz0]
    · rw [if_neg h0] at rn
      have hz0 := of_decide_eq_true rn
      have g := get_put_atI (pre ++ [UInt8.ofNat o] ++ putB (u64V x) wa ++ putB (u64V y) wb) t (u64V z) wn (by omega) hn8
      rw [← e3, l3] at g
      rw [g, signB_mod _ _ (by omega) hn8]
      exact hz0
  rw [g3]
  congr 1
theorem places_at (L : List LK) (i : Nat) (hi : i ≤ L.length) : (placesL L)[i]? = some (lkB (L.take i)).length := by
  unfold placesL
  rw [List.getElem?_map, List.getElem?_range (by omega)]
  rfl
theorem next_at (L : List LK) (i : Nat) (r : LK) (h : L[i]? = some r) (hr : r.right) (ho : r.ok = true) : nextR (lkB L) ((lkB (L.take i)).length : Nat) = ⟨r.op, r.a, r.b, r.n, (r.bytes.length : Nat), 0⟩ := by
  obtain ⟨hj, he⟩ := List.getElem?_eq_some_iff.1 h
  have e : lkB L = lkB (L.take i) ++ (r.bytes ++ lkB (L.drop (i + 1))) := by
    unfold lkB
    rw [← List.append_assoc, ← List.flatMap_singleton (f := LK.bytes) (x := r), ← List.flatMap_append, ← List.flatMap_append, ← he, List.append_assoc, List.singleton_append, ← List.drop_eq_getElem_cons hj, List.take_append_drop]
  rw [e]
  exact next_link _ _ r hr ho
set_option maxRecDepth 100000 in
set_option maxHeartbeats 8000000 in
theorem sameInts_any (w : World) (a : Option Addr) (n cap : Nat) (xs : List Int) (hs : Sl encZ w a n xs) (b : Option Addr) (m cm : Nat) (ys : List Int) (ht : Sl encZ w b m ys) (hn : n ≤ 9223372036854775806) (hm : m ≤ 9223372036854775806) :
    Calls Try.prog 17 #[.slice a n cap, .slice b m cm] w fun e w' => e = .returned (.bool (decide (xs = ys))) ∧ Below w.heap.size w w' := by
  have HS := Lib.hid hs
  have HT := Lib.hid ht
  have HL1 := Lib.hid hs.1
  have HL2 := Lib.hid ht.1
  clear hs ht
  go_enter Try.func17, Try.ntmps17
  by_cases hnm : n = m
  case neg =>
    have e1 : ((n : Int) != (m : Int)) = true := by simp; omega
    have HF := Lib.hid (show decide (xs = ys) = false from decide_eq_false (fun h => hnm (by rw [← HL1.out, ← HL2.out, h])))
    clear hnm
    go_wp2_with fail
    go_ret
    exact ⟨by rw [HF.out]; rfl, Below.refl _ _⟩
  subst hnm
  go_wp2_with fail
  go_loopg [13] n (fun gn i wr => ∃ j : Nat, j ≤ n ∧ gn = n - j ∧ i = .int .i64 j ∧ Hid (xs.take j = ys.take j) ∧ Hid (Below w.heap.size w wr))
  case atStart => exact ⟨0, by omega, by omega, by go_num, Lib.hid rfl, Lib.hid (Below.refl _ _)⟩
  case round =>
    obtain ⟨j, hj, rfl, rfl, HQ, HB⟩ := hrel
    by_cases hlt : j < n
    · obtain ⟨b1, o1, x, rfl, hb1, hx, q1⟩ := (HS.out.below HB.out).getZ j hlt
      obtain ⟨b2, o2, y, rfl, hb2, hy, q2⟩ := (HT.out.below HB.out).getZ j hlt
      have HX := Lib.hid hx
      have HY := Lib.hid hy
      clear hx hy
      by_cases hxy : x = y
      · have e1 : (x != y) = false := by simp [hxy]
        have HN := Lib.hid (show xs.take (j + 1) = ys.take (j + 1) by rw [take_snocX HX.out, take_snocX HY.out, HQ.out, hxy])
        clear hxy HQ
        go_wp2_with fail
        go_quiet (fail)
        go_wp2_with fail
        go_roundg (n - (j + 1))
        case measure => omega
        case rel => exact ⟨j + 1, by omega, rfl, by go_num, HN, Lib.hid (bdrewN HB.out _)⟩
      · have e1 : (x != y) = true := by simp [hxy]
        have HF := Lib.hid (show decide (xs = ys) = false from decide_eq_false (fun h => hxy (by have h1 := HX.out; rw [h, HY.out] at h1; simpa using h1.symm)))
        clear hxy HQ
        go_wp2_with fail
        go_quiet (fail)
        go_wp2_with fail
        go_ret
        exact ⟨by rw [HF.out]; rfl, bdrewN HB.out _⟩
    · obtain rfl : n = j := by omega
      have HF := Lib.hid (show decide (xs = ys) = true from decide_eq_true (by have h := HQ.out; rwa [List.take_of_length_le (by rw [HL1.out]; exact Nat.le_refl _), List.take_of_length_le (by rw [HL2.out]; exact Nat.le_refl _)] at h))
      go_wp2_with fail
      go_ret
      exact ⟨by rw [HF.out]; rfl, HB.out⟩
end Go.Proofs.Ytbcldlbmbdfejaa
/- image: what is written is read back, in plain Lean. No condition. -/
namespace Go.Proofs.Ytbcldlbmbdfejaa
open Go.ChangeShapes Go.WideShapes Go.ChangeAt Go.RowKit
/-- A reader reads a value out of what was written, wherever that stands. -/
def Reads {α : Type} (B : List UInt8) (R : List UInt8 → RM α) (v : α) : Prop :=
  ∀ pre t : List UInt8, R (pre ++ (B ++ t)) (pre.length, 0) = (v, (pre.length + B.length, 0))
theorem Reads.pure {α : Type} (v : α) : Reads [] (fun _ => pureR v) v := fun pre t => rfl
theorem Reads.bind {α β : Type} {B1 B2 : List UInt8} {R1 : List UInt8 → RM α} {G : List UInt8 → α → RM β} {v1 : α} {v2 : β} (h1 : Reads B1 R1 v1) (h2 : Reads B2 (fun bs => G bs v1) v2) : Reads (B1 ++ B2) (fun bs => bindR (R1 bs) (G bs)) v2 := by
  intro pre t
  have e1 := h1 pre (B2 ++ t)
  have e2 := h2 (pre ++ B1) t
  rw [List.append_assoc] at e2
  show bindR (R1 _) (G _) (pre.length, 0) = _
  rw [List.append_assoc]
  unfold bindR
  rw [e1]
  simp only
  rw [List.length_append] at e2
  simp only at e2
  rw [e2, List.length_append, Nat.add_assoc]
theorem Reads.last {α β : Type} {B1 : List UInt8} {R1 : List UInt8 → RM α} {G : List UInt8 → α → RM β} {v1 : α} {v2 : β} (h1 : Reads B1 R1 v1) (h2 : ∀ bs, G bs v1 = pureR v2) : Reads B1 (fun bs => bindR (R1 bs) (G bs)) v2 := by
  have h : Reads (B1 ++ []) (fun bs => bindR (R1 bs) (G bs)) v2 := Reads.bind h1 (fun pre t => by show G _ v1 _ = _; rw [h2]; rfl)
  rwa [List.append_nil] at h
theorem room4 {v : Int} {n : Nat} (h1 : 1 ≤ n) (hn : n ≤ 4) (h : roomB v n = true) : ((u64V v % 256 ^ n : Nat) : Int) = v := by
  unfold roomB at h
  have h2 := of_decide_eq_true h
  have e : (2 : Int) ^ (8 * n) = ((256 ^ n : Nat) : Int) := by
    have : n = 1 ∨ n = 2 ∨ n = 3 ∨ n = 4 := by omega
    rcases this with rfl | rfl | rfl | rfl <;> decide
  have h3 : (256 ^ n : Nat) ≤ 4294967296 := by
    have : n = 1 ∨ n = 2 ∨ n = 3 ∨ n = 4 := by omega
    rcases this with rfl | rfl | rfl | rfl <;> decide
  rw [e] at h2
  unfold u64V
  rw [Nat.mod_eq_of_lt (by omega)]
  omega
theorem Reads.get {v : Int} {n : Nat} (h1 : 1 ≤ n) (hn : n ≤ 4) (h : roomB v n = true) : Reads (putB (u64V v) n) (fun bs => getS bs n) v := by
  intro pre t
  show getS _ n _ = _
  unfold getS
  rw [if_neg (by simp), get_put_atI pre t _ n h1 (by omega), room4 h1 hn h, putB_length]
theorem Reads.less {v : Int} (h : roomB (v + 1) 2 = true) : Reads (putB (u64V (v + 1)) 2) lessS v := by
  intro pre t
  have e := Reads.get (v := v + 1) (n := 2) (by omega) (by omega) h pre t
  unfold lessS
  simp only at e
  rw [e]
  show (v + 1 - 1, _) = _
  rw [show v + 1 - 1 = v by omega]
theorem Reads.textT {s : List UInt8} : Reads s (fun bs => textT bs (s.length : Nat)) s := by
  intro pre t
  show Go.Proofs.Ytbcldlbmbdfejaa.textT _ _ _ = _
  unfold Go.Proofs.Ytbcldlbmbdfejaa.textT
  rw [if_neg (by simp), if_neg (by simp only [List.length_append]; omega)]
  simp only [Int.toNat_natCast]
  rw [List.drop_left, List.take_left]
theorem Reads.text {s : List UInt8} {n : Nat} (h1 : 1 ≤ n) (hn : n ≤ 4) (h : roomB s.length n = true) : Reads (textB s n) (fun bs => textS bs n) s := by
  unfold textB textS
  exact Reads.bind (Reads.get h1 hn h) Reads.textT
theorem Reads.row {α β : Type} {F : α → List UInt8} {R : List UInt8 → RM β} {f : α → β} (l : List α) (h : ∀ x ∈ l, Reads (F x) R (f x)) : Reads (l.flatMap F) (fun bs => rowS (R bs) l.length) (l.map f) := by
  induction l with
  | nil => exact Reads.pure _
  | cons x l ih =>
    intro pre t
    have e1 := h x (List.mem_cons_self ..) pre (l.flatMap F ++ t)
    have e2 := ih (fun y hy => h y (List.mem_cons_of_mem _ hy)) (pre ++ F x) t
    rw [List.append_assoc, List.length_append] at e2
    simp only [List.flatMap_cons, List.length_cons, List.map_cons, rowS]
    rw [if_neg (by simp), List.append_assoc, e1]
    simp only
    simp only at e2
    rw [e2, List.length_append, Nat.add_assoc]
theorem Reads.many {α β : Type} {F : α → List UInt8} {R : List UInt8 → RM β} {f : α → β} (l : List α) (hl : roomB l.length 2 = true) (h : ∀ x ∈ l, Reads (F x) R (f x)) : Reads (rowB F l) (fun bs => manyS bs (R bs)) (l.map f) := by
  unfold rowB manyS
  exact Reads.bind (Reads.get (by omega) (by omega) hl) (Reads.row l h)
theorem rowO_no {α : Type} {B : α → Bool} {l : List α} (h : rowO B l = false) : roomB l.length 2 = true ∧ ∀ x ∈ l, B x = false := by
  unfold rowO at h
  simp only [Bool.or_eq_false_iff, Bool.not_eq_false', List.any_eq_false] at h
  exact ⟨h.1, fun x hx => by simpa using h.2 x hx⟩
theorem Reads.ints {l : List Int} (h : intsO l = false) : Reads (intsB l) (fun bs => manyS bs (getS bs 2)) l := by
  have h2 := rowO_no h
  have h3 := Reads.many (F := fun v => putB (u64V v) 2) (R := fun bs => getS bs 2) (f := fun v => v) l h2.1 (fun v hv => Reads.get (by omega) (by omega) (by simpa using h2.2 v hv))
  rwa [List.map_id'] at h3
theorem Reads.cls {c : CW} (h : c.odd = false) : Reads c.bytes classS c.p := by
  unfold CW.odd at h
  rw [badN1] at h
  simp only [Bool.or_eq_false_iff, Bool.not_eq_false'] at h
  obtain ⟨⟨⟨⟨h1, h2⟩, h3⟩, h4⟩, h5⟩ := h
  unfold CW.bytes
  rw [nexts1, List.append_assoc, List.append_assoc, List.append_assoc]
  exact Reads.bind (Reads.text (by omega) (by omega) h1) (Reads.bind (Reads.less h2) (Reads.bind (Reads.get (by omega) (by omega) h3) (Reads.bind (Reads.ints h4) (Reads.last (Reads.ints h5) fun bs => rfl))))
theorem Reads.stat (b : Bool) : Reads [] (fun _ => statS (statI b)) () := by
  intro pre t
  show statS _ _ = _
  unfold statS
  rw [if_neg (by unfold statI; cases b <;> simp)]
  rfl
theorem Reads.meth {m : MW} (h : m.odd = false) : Reads m.bytes methodS m := by
  unfold MW.odd at h
  rw [badN2] at h
  simp only [Bool.or_eq_false_iff, Bool.not_eq_false'] at h
  obtain ⟨⟨⟨⟨h1, h2⟩, h3⟩, h4⟩, h5, h6⟩ := h
  unfold MW.bytes
  rw [nexts2, List.append_assoc, List.append_assoc, List.append_assoc]
  refine Reads.bind (Reads.get (by omega) (by omega) h1) (Reads.bind (Reads.text (by omega) (by omega) h2) (Reads.bind (Reads.text (by omega) (by omega) h3) (Reads.bind (Reads.get (by omega) (by omega) h4) ?_)))
  rw [← List.nil_append (putB (u64V (m.slot + 1)) 2 ++ _)]
  refine Reads.bind (Reads.stat m.stat) (Reads.bind (Reads.less h5) (Reads.last (Reads.less h6) fun bs => ?_))
  rw [show decide (statI m.stat = 1) = m.stat by unfold statI; cases m.stat <;> rfl]
theorem Reads.trap {t : TW} (h : t.odd = false) : Reads t.bytes trapS t := by
  unfold TW.odd at h
  rw [badN1, bad3] at h
  simp only [Bool.or_eq_false_iff, Bool.not_eq_false'] at h
  obtain ⟨⟨⟨h1, h2⟩, h3⟩, h4⟩ := h
  unfold TW.bytes
  rw [nexts1, puts3, List.append_assoc, List.append_assoc]
  exact Reads.bind (Reads.get (by omega) (by omega) h1) (Reads.bind (Reads.get (by omega) (by omega) h2) (Reads.bind (Reads.get (by omega) (by omega) h3) (Reads.last (Reads.less h4) fun bs => rfl)))
/-- How a code's head reads. -/
def kpP (pos : Int) (k : KW) (d : List UInt8) : KP := ⟨hereI pos d, (d.length : Int), k.stack, k.locals, k.args, k.traps⟩
def kpL (pos : Int) : List (KW × List UInt8) → List KP
  | [] => []
  | p :: r => kpP pos p.1 p.2 :: kpL (pos + p.2.length) r
theorem Reads.code {pos : Int} {k : KW} {d : List UInt8} (h : codeO pos k d = false) : Reads (codeB pos k d) codeS (kpP pos k d) := by
  unfold codeO at h
  rw [bad4] at h
  simp only [Bool.or_eq_false_iff, Bool.not_eq_false'] at h
  obtain ⟨⟨h1, ⟨⟨h2, h3⟩, h4⟩, h5⟩, h6⟩ := h
  have h7 := rowO_no h6
  have h8 := Reads.many (F := TW.bytes) (R := trapS) (f := fun t => t) k.traps h7.1 (fun t ht => Reads.trap (h7.2 t ht))
  rw [List.map_id'] at h8
  unfold codeB
  rw [puts4]
  simp only [List.append_assoc]
  exact Reads.bind (Reads.get (by omega) (by omega) h1) (Reads.bind (Reads.get (by omega) (by omega) h2) (Reads.bind (Reads.get (by omega) (by omega) h3) (Reads.bind (Reads.get (by omega) (by omega) h4) (Reads.bind (Reads.get (by omega) (by omega) h5) (Reads.last h8 fun bs => rfl)))))
theorem Reads.heads (P : List (KW × List UInt8)) (pos : Int) (h : headsO pos P = false) : Reads (headsB pos P) (fun bs => rowS (codeS bs) P.length) (kpL pos P) := by
  induction P generalizing pos with
  | nil => exact Reads.pure _
  | cons p P ih =>
    simp only [headsO, Bool.or_eq_false_iff] at h
    intro pre t
    have e1 := Reads.code h.1 pre (headsB (pos + p.2.length) P ++ t)
    have e2 := ih _ h.2 (pre ++ codeB pos p.1 p.2) t
    rw [List.append_assoc, List.length_append] at e2
    simp only [headsB, List.length_cons, kpL, rowS]
    rw [if_neg (by simp), List.append_assoc, e1]
    simp only
    simp only at e2
    rw [e2, List.length_append, Nat.add_assoc]
theorem laid_kpL (P : List (KW × List UInt8)) (pos : Int) : laidP (kpL pos P) pos (pos + (lensL (P.map (·.2)) : Nat)) = true := by
  induction P generalizing pos with
  | nil => simp [kpL, laidP, lensL]
  | cons p P ih =>
    simp only [kpL, laidP, kpP]
    rw [if_neg (by unfold hereI; split <;> omega)]
    have := ih (pos + p.2.length)
    rw [show pos + (lensL ((p :: P).map (·.2)) : Nat) = pos + p.2.length + (lensL (P.map (·.2)) : Nat) by unfold lensL; simp; omega]
    exact this
def bodyB (x : XW) (D : List (List UInt8)) : List UInt8 :=
  rowB CW.bytes x.cs ++ (rowB MW.bytes x.ms ++ (putB (u64V x.st) 2 ++ (intsB x.ss ++ (rowB (fun s => textB s 1) x.ys ++ (rowB (fun s => textB s 2) x.xs ++ (putB (u64V x.main) 2 ++ headsB (startX x : Nat) (x.ks.zip D)))))))
theorem bytesX_body (x : XW) (D : List (List UInt8)) : bytesX x D = magicB ++ (bodyB x D ++ D.flatten) := by unfold bytesX tabB bodyB; simp only [List.append_assoc]
def readP (x : XW) (D : List (List UInt8)) : XP := ⟨x.cs.map CW.p, x.ms, x.st, x.ss, x.ys, x.xs, kpL (startX x : Nat) (x.ks.zip D), x.main⟩
theorem Reads.image {x : XW} {D : List (List UInt8)} (h : oddX x D = false) (hm : x.ks.length = x.ms.length) (hd : D.length = x.ks.length) : Reads (bodyB x D) imageS (readP x D) := by
  unfold oddX tabO at h
  simp only [Bool.or_eq_false_iff, Bool.not_eq_false'] at h
  obtain ⟨⟨⟨⟨⟨⟨⟨h1, h2⟩, h3⟩, h4⟩, h5⟩, h6⟩, h7⟩, h8⟩ := h
  have r1 := Reads.many (F := CW.bytes) (R := classS) (f := CW.p) x.cs (rowO_no h1).1 (fun c hc => Reads.cls ((rowO_no h1).2 c hc))
  have r2 := Reads.many (F := MW.bytes) (R := methodS) (f := fun m => m) x.ms (rowO_no h2).1 (fun c hc => Reads.meth ((rowO_no h2).2 c hc))
  have r5 := Reads.many (F := fun s => textB s 1) (R := fun bs => textS bs 1) (f := fun m => m) x.ys (rowO_no h5).1 (fun s hs => Reads.text (by omega) (by omega) (by simpa using (rowO_no h5).2 s hs))
  have r6 := Reads.many (F := fun s => textB s 2) (R := fun bs => textS bs 2) (f := fun m => m) x.xs (rowO_no h6).1 (fun s hs => Reads.text (by omega) (by omega) (by simpa using (rowO_no h6).2 s hs))
  have r8 := Reads.heads (x.ks.zip D) (startX x : Nat) h8
  rw [List.map_id'] at r2 r5 r6
  rw [List.length_zip, show min x.ks.length D.length = x.ms.length by omega] at r8
  exact Reads.bind r1 (Reads.bind r2 (Reads.bind (Reads.get (by omega) (by omega) h3) (Reads.bind (Reads.ints h4) (Reads.bind r5 (Reads.bind r6 (Reads.bind (Reads.get (by omega) (by omega) h7) (Reads.last r8 fun bs => rfl)))))))
/-- What is written is read back. -/
theorem parse_image {x : XW} {D : List (List UInt8)} {bs : List UInt8} (h : imgBytes x D = (0, bs)) : parseR bs = (readP x D, 0) ∧ bs = bytesX x D ∧ oddX x D = false ∧ x.ks.length = x.ms.length ∧ D.length = x.ks.length := by
  unfold imgBytes at h
  split at h
  · simp at h
  rename_i hl
  split at h
  · simp at h
  rename_i ho
  split at h
  · simp at h
  rename_i hs
  simp only [Prod.mk.injEq, true_and] at h
  subst h
  have ho' : oddX x D = false := by simpa using ho
  have hm : x.ks.length = x.ms.length := by omega
  have hd : D.length = x.ks.length := by omega
  refine ⟨?_, rfl, ho', hm, hd⟩
  have e := Reads.image ho' hm hd magicB D.flatten
  rw [← bytesX_body] at e
  have hlen := bytesX_len x D hd
  have hbl : magicB.length + (bodyB x D).length = startX x := by
    have h1 : (bytesX x D).length = magicB.length + ((bodyB x D).length + D.flatten.length) := by rw [bytesX_body, List.length_append, List.length_append]
    rw [flatten_len] at h1
    omega
  unfold parseR
  rw [if_neg hs]
  have hmg : ¬ ((bytesX x D).length < 4 ∨ (bytesX x D).take 4 ≠ magicB) := by
    rw [bytesX_body]
    have : magicB.length = 4 := rfl
    rw [show (4 : Nat) = magicB.length from rfl, List.take_left]
    simp only [List.length_append, ne_eq, not_true_eq_false, or_false]
    omega
  rw [if_neg hmg, show ((4 : Nat), (0 : Int)) = (magicB.length, 0) from rfl, e]
  simp only
  rw [if_neg (by simp), hbl]
  have hL := laid_kpL (x.ks.zip D) (startX x : Nat)
  have hz : (x.ks.zip D).map (·.2) = D := by rw [List.map_snd_zip]; omega
  rw [hz] at hL
  rw [hlen]
  rw [if_neg (by
    show ¬ laidP (kpL _ _) _ _ = false
    rw [show (((startX x + lensL D : Nat)) : Int) = (startX x : Nat) + (lensL D : Nat) by omega, hL]
    simp)]
end Go.Proofs.Ytbcldlbmbdfejaa
/- image: no beginning of an image's bytes is one, nor they with more behind; in plain Lean. No condition. -/
namespace Go.Proofs.Ytbcldlbmbdfejaa
open Go.ChangeShapes Go.WideShapes Go.ChangeAt Go.RowKit
/-- What ends well reads the same with more behind. -/
def Mono {α : Type} (R : List UInt8 → RM α) : Prop := ∀ (bs t : List UInt8) (s : St), (R bs s).2.2 = 0 → s.2 = 0 ∧ R (bs ++ t) s = R bs s
theorem Mono.pure {α : Type} (v : α) : Mono (fun _ => pureR v) := fun bs t s h => ⟨h, rfl⟩
theorem Mono.bind {α β : Type} {R : List UInt8 → RM α} {G : List UInt8 → α → RM β} (h1 : Mono R) (h2 : ∀ v, Mono (fun bs => G bs v)) : Mono (fun bs => bindR (R bs) (G bs)) := by
  intro bs t s h
  have h : (G bs (R bs s).1 (R bs s).2).2.2 = 0 := h
  obtain ⟨e1, e2⟩ := h2 _ bs t _ h
  obtain ⟨e3, e4⟩ := h1 bs t s e1
  refine ⟨e3, ?_⟩
  show G (bs ++ t) (R (bs ++ t) s).1 (R (bs ++ t) s).2 = G bs (R bs s).1 (R bs s).2
  rw [e4]
  exact e2
theorem getS_in (b : List UInt8) (n : Nat) (s : St) (h : s.2 = 0) : getS b n s = ((getR b s.1 n).1, (s.1 + n, (getR b s.1 n).2)) := by
  unfold getS
  rw [if_neg (by omega)]
theorem getR_in (b : List UInt8) (p n : Nat) (h1 : 1 ≤ n) (h8 : n ≤ 8) (hp : p + n ≤ b.length) : getR b p n = (((getN ((b.drop p).take n) : Nat) : Int), 0) := by
  unfold getR
  rw [if_neg (by omega), if_neg (by omega)]
  rfl
theorem Mono.get (n : Nat) (h1 : 1 ≤ n) (h8 : n ≤ 8) : Mono (fun bs => getS bs n) := by
  intro bs t s h
  simp only at h ⊢
  by_cases h0 : s.2 = 0
  · refine ⟨h0, ?_⟩
    rw [getS_in bs n s h0] at h
    simp only at h
    have hp : s.1 + n ≤ bs.length := by
      rcases getR_err bs s.1 n h1 h8 with ⟨_, hp⟩ | ⟨e, _⟩
      · exact hp
      · rw [e] at h; omega
    have e : getR (bs ++ t) s.1 n = getR bs s.1 n := by
      rw [getR_in bs s.1 n h1 h8 hp, getR_in (bs ++ t) s.1 n h1 h8 (by rw [List.length_append]; omega), List.drop_append_of_le_length (by omega), List.take_append_of_le_length (by rw [List.length_drop]; omega)]
    rw [getS_in bs n s h0, getS_in (bs ++ t) n s h0, e]
  · exfalso
    unfold getS at h
    rw [if_pos h0] at h
    exact h0 h
theorem Mono.less : Mono lessS := by
  intro bs t s h
  obtain ⟨e1, e2⟩ := Mono.get 2 (by omega) (by omega) bs t s h
  simp only at e2
  exact ⟨e1, by unfold lessS; rw [e2]⟩
theorem textT_in (b : List UInt8) (v : Int) (s : St) (h : s.2 = 0) : Go.Proofs.Ytbcldlbmbdfejaa.textT b v s = if (b.length : Int) - s.1 < v then ([], (s.1, 6)) else ((b.drop s.1).take v.toNat, (s.1 + v.toNat, 0)) := by
  unfold Go.Proofs.Ytbcldlbmbdfejaa.textT
  rw [if_neg (by omega)]
theorem Mono.textT (v : Int) : Mono (fun bs => Go.Proofs.Ytbcldlbmbdfejaa.textT bs v) := by
  intro bs t s h
  simp only at h ⊢
  by_cases h0 : s.2 = 0
  · refine ⟨h0, ?_⟩
    rw [textT_in bs v s h0] at h
    rw [textT_in bs v s h0, textT_in (bs ++ t) v s h0]
    by_cases h1 : (bs.length : Int) - s.1 < v
    · rw [if_pos h1] at h
      simp at h
    · have h2 : ¬ ((bs ++ t).length : Int) - s.1 < v := by rw [List.length_append]; omega
      rw [if_neg h1, if_neg h2]
      by_cases hv : v ≤ 0
      · rw [show v.toNat = 0 by omega]
        rfl
      · rw [List.drop_append_of_le_length (by omega), List.take_append_of_le_length (by rw [List.length_drop]; omega)]
  · exfalso
    unfold Go.Proofs.Ytbcldlbmbdfejaa.textT at h
    rw [if_pos h0] at h
    exact h0 h
theorem Mono.text (n : Nat) (h1 : 1 ≤ n) (h8 : n ≤ 8) : Mono (fun bs => textS bs n) := Mono.bind (Mono.get n h1 h8) fun v => Mono.textT v
theorem Mono.stat (v : Int) : Mono (fun _ => statS v) := by
  intro bs t s h
  refine ⟨?_, rfl⟩
  simp only [statS] at h
  split at h
  · simp at h
  · exact h
theorem Mono.row {α : Type} {R : List UInt8 → RM α} (h1 : Mono R) (n : Nat) : Mono (fun bs => rowS (R bs) n) := by
  induction n with
  | zero => exact Mono.pure []
  | succ n ih =>
    intro bs t s h
    simp only [rowS] at h ⊢
    by_cases h0 : s.2 = 0
    · refine ⟨h0, ?_⟩
      rw [if_neg (by omega)] at h
      rw [if_neg (by omega), if_neg (by omega)]
      simp only at h
      obtain ⟨e1, e2⟩ := ih bs t _ h
      obtain ⟨_, e4⟩ := h1 bs t s e1
      simp only at e2
      rw [e4, e2]
    · rw [if_pos h0] at h
      exact absurd h h0
theorem Mono.many {α : Type} {R : List UInt8 → RM α} (h1 : Mono R) : Mono (fun bs => manyS bs (R bs)) := Mono.bind (Mono.get 2 (by omega) (by omega)) fun v => Mono.row h1 v.toNat
theorem Mono.ints : Mono (fun bs => manyS bs (getS bs 2)) := Mono.many (Mono.get 2 (by omega) (by omega))
theorem Mono.cls : Mono classS :=
  Mono.bind (Mono.text 1 (by omega) (by omega)) fun _ => Mono.bind Mono.less fun _ => Mono.bind (Mono.get 2 (by omega) (by omega)) fun _ => Mono.bind Mono.ints fun _ => Mono.bind Mono.ints fun _ => Mono.pure _
theorem Mono.meth : Mono methodS :=
  Mono.bind (Mono.get 2 (by omega) (by omega)) fun _ => Mono.bind (Mono.text 1 (by omega) (by omega)) fun _ => Mono.bind (Mono.text 1 (by omega) (by omega)) fun _ => Mono.bind (Mono.get 1 (by omega) (by omega)) fun v => Mono.bind (Mono.stat v) fun _ => Mono.bind Mono.less fun _ => Mono.bind Mono.less fun _ => Mono.pure _
theorem Mono.trap : Mono trapS :=
  Mono.bind (Mono.get 2 (by omega) (by omega)) fun _ => Mono.bind (Mono.get 2 (by omega) (by omega)) fun _ => Mono.bind (Mono.get 2 (by omega) (by omega)) fun _ => Mono.bind Mono.less fun _ => Mono.pure _
theorem Mono.code : Mono codeS :=
  Mono.bind (Mono.get 4 (by omega) (by omega)) fun _ => Mono.bind (Mono.get 2 (by omega) (by omega)) fun _ => Mono.bind (Mono.get 2 (by omega) (by omega)) fun _ => Mono.bind (Mono.get 2 (by omega) (by omega)) fun _ => Mono.bind (Mono.get 2 (by omega) (by omega)) fun _ => Mono.bind (Mono.many Mono.trap) fun _ => Mono.pure _
theorem Mono.image : Mono imageS :=
  Mono.bind (Mono.many Mono.cls) fun _ => Mono.bind (Mono.many Mono.meth) fun ms => Mono.bind (Mono.get 2 (by omega) (by omega)) fun _ => Mono.bind Mono.ints fun _ => Mono.bind (Mono.many (Mono.text 1 (by omega) (by omega))) fun _ => Mono.bind (Mono.many (Mono.text 2 (by omega) (by omega))) fun _ => Mono.bind (Mono.get 2 (by omega) (by omega)) fun _ => Mono.bind (Mono.row Mono.code ms.length) fun _ => Mono.pure _
theorem laid_fin (l : List KP) (pos f1 f2 : Int) (h1 : laidP l pos f1 = true) (h2 : laidP l pos f2 = true) : f1 = f2 := by
  induction l generalizing pos with
  | nil =>
    simp only [laidP, decide_eq_true_eq] at h1 h2
    omega
  | cons k l ih =>
    simp only [laidP] at h1 h2
    split at h1
    · simp at h1
    · rename_i hk
      rw [if_neg hk] at h2
      exact ih _ h1 h2
theorem parse_ok {bs : List UInt8} (h : (parseR bs).2 = 0) : (imageS bs (4, 0)).2.2 = 0 ∧ laidP (imageS bs (4, 0)).1.ks (imageS bs (4, 0)).2.1 bs.length = true := by
  unfold parseR at h
  split at h
  · simp at h
  split at h
  · simp at h
  split at h
  · rename_i h1
    exact absurd h h1
  · rename_i h1
    split at h
    · simp at h
    · rename_i h2
      exact ⟨by omega, by simpa using h2⟩
/-- Of two bytes of which one begins the other, only the same can both be images. -/
theorem parse_ext {bs t : List UInt8} (h1 : (parseR bs).2 = 0) (h2 : (parseR (bs ++ t)).2 = 0) : t = [] := by
  obtain ⟨e1, e2⟩ := parse_ok h1
  obtain ⟨e3, e4⟩ := parse_ok h2
  obtain ⟨_, e5⟩ := Mono.image bs t (4, 0) e1
  rw [e5] at e4
  have := laid_fin _ _ _ _ e2 e4
  rw [List.length_append] at this
  exact List.eq_nil_of_length_eq_zero (by omega)
theorem parse_cut {bs : List UInt8} (h : (parseR bs).2 = 0) (c : Nat) (hc : c < bs.length) : (parseR (bs.take c)).2 ≠ 0 := by
  intro h2
  have e : bs = bs.take c ++ bs.drop c := (List.take_append_drop c bs).symm
  rw [e] at h
  have := parse_ext h2 h
  have h3 : (bs.drop c).length = 0 := by rw [this]; rfl
  rw [List.length_drop] at h3
  omega
theorem parse_more {bs : List UInt8} (h : (parseR bs).2 = 0) (m : UInt8) : (parseR (bs ++ [m])).2 ≠ 0 := fun h2 => by
  have := parse_ext h h2
  simp at this
end Go.Proofs.Ytbcldlbmbdfejaa
