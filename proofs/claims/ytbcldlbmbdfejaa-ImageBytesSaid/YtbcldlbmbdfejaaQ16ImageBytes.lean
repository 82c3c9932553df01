/- image: the law's fixed calls. No condition. -/
import Derived.Test.YtbcldlbmbdfejaaQ10ImageBytes
import Derived.Test.YtbcldlbmbdfejaaQ15ImageBytes
import Derived.Laws.StructEq
import Derived.Test.YtbcldlbmbdfejaaQ01ImageBytes
import Derived.Lib.SmallJoins
import Derived.OpenShut
namespace Go.Proofs.Ytbcldlbmbdfejaa
open Go.ChangeShapes Go.WideShapes Go.ChangeAt Go.RowKit
def b18 : List UInt8 := [67, 73, 48, 49, 0, 0, 0, 0, 0, 0, 0, 0, 0, 0, 0, 0, 0, 0]
theorem fxB : imgBytes x0W [] = (0, b18) := by kernel_rfl
theorem fxP : parseR b18 = (xp0, 0) := by kernel_rfl
theorem fxL1 : lkOk [⟨177, 0, 0, 0⟩] = true := by kernel_rfl
theorem fxL2 : lkB [⟨177, 0, 0, 0⟩] = [177] := by kernel_rfl
theorem fxL3 : placesL [⟨177, 0, 0, 0⟩] = [0, 1] := by kernel_rfl
theorem fxL4 : lkOk [⟨255, 0, 0, 0⟩] = false := by kernel_rfl
theorem x0W_right : x0W.Right := by
  have h0 : IntR 0 := by unfold IntR; omega
  exact ⟨h0, h0, (fun c hc => by cases hc), (fun c hc => by cases hc), (fun c hc => by cases hc), (fun c hc => by cases hc), by decide, by decide, by decide, by decide, by decide, (fun k hk => by cases hk)⟩
theorem LK.right0 (k : Nat) (h : k < 256) : (⟨k, 0, 0, 0⟩ : LK).right := by
  have h0 : IntR 0 := by unfold IntR; omega
  exact ⟨h, h0, h0, h0⟩
set_option maxRecDepth 100000 in
set_option maxHeartbeats 8000000 in
theorem fixed25 (w : World) : Calls Try.prog 7 #[] w (QuietRet (.bool true) w) := by
  have HS1 := Lib.hid (show Ls (w.alloc (.cells #[.int .u8 177, .int .i64 0, .int .i64 0, .int .i64 0] 54)) (some ⟨w.heap.size, 0, none⟩) 1 [⟨177, 0, 0, 0⟩] from Ss.lit LK.len (heap_alloc_last w _) rfl rfl)
  have HL1 := Lib.hid (Link_any _ _ 1 1 _ HS1.out (by decide) (fun r hr => by rw [List.mem_singleton.1 hr]; exact LK.right0 177 (by decide)))
  go_enter Try.func7, Try.ntmps7
  go_wp2_with fail
  refine HL1.out.mono ?_
  rintro e w1 (⟨_, v1, m1, p1, rfl, ho1, hp1, hb1⟩ | ⟨hbad, _⟩)
  case inr => rw [fxL1] at hbad; cases hbad
  rw [fxL2] at ho1
  rw [fxL3] at hp1
  simp only [List.length_singleton] at hp1
  have hm1 : m1 = 1 := ho1.len.symm
  subst hm1
  obtain ⟨a1, c1, rfl, hs1, hc1⟩ := ho1.sl
  obtain ⟨a2, c2, rfl, hs2, hc2⟩ := Sl.ofOwn hp1
  have H1 := Lib.hid hs1
  have H2 := Lib.hid hs2
  have HB1 := Lib.hid (((Below.refl w.heap.size w).alloc (Nat.le_refl _) (.cells #[.int .u8 177, .int .i64 0, .int .i64 0, .int .i64 0] 54)).trans (hb1.mono (by simp)))
  clear ho1 hp1 hb1 hs1 hs2 HL1 HS1
  have HS2 := Lib.hid (show Ls (w1.alloc (.cells #[.int .u8 255, .int .i64 0, .int .i64 0, .int .i64 0] 54)) (some ⟨w1.heap.size, 0, none⟩) 1 [⟨255, 0, 0, 0⟩] from Ss.lit LK.len (heap_alloc_last w1 _) rfl rfl)
  have HL2 := Lib.hid (Link_any _ _ 1 1 _ HS2.out (by decide) (fun r hr => by rw [List.mem_singleton.1 hr]; exact LK.right0 255 (by decide)))
  go_wp2_with fail
  refine HL2.out.mono ?_
  rintro e w2 (⟨hbad, _⟩ | ⟨_, rfl, hb2⟩)
  · rw [fxL4] at hbad; cases hbad
  have hb12 : Below w1.heap.size w1 w2 := ((Below.refl w1.heap.size w1).alloc (Nat.le_refl _) (.cells #[.int .u8 255, .int .i64 0, .int .i64 0, .int .i64 0] 54)).trans (hb2.mono (by simp))
  have H1' := Lib.hid (H1.out.below hb12)
  have H2' := Lib.hid (H2.out.below hb12)
  have HB2 := Lib.hid (HB1.out.trans (hb12.mono HB1.out.size))
  clear hb2 hb12 HL2 HS2 H1 H2 HB1
  have HBY := Lib.hid (Bytes_any w2 x0W (x0W_rd w2) x0W_right none 0 0 [] (Sl.nil _ _) (fun f hf => by cases hf) (fun _ _ => by decide))
  rw [show ([] : List BV).map (·.data) = [] from rfl, fxB] at HBY
  rw [x0W_vals] at HBY
  unfold zImg at HBY
  go_wp2_with fail
  refine HBY.out.mono ?_
  rintro e w3 ⟨a3, m3, c3, rfl, hs3, hc3, hb3⟩
  have hm3 : m3 = 18 := hs3.1.symm
  subst hm3
  have H1 := Lib.hid (H1'.out.below hb3)
  have H2 := Lib.hid (H2'.out.below hb3)
  have H3 := Lib.hid hs3
  have HB3 := Lib.hid (HB2.out.trans (hb3.mono HB2.out.size))
  have HPA := Lib.hid (Parse_any w3 a3 18 c3 b18 hs3 hc3 (by decide))
  rw [fxP] at HPA
  clear hs3 hb3 H1' H2' HB2 HBY
  go_wp2_with fail
  refine HPA.out.mono ?_
  rintro e w4 ⟨x, rfl, hxp, _, hb4⟩
  have hmain : x.main = 0 := congrArg XP.main hxp
  have H1' := Lib.hid (H1.out.below hb4)
  have H2' := Lib.hid (H2.out.below hb4)
  have HB4 := Lib.hid (HB3.out.trans (hb4.mono HB3.out.size))
  obtain ⟨ca, cn, cc, cs, ma, mn, mc, ms, st, sa, sn, sc, ss, ya, yn, yc, ys, xa, xn, xc, xs, ka, kn, kc, ks, main⟩ := x
  simp only at hmain
  subst hmain
  unfold XW.vals
  simp only
  clear hxp hb4 H1 H2 H3 HB3 HPA
  go_upto_region 5 with fail
  have hal : Below w4.heap.size w4 (w4.alloc (.cells #[.slice ca cn cc, .slice ma mn mc, .int .i64 st, .slice sa sn sc, .slice ya yn yc, .slice xa xn xc, .slice ka kn kc, .int .i64 0] 30)) := (Below.refl _ _).alloc (Nat.le_refl _) _
  have HX := Lib.hid (heap_alloc_last w4 (.cells #[.slice ca cn cc, .slice ma mn mc, .int .i64 st, .slice sa sn sc, .slice ya yn yc, .slice xa xn xc, .slice ka kn kc, .int .i64 0] 30))
  have H1 := Lib.hid (H1'.out.below hal)
  have H2 := Lib.hid (H2'.out.below hal)
  have HB5 := Lib.hid (HB4.out.trans (hal.mono HB4.out.size))
  clear hal H1' H2' HB4
  generalize w4.alloc (.cells #[.slice ca cn cc, .slice ma mn mc, .int .i64 st, .slice sa sn sc, .slice ya yn yc, .slice xa xn xc, .slice ka kn kc, .int .i64 0] 30) = w5 at *
  generalize w4.heap.size = gx at *
  have c7 := row_cell HX.out 7 rfl
  have cv := run_conv H1.out c1
  obtain ⟨b2, o2, rfl, _, hcell⟩ := H2.out.2 (by decide)
  have q1 := hcell 1 (by decide)
  unfold encP at q1
  simp only [List.getElem_cons_succ, List.getElem_cons_zero] at q1
  clear hcell
  go_wp2_with fail
  go_ret
  exact ⟨rfl, HB5.out⟩
end Go.Proofs.Ytbcldlbmbdfejaa
/- image: ImageNext. No condition. -/
namespace Go.Proofs.Ytbcldlbmbdfejaa
open Go.ChangeShapes Go.WideShapes Go.ChangeAt Go.RowKit
theorem link_fields : Try.prog.underlying 54 = some (.struct (Try.prog.fieldsOf 54)) := by kernel_rfl
theorem link_held : Try.prog.stoodInHeld 54 = false := by kernel_rfl
theorem link_guard : Try.prog.eqGuardType Try.prog.depth 54 = false := by kernel_rfl
theorem link_list : (Try.prog.fieldsOf 54).toList.map (fun f => (f.name, f.type, f.offset)) = [("Op", 5, 0), ("A", 3, 1), ("B", 3, 2), ("N", 2, 3)] := by kernel_rfl
/-- Are two instructions the same? -/
def sameL (c d : LK) : Bool := decide (c.op = d.op ∧ c.a = d.a ∧ c.b = d.b ∧ c.n = d.n)
theorem sameL_self (c : LK) : sameL c c = true := decide_eq_true ⟨rfl, rfl, rfl, rfl⟩
theorem run_equalL (w : World) (d : Nat) (x y : LK) : (Op.equalIn (d + 1 + 1) 54 (.agg #[.int .u8 (x.op : Nat), .int .i64 x.a, .int .i64 x.b, .int .i64 x.n]) (.agg #[.int .u8 (y.op : Nat), .int .i64 y.a, .int .i64 y.b, .int .i64 y.n])).run Try.prog w = .ok (sameL x y) w := by
  rw [run_equalIn_struct w (d + 1) _ _ _ link_fields link_held]
  have hl := link_list
  match hf : (Try.prog.fieldsOf 54).toList, hl with
  | [f0, f1, f2, f3], hl =>
    simp only [List.map_cons, List.map_nil, List.cons.injEq, Prod.mk.injEq, and_true] at hl
    obtain ⟨⟨n0, t0, o0⟩, ⟨n1, t1, o1⟩, ⟨n2, t2, o2⟩, ⟨n3, t3, o3⟩⟩ := hl
    simp only [Op.eqFields, n0, n1, n2, n3, t0, t1, t2, t3, o0, o1, o2, o3]
    have i0 : ∀ (i : Nat) (cs : Array Value) (w : World) (h : i < cs.size), (part 3 cs i).run Try.prog w = .ok cs[i] w := fun i cs w h => part_plain Try.underlying3 rfl w cs i _ (Array.getElem?_eq_getElem h)
    have i1 : ∀ (i : Nat) (cs : Array Value) (w : World) (h : i < cs.size), (part 5 cs i).run Try.prog w = .ok cs[i] w := fun i cs w h => part_plain Try.underlying5 rfl w cs i _ (Array.getElem?_eq_getElem h)
    have i2 : ∀ (i : Nat) (cs : Array Value) (w : World) (h : i < cs.size), (part 2 cs i).run Try.prog w = .ok cs[i] w := fun i cs w h => part_plain Try.underlying2 rfl w cs i _ (Array.getElem?_eq_getElem h)
    by_cases g0 : x.op = y.op
    · by_cases g1 : x.a = y.a
      · by_cases g2 : x.b = y.b
        · simp [i0, i1, i2, run_equalIn_int _ _ _ _ _ _ _ Try.underlying3, run_equalIn_int _ _ _ _ _ _ _ Try.underlying5, run_equalIn_int _ _ _ _ _ _ _ Try.underlying2, g0, g1, g2, sameL]
          by_cases g3 : x.n = y.n <;> simp [g3]
        · simp [i0, i1, run_equalIn_int _ _ _ _ _ _ _ Try.underlying3, run_equalIn_int _ _ _ _ _ _ _ Try.underlying5, g0, g1, g2, sameL]
      · simp [i0, i1, run_equalIn_int _ _ _ _ _ _ _ Try.underlying3, run_equalIn_int _ _ _ _ _ _ _ Try.underlying5, g0, g1, sameL]
    · have g0' : ((x.op : Int) == (y.op : Int)) = false := by simp; omega
      simp [i0, i1, run_equalIn_int _ _ _ _ _ _ _ Try.underlying3, run_equalIn_int _ _ _ _ _ _ _ Try.underlying5, g0, sameL]
      omega
  | [], hl | [_], hl | [_, _], hl | [_, _, _], hl | _ :: _ :: _ :: _ :: _ :: _, hl => simp at hl
/-- Both answer Next alike. -/
theorem Next_any (w : World) (a : Option Addr) (n cap : Nat) (bs : List UInt8) (p : Int) (hs : Sl encB w a n bs) (hn : n ≤ 1048576) (hcap : n ≤ cap) (hp : IntR p) :
    Calls Try.prog 18 #[.slice a n cap, .int .i64 p] w fun e w' => e = .returned (NextR.ret (nextR bs p)) ∧ Below w.heap.size w w' := by
  by_cases h : p < 0 ∨ (n : Int) ≤ p
  · rw [show nextR bs p = ⟨0, 0, 0, 0, 0, 2⟩ by unfold nextR; rw [if_pos (by rw [hs.1]; exact h)]]
    exact Next_out w a n cap bs p hs hn hp h
  · obtain ⟨q, rfl⟩ : ∃ q : Nat, p = (q : Int) := ⟨p.toNat, by omega⟩
    exact Next_in w a n cap bs q hs hn hcap (by omega)
theorem refNext_any (w : World) (a : Option Addr) (n cap : Nat) (bs : List UInt8) (p : Int) (hs : Sl encB w a n bs) (hn : n ≤ 1048576) (hcap : n ≤ cap) (hp : IntR p) :
    Calls Try.prog 19 #[.slice a n cap, .int .i64 p] w fun e w' => e = .returned (NextR.ret (nextR bs p)) ∧ Below w.heap.size w w' := by
  by_cases h : p < 0 ∨ (n : Int) ≤ p
  · rw [show nextR bs p = ⟨0, 0, 0, 0, 0, 2⟩ by unfold nextR; rw [if_pos (by rw [hs.1]; exact h)]]
    exact refNext_out w a n cap bs p hs hn hp h
  · obtain ⟨q, rfl⟩ : ∃ q : Nat, p = (q : Int) := ⟨p.toNat, by omega⟩
    exact refNext_in w a n cap bs q hs hn hcap (by omega)
set_option maxRecDepth 100000 in
set_option maxHeartbeats 8000000 in
theorem walk_ImageNext (a : Option Addr) (n cap : Nat) (z : List Int) (p : Int) (w : World) (h : IsRow .u8 w a n cap z) (hp : (Lit.int .i64 p).wf = true) :
    Calls Try.prog 6 #[.slice a n cap, .int .i64 p] w fun e w' => e = .returned (.bool true) ∧ Below w.heap.size w w' := by
  have hcap := Row.cap h
  obtain ⟨bs, hb, _⟩ := Bs.ofRow h
  have hs : Sl encB w a n bs := hb.sl
  have hpr : IntR p := by have h0 := bounds_i64 hp; unfold IntR; omega
  have HS := Lib.hid hs
  clear hs hb h hp
  have HF := Lib.hid (fixed25 w)
  unfold QuietRet at HF
  go_enter Try.func6, Try.ntmps6
  go_wp2_with fail
  refine HF.out.mono ?_
  rintro e w1 ⟨rfl, hb1⟩
  have HB1 := Lib.hid hb1
  clear hb1 HF
  by_cases h2 : 2000 < n
  · have ed : decide ((2000 : Int) < n) = true := by simp; omega
    clear h2
    go_wp2_with fail
    go_ret
    exact ⟨rfl, HB1.out⟩
  have ed : decide ((2000 : Int) < n) = false := by simp; omega
  have HN1 := Lib.hid (fun w' (h : Below w.heap.size w w') => Next_any w' a n cap bs p (HS.out.below h) (by omega) hcap hpr)
  have HN2 := Lib.hid (fun w' (h : Below w.heap.size w w') => refNext_any w' a n cap bs p (HS.out.below h) (by omega) hcap hpr)
  generalize nextR bs p = r at *
  obtain ⟨k, x, y, z', sz, er⟩ := r
  unfold NextR.ret LinkV at HN1 HN2
  simp only at HN1 HN2
  clear h2
  go_wp2_with fail
  refine (HN1.out w1 HB1.out).mono ?_
  rintro e w2 ⟨rfl, hb2⟩
  have HB2 := Lib.hid (HB1.out.trans (hb2.mono HB1.out.size))
  clear hb2
  go_upto_region 6 with fail
  have hal : Below w2.heap.size w2 (w2.alloc (.cells #[.int .u8 (k : Nat), .int .i64 x, .int .i64 y, .int .i64 z'] 54)) := (Below.refl _ _).alloc (Nat.le_refl _) _
  have HX := Lib.hid (show Blk4 (w2.alloc (.cells #[.int .u8 (k : Nat), .int .i64 x, .int .i64 y, .int .i64 z'] 54)) w2.heap.size (.int .u8 (k : Nat)) (.int .i64 x) (.int .i64 y) (.int .i64 z') 54 from heap_alloc_last w2 _)
  have HB3 := Lib.hid (HB2.out.trans (hal.mono HB2.out.size))
  clear hal HB2
  generalize w2.alloc (.cells #[.int .u8 (k : Nat), .int .i64 x, .int .i64 y, .int .i64 z'] 54) = w3 at *
  generalize w2.heap.size = g1 at *
  go_wp2_with fail
  refine (HN2.out w3 HB3.out).mono ?_
  rintro e w4 ⟨rfl, hb4⟩
  have HB4 := Lib.hid (HB3.out.trans (hb4.mono HB3.out.size))
  have HX4 := Lib.hid (HX.out.below hb4)
  clear hb4 HX HB3
  go_upto_region 7 with fail
  have hal : Below w4.heap.size w4 (w4.alloc (.cells #[.int .u8 (k : Nat), .int .i64 x, .int .i64 y, .int .i64 z'] 54)) := (Below.refl _ _).alloc (Nat.le_refl _) _
  have HY := Lib.hid (show Blk4 (w4.alloc (.cells #[.int .u8 (k : Nat), .int .i64 x, .int .i64 y, .int .i64 z'] 54)) w4.heap.size (.int .u8 (k : Nat)) (.int .i64 x) (.int .i64 y) (.int .i64 z') 54 from heap_alloc_last w4 _)
  have HX5 := Lib.hid (HX4.out.below hal)
  have HB5 := Lib.hid (HB4.out.trans (hal.mono HB4.out.size))
  clear hal HB4 HX4
  generalize w4.alloc (.cells #[.int .u8 (k : Nat), .int .i64 x, .int .i64 y, .int .i64 z'] 54) = w5 at *
  generalize w4.heap.size = g2 at *
  obtain ⟨c0, c1, c2, c3, f0, f1, f2, f3, lt4⟩ := HX5.out.box
  obtain ⟨d0, d1, d2, d3, i0, i1, i2, i3, lt5⟩ := HY.out.box
  have hq := run_equalL w5 9998 ⟨k, x, y, z'⟩ ⟨k, x, y, z'⟩
  rw [sameL_self] at hq
  have hgd := link_guard
  go_wp2_with fail
  go_ret
  exact ⟨rfl, HB5.out⟩
end Go.Proofs.Ytbcldlbmbdfejaa
/- image: ImageLinks. No condition. -/
namespace Go.Proofs.Ytbcldlbmbdfejaa
open Go.ChangeShapes Go.WideShapes Go.ChangeAt Go.RowKit
/-- What is put stands there. -/
theorem get_put_atI (pre t : List UInt8) (v m : Nat) (h1 : 1 ≤ m) (h8 : m ≤ 8) : getR (pre ++ (putB v m ++ t)) (pre.length : Nat) (m : Nat) = (((v % 256 ^ m : Nat) : Int), 0) := by
  unfold getR
  rw [if_neg (by omega), if_neg (by simp [putB_length]; omega)]
  simp only [Int.toNat_natCast]
  rw [List.drop_left, List.take_append_of_le_length (by rw [putB_length]; exact Nat.le_refl _), List.take_of_length_le (by rw [putB_length]; exact Nat.le_refl _), get_put]
theorem get_put_0 (pre t : List UInt8) (v m : Nat) (h8 : m ≤ 8) (hv : v < 256 ^ m) : (getR (pre ++ (putB v m ++ t)) (pre.length : Nat) (m : Nat)).1 = (v : Int) := by
  by_cases h0 : m = 0
  · subst h0
    have : v = 0 := by simp at hv; omega
    subst this
    unfold getR
    rw [if_pos (by omega)]
    rfl
  · rw [get_put_atI pre t v m (by omega) h8, Nat.mod_eq_of_lt hv]
theorem room_u64 {v : Int} {n : Nat} (hn : n ≤ 2) (h : roomB v n = true) : (u64V v : Int) = v ∧ u64V v < 256 ^ n := by
  unfold roomB at h
  have h2 := of_decide_eq_true h
  have e : (2 : Int) ^ (8 * n) = ((256 ^ n : Nat) : Int) := by
    have : n = 0 ∨ n = 1 ∨ n = 2 := by omega
    rcases this with rfl | rfl | rfl <;> decide
  have h3 : (256 ^ n : Nat) ≤ 65536 := by
    have : n = 0 ∨ n = 1 ∨ n = 2 := by omega
    rcases this with rfl | rfl | rfl <;> decide
  rw [e] at h2
  unfold u64V
  omega
theorem signB_mod (v : Nat) (n : Nat) (h1 : 1 ≤ n) (h8 : n ≤ 8) : signB ((v % 256 ^ n : Nat) : Int) n = signB (v : Int) n := by
  unfold signB
  rw [if_neg (by omega), if_neg (by omega)]
  have e : (2 : Int) ^ (8 * ((n : Int)).toNat) = ((256 ^ n : Nat) : Int) := by
    rw [Int.toNat_natCast]
    have : (256 : Nat) ^ n = 2 ^ (8 * n) := by rw [show (256 : Nat) = 2 ^ 8 from rfl, ← Nat.pow_mul]
    rw [this]
    norm_cast
  rw [e]
  congr 1
  rw [Int.natCast_emod, Int.emod_add_emod]
theorem next_link (pre t : List UInt8) (r : LK) (hr : r.right) (ho : r.ok = true) : nextR (pre ++ (r.bytes ++ t)) (pre.length : Nat) = ⟨r.op, r.a, r.b, r.n, (r.bytes.length : Nat), 0⟩ := by
  obtain ⟨o, x, y, z⟩ := r
  obtain ⟨hop, hx, hy, hz⟩ := hr
  simp only at hop hx hy hz
  obtain ⟨wa, wb, wn, ok, hq⟩ : ∃ wa wb wn ok, imgW o = (wa, wb, wn, ok) := ⟨_, _, _, _, rfl⟩
  have hsm := imgW_small ⟨o, hop⟩
  simp only [hq] at hsm
  obtain ⟨ha2, hb1, hn8⟩ := hsm
  unfold LK.ok at ho
  simp only [hq, Bool.and_eq_true] at ho
  obtain ⟨⟨⟨rfl, ra⟩, rb⟩, rn⟩ := ho
  have hby : LK.bytes ⟨o, x, y, z⟩ = [UInt8.ofNat o] ++ putB (u64V x) wa ++ putB (u64V y) wb ++ putB (u64V z) wn := by unfold LK.bytes; simp only [hq]
  rw [hby]
  have hlen : ([UInt8.ofNat o] ++ putB (u64V x) wa ++ putB (u64V y) wb ++ putB (u64V z) wn).length = 1 + wa + wb + wn := by simp [putB_length]; omega
  rw [hlen]
  unfold nextR
  have hk : ((pre ++ ([UInt8.ofNat o] ++ putB (u64V x) wa ++ putB (u64V y) wb ++ putB (u64V z) wn ++ t)).getD ((pre.length : Nat) : Int).toNat 0).toNat = o := by
    rw [Int.toNat_natCast]
    simp only [List.getD_eq_getElem?_getD, List.getElem?_append_right (Nat.le_refl _), Nat.sub_self, List.append_assoc, List.cons_append, List.nil_append, List.getElem?_cons_zero, Option.getD_some]
    exact UInt8.toNat_ofNat_of_lt' hop
  rw [if_neg (by rw [List.length_append, List.length_append, hlen]; omega)]
  simp only [hk, hq]
  rw [if_neg (by decide), if_neg (by rw [List.length_append, List.length_append, hlen]; omega)]
  obtain ⟨ea, la⟩ := room_u64 ha2 ra
  obtain ⟨eb, lb⟩ := room_u64 (by omega) rb
  have e1 : pre ++ ([UInt8.ofNat o] ++ putB (u64V x) wa ++ putB (u64V y) wb ++ putB (u64V z) wn ++ t) = (pre ++ [UInt8.ofNat o]) ++ (putB (u64V x) wa ++ (putB (u64V y) wb ++ putB (u64V z) wn ++ t)) := by simp only [List.append_assoc]
  have e2 : pre ++ ([UInt8.ofNat o] ++ putB (u64V x) wa ++ putB (u64V y) wb ++ putB (u64V z) wn ++ t) = (pre ++ [UInt8.ofNat o] ++ putB (u64V x) wa) ++ (putB (u64V y) wb ++ (putB (u64V z) wn ++ t)) := by simp only [List.append_assoc]
  have e3 : pre ++ ([UInt8.ofNat o] ++ putB (u64V x) wa ++ putB (u64V y) wb ++ putB (u64V z) wn ++ t) = (pre ++ [UInt8.ofNat o] ++ putB (u64V x) wa ++ putB (u64V y) wb) ++ (putB (u64V z) wn ++ t) := by simp only [List.append_assoc]
  have g1 := get_put_0 (pre ++ [UInt8.ofNat o]) (putB (u64V y) wb ++ putB (u64V z) wn ++ t) (u64V x) wa (by omega) la
  have g2 := get_put_0 (pre ++ [UInt8.ofNat o] ++ putB (u64V x) wa) (putB (u64V z) wn ++ t) (u64V y) wb (by omega) lb
  rw [← e1] at g1
  rw [← e2] at g2
  have l1 : ((pre ++ [UInt8.ofNat o]).length : Int) = (pre.length : Int) + 1 := by simp
  have l2 : ((pre ++ [UInt8.ofNat o] ++ putB (u64V x) wa).length : Int) = (pre.length : Int) + 1 + wa := by simp [putB_length]; omega
  have l3 : ((pre ++ [UInt8.ofNat o] ++ putB (u64V x) wa ++ putB (u64V y) wb).length : Int) = (pre.length : Int) + 1 + wa + wb := by simp [putB_length]; omega
  rw [l1] at g1
  rw [l2] at g2
  rw [g1, g2, ea, eb]
  have g3 : signB (getR (pre ++ ([UInt8.ofNat o] ++ putB (u64V x) wa ++ putB (u64V y) wb ++ putB (u64V z) wn ++ t)) ((pre.length : Int) + 1 + wa + wb) wn).1 wn = z := by
    unfold sgnB at rn
    by_cases h0 : wn = 0
    · subst h0
      rw [if_pos rfl] at rn
      have hz0 := of_decide_eq_true rn
      rw [signB_odd _ _ (by omega), hz0]
    · rw [if_neg h0] at rn
      have hz0 := of_decide_eq_true rn
      have g := get_put_atI (pre ++ [UInt8.ofNat o] ++ putB (u64V x) wa ++ putB (u64V y) wb) t (u64V z) wn (by omega) hn8
      rw [← e3, l3] at g
      rw [g, signB_mod _ _ (by omega) hn8]
      exact hz0
  rw [g3]
  congr 1
theorem places_at (L : List LK) (i : Nat) (hi : i ≤ L.length) : (placesL L)[i]? = some (lkB (L.take i)).length := by
  unfold placesL
  rw [List.getElem?_map, List.getElem?_range (by omega)]
  rfl
theorem next_at (L : List LK) (i : Nat) (r : LK) (h : L[i]? = some r) (hr : r.right) (ho : r.ok = true) : nextR (lkB L) ((lkB (L.take i)).length : Nat) = ⟨r.op, r.a, r.b, r.n, (r.bytes.length : Nat), 0⟩ := by
  obtain ⟨hj, he⟩ := List.getElem?_eq_some_iff.1 h
  have e : lkB L = lkB (L.take i) ++ (r.bytes ++ lkB (L.drop (i + 1))) := by
    unfold lkB
    rw [← List.append_assoc, ← List.flatMap_singleton (f := LK.bytes) (x := r), ← List.flatMap_append, ← List.flatMap_append, ← he, List.append_assoc, List.singleton_append, ← List.drop_eq_getElem_cons hj, List.take_append_drop]
  rw [e]
  exact next_link _ _ r hr ho
set_option maxRecDepth 100000 in
set_option maxHeartbeats 8000000 in
theorem sameInts_any (w : World) (a : Option Addr) (n cap : Nat) (xs : List Int) (hs : Sl encZ w a n xs) (b : Option Addr) (m cm : Nat) (ys : List Int) (ht : Sl encZ w b m ys) (hn : n ≤ 9223372036854775806) (hm : m ≤ 9223372036854775806) :
    Calls Try.prog 17 #[.slice a n cap, .slice b m cm] w fun e w' => e = .returned (.bool (decide (xs = ys))) ∧ Below w.heap.size w w' := by
  have HS := Lib.hid hs
  have HT := Lib.hid ht
  have HL1 := Lib.hid hs.1
  have HL2 := Lib.hid ht.1
  clear hs ht
  go_enter Try.func17, Try.ntmps17
  by_cases hnm : n = m
  case neg =>
    have e1 : ((n : Int) != (m : Int)) = true := by simp; omega
    have HF := Lib.hid (show decide (xs = ys) = false from decide_eq_false (fun h => hnm (by rw [← HL1.out, ← HL2.out, h])))
    clear hnm
    go_wp2_with fail
    go_ret
    exact ⟨by rw [HF.out]; rfl, Below.refl _ _⟩
  subst hnm
  go_wp2_with fail
  go_loopg [13] n (fun gn i wr => ∃ j : Nat, j ≤ n ∧ gn = n - j ∧ i = .int .i64 j ∧ Hid (xs.take j = ys.take j) ∧ Hid (Below w.heap.size w wr))
  case atStart => exact ⟨0, by omega, by omega, by go_num, Lib.hid rfl, Lib.hid (Below.refl _ _)⟩
  case round =>
    obtain ⟨j, hj, rfl, rfl, HQ, HB⟩ := hrel
    by_cases hlt : j < n
    · obtain ⟨b1, o1, x, rfl, hb1, hx, q1⟩ := (HS.out.below HB.out).getZ j hlt
      obtain ⟨b2, o2, y, rfl, hb2, hy, q2⟩ := (HT.out.below HB.out).getZ j hlt
      have HX := Lib.hid hx
      have HY := Lib.hid hy
      clear hx hy
      by_cases hxy : x = y
      · have e1 : (x != y) = false := by simp [hxy]
        have HN := Lib.hid (show xs.take (j + 1) = ys.take (j + 1) by rw [take_snocX HX.out, take_snocX HY.out, HQ.out, hxy])
        clear hxy HQ
        go_wp2_with fail
        go_quiet (fail)
        go_wp2_with fail
        go_roundg (n - (j + 1))
        case measure => omega
        case rel => exact ⟨j + 1, by omega, rfl, by go_num, HN, Lib.hid (bdrewN HB.out _)⟩
      · have e1 : (x != y) = true := by simp [hxy]
        have HF := Lib.hid (show decide (xs = ys) = false from decide_eq_false (fun h => hxy (by have h1 := HX.out; rw [h, HY.out] at h1; simpa using h1.symm)))
        clear hxy HQ
        go_wp2_with fail
        go_quiet (fail)
        go_wp2_with fail
        go_ret
        exact ⟨by rw [HF.out]; rfl, bdrewN HB.out _⟩
    · obtain rfl : n = j := by omega
      have HF := Lib.hid (show decide (xs = ys) = true from decide_eq_true (by have h := HQ.out; rwa [List.take_of_length_le (by rw [HL1.out]; exact Nat.le_refl _), List.take_of_length_le (by rw [HL2.out]; exact Nat.le_refl _)] at h))
      go_wp2_with fail
      go_ret
      exact ⟨by rw [HF.out]; rfl, HB.out⟩
end Go.Proofs.Ytbcldlbmbdfejaa
/- image: the same texts. No condition. -/
namespace Go.Proofs.Ytbcldlbmbdfejaa
open Go.ChangeShapes Go.WideShapes Go.ChangeAt Go.RowKit
set_option maxRecDepth 100000 in
set_option maxHeartbeats 8000000 in
theorem sameTexts_any (w : World) (a : Option Addr) (n cap : Nat) (xs : List (List UInt8)) (hs : Sl encS w a n xs) (b : Option Addr) (m cm : Nat) (ys : List (List UInt8)) (ht : Sl encS w b m ys) (hn : n ≤ 9223372036854775806) (hm : m ≤ 9223372036854775806) :
    Calls Try.prog 41 #[.slice a n cap, .slice b m cm] w fun e w' => e = .returned (.bool (decide (xs = ys))) ∧ Below w.heap.size w w' := by
  have HS := Lib.hid hs
  have HT := Lib.hid ht
  have HL1 := Lib.hid hs.1
  have HL2 := Lib.hid ht.1
  clear hs ht
  go_enter Try.func41, Try.ntmps41
  by_cases hnm : n = m
  case neg =>
    have e1 : ((n : Int) != (m : Int)) = true := by simp; omega
    have HF := Lib.hid (show decide (xs = ys) = false from decide_eq_false (fun h => hnm (by rw [← HL1.out, ← HL2.out, h])))
    clear hnm
    go_wp2_with fail
    go_ret
    exact ⟨by rw [HF.out]; rfl, Below.refl _ _⟩
  subst hnm
  go_wp2_with fail
  go_loopg [13] n (fun gn i wr => ∃ j : Nat, j ≤ n ∧ gn = n - j ∧ i = .int .i64 j ∧ Hid (xs.take j = ys.take j) ∧ Hid (Below w.heap.size w wr))
  case atStart => exact ⟨0, by omega, by omega, by go_num, Lib.hid rfl, Lib.hid (Below.refl _ _)⟩
  case round =>
    obtain ⟨j, hj, rfl, rfl, HQ, HB⟩ := hrel
    by_cases hlt : j < n
    · obtain ⟨b1, o1, x, rfl, hb1, hx, q1⟩ := (HS.out.below HB.out).get1 j hlt
      unfold encS at q1
      obtain ⟨b2, o2, y, rfl, hb2, hy, q2⟩ := (HT.out.below HB.out).get1 j hlt
      unfold encS at q2
      have HX := Lib.hid hx
      have HY := Lib.hid hy
      clear hx hy
      by_cases hxy : x = y
      · have e1 : (x == y) = true := by simp [hxy]
        have HN := Lib.hid (show xs.take (j + 1) = ys.take (j + 1) by rw [take_snocX HX.out, take_snocX HY.out, HQ.out, hxy])
        clear hxy HQ
        go_wp2_with fail
        go_quiet (fail)
        go_wp2_with fail
        go_roundg (n - (j + 1))
        case measure => omega
        case rel => exact ⟨j + 1, by omega, rfl, by go_num, HN, Lib.hid (bdrewN HB.out _)⟩
      · have e1 : (x == y) = false := by simp [hxy]
        have HF := Lib.hid (show decide (xs = ys) = false from decide_eq_false (fun h => hxy (by have h1 := HX.out; rw [h, HY.out] at h1; simpa using h1.symm)))
        clear hxy HQ
        go_wp2_with fail
        go_quiet (fail)
        go_wp2_with fail
        go_ret
        exact ⟨by rw [HF.out]; rfl, bdrewN HB.out _⟩
    · obtain rfl : n = j := by omega
      have HF := Lib.hid (show decide (xs = ys) = true from decide_eq_true (by have h := HQ.out; rwa [List.take_of_length_le (by rw [HL1.out]; exact Nat.le_refl _), List.take_of_length_le (by rw [HL2.out]; exact Nat.le_refl _)] at h))
      go_wp2_with fail
      go_ret
      exact ⟨by rw [HF.out]; rfl, HB.out⟩
end Go.Proofs.Ytbcldlbmbdfejaa
/- image: instructions that came in. No condition. -/
namespace Go.Proofs.Ytbcldlbmbdfejaa
open Go.ChangeShapes Go.WideShapes Go.ChangeAt Go.RowKit Go.Joins Go.Deep
/-- A slice of instructions that came in. -/
def IsLs (w : World) (a : Option Addr) (n cap : Nat) : Prop := n ≤ cap ∧ n ≤ maxLen ∧ ∃ L, Ls w a n L ∧ ∀ r ∈ L, r.right
section
variable {H : Type} {enc : TypeId × Value → H} {w : World} {r : Reach} {b0 : Nat} {v : Value} {d : DataW H} {p : List MemPlace}
theorem int_ofL {k : IntKind} {t : TypeId} {fuel : Nat} {v : Value} {x : DataW H × List MemPlace} (ht : Try.prog.underlying t = some (.int k)) (hf : DataW.trod enc Try.prog w 0 (fun _ => true) true fuel t [v] = some x) : ∃ n, v = .int k n ∧ (Lit.int k n).wf = true := by
  obtain ⟨n, hcs, _, hw⟩ := DataW.trod_int ht hf
  simp at hcs
  exact ⟨n, hcs, hw⟩
theorem add_twoL (b off k j : Nat) : ((⟨b, off, none⟩ : Addr).add k).add j = ⟨b, off + k + j, none⟩ := by rw [addr_add, addr_add]
theorem add_zeroL (x : Addr) (k : Nat) : (x.add (0 * k)).add 0 = x := by simp [Addr.add]
theorem cells_link4 : Try.prog.cellsOf 54 = 4 := by kernel_rfl
theorem wf_u8L {n : Int} (h : (Lit.int .u8 n).wf = true) : ∃ k : Nat, n = k ∧ k < 256 := by
  unfold Lit.wf at h
  simp only [Bool.and_eq_true, decide_eq_true_eq] at h
  have h1 : 0 ≤ n := h.1
  have h2 : n ≤ 255 := h.2
  exact ⟨n.toNat, by omega, by omega⟩
theorem wf_i64L {n : Int} (h : (Lit.int .i64 n).wf = true) : IntR n := bounds_i64 h
set_option maxRecDepth 100000 in
theorem open_links (hv : Value.okWide Try.prog w r b0 47 v) (h : DataW.Trod enc Try.prog w 0 (fun _ => true) true 47 v d p) : ∃ a n cap, v = .slice a n cap ∧ IsLs w a n cap := by
  obtain ⟨a, n, cap, rfl⟩ := okWide_slice Try.underlying47 hv
  refine ⟨a, n, cap, rfl, ?_⟩
  obtain ⟨fuel, hf⟩ := h
  rcases open_slice Try.underlying47 hf with ⟨hcs, _⟩ | ⟨x, len, c, m, n', D, Pl, hcs, _, hl, hm, hmm, _, hi⟩
  · simp [Value.cells] at hcs
    obtain ⟨rfl, rfl, rfl⟩ := hcs
    exact ⟨by omega, by unfold maxLen; omega, [], Ss.nil _ _, fun c hc => by cases hc⟩
  · simp [Value.cells] at hcs
    obtain ⟨rfl, rfl, rfl⟩ := hcs
    simp only [if_true] at hmm
    subst hmm
    refine ⟨hl, by omega, ?_⟩
    by_cases hn : 0 < n
    · have hsp : x.spot = none := by
        obtain ⟨cs', hc, ht⟩ := hi 0 (by omega)
        rw [cells_link4] at hc
        obtain ⟨_, hcl, hat⟩ := World.cells?_some hc
        match cs', hcl with
        | [c0, c1, c2, c3], _ =>
          have q0 := hat 0 (by omega)
          rw [add_zeroL] at q0
          exact World.cell?_spot q0
      obtain ⟨b, off, spot⟩ := x
      simp only at hsp
      subst hsp
      have key : ∀ i, i < n → ∃ c : LK, (∀ j, j < 4 → w.cell? ⟨b, off + i * 4 + j, none⟩ = c.cells[j]?) ∧ c.right := by
        intro i hin
        obtain ⟨cs', hc, ht⟩ := hi i (by omega)
        rw [cells_link4] at hc
        obtain ⟨_, hcl, hat⟩ := World.cells?_some hc
        match cs', hcl with
        | [c0, c1, c2, c3], _ =>
          obtain ⟨xs, k, _, _, _, hlen, hg⟩ := DataW.trod_struct Try.underlying54 ht
          match xs, hlen with
          | [y0, y1, y2, y3], _ =>
            have g0 : DataW.trod enc Try.prog w 0 (fun _ => true) true k 5 [c0] = some y0 := hg 0 _ rfl
            have g1 : DataW.trod enc Try.prog w 0 (fun _ => true) true k 3 [c1] = some y1 := hg 1 _ rfl
            have g2 : DataW.trod enc Try.prog w 0 (fun _ => true) true k 3 [c2] = some y2 := hg 2 _ rfl
            have g3 : DataW.trod enc Try.prog w 0 (fun _ => true) true k 2 [c3] = some y3 := hg 3 _ rfl
            obtain ⟨e0, rfl, w0⟩ := int_ofL Try.underlying5 g0
            obtain ⟨e1, rfl, w1⟩ := int_ofL Try.underlying3 g1
            obtain ⟨e2, rfl, w2⟩ := int_ofL Try.underlying3 g2
            obtain ⟨e3, rfl, w3⟩ := int_ofL Try.underlying2 g3
            obtain ⟨m, rfl, hm⟩ := wf_u8L w0
            refine ⟨⟨m, e1, e2, e3⟩, fun j hj => ?_, hm, wf_i64L w1, wf_i64L w2, wf_i64L w3⟩
            have q := hat j (by omega)
            rw [add_twoL] at q
            exact q
      obtain ⟨L, hL, hat⟩ := list_ofB n _ key
      refine ⟨L, ⟨hL, fun _ => ⟨b, off, rfl, ?_, fun i hi j hj => (hat i hi).1 j hj⟩⟩, fun c hc => ?_⟩
      · have q := (hat 0 (by omega)).1 0 (by omega)
        exact World.block_lt_of_cell? w _ q
      · obtain ⟨i, hi, rfl⟩ := List.getElem_of_mem hc
        exact (hat i hi).2
    · have h0 : n = 0 := by omega
      subst h0
      exact ⟨[], Ss.nil _ _, fun c hc => by cases hc⟩
end
end Go.Proofs.Ytbcldlbmbdfejaa
