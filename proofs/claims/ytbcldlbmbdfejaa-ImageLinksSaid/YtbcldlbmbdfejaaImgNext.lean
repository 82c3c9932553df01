/- image: Next, the program's. No condition. -/
import Derived.Test.YtbcldlbmbdfejaaImgW2
import Derived.Test.YtbcldlbmbdfejaaBlk4
import Derived.Test.YtbcldlbmbdfejaaRegionS
namespace Go.Proofs.Ytbcldlbmbdfejaa
open Go.ChangeShapes Go.WideShapes Go.ChangeAt Go.RowKit
/-- An instruction as a value. -/
def LinkV (k : Nat) (a b : Int) (n : Int) : Value := .agg #[.int .u8 (k : Nat), .int .i64 a, .int .i64 b, .int .i64 n]
/-- What is read. -/
structure NextR where
  k : Nat
  a : Int
  b : Int
  n : Int
  size : Int
  err : Int
def NextR.ret (r : NextR) : Value := .tuple #[LinkV r.k r.a r.b r.n, .int .i64 r.size, .int .i64 r.err]
def nextR (bs : List UInt8) (p : Int) : NextR :=
  if p < 0 ∨ (bs.length : Int) ≤ p then ⟨0, 0, 0, 0, 0, 2⟩
  else
    let k := (bs.getD p.toNat 0).toNat
    let q := imgW k
    if q.2.2.2 = false then ⟨0, 0, 0, 0, 0, 8⟩
    else if (bs.length : Int) - p < 1 + q.1 + q.2.1 + q.2.2.1 then ⟨0, 0, 0, 0, 0, 6⟩
    else ⟨k, (getR bs (p + 1) q.1).1, (getR bs (p + 1 + q.1) q.2.1).1, signB (getR bs (p + 1 + q.1 + q.2.1) q.2.2.1).1 q.2.2.1, 1 + q.1 + q.2.1 + q.2.2.1, 0⟩
theorem imgW_small : ∀ k : Fin 256, (imgW k.val).1 ≤ 2 ∧ (imgW k.val).2.1 ≤ 1 ∧ (imgW k.val).2.2.1 ≤ 8 := by decide +kernel
theorem info4 : (Try.prog.info? 54).map (·.size) = some 4 := by kernel_rfl
set_option maxRecDepth 100000 in
theorem size_any (w : World) (a b n : Nat) (ha : a ≤ 8) (hb : b ≤ 8) (hn : n ≤ 8) : Calls Try.prog 47 #[.agg #[.int .i64 (a : Nat), .int .i64 (b : Nat), .int .i64 (n : Nat)]] w fun e w' => e = .returned (.int .i64 (1 + (a : Int) + (b : Int) + (n : Int))) ∧ Below w.heap.size w w' := by
  go_enter Try.func47, Try.ntmps47
  go_wp2_with fail
  go_ret
  exact ⟨rfl, (Below.refl _ _).alloc (Nat.le_refl _) _⟩
set_option maxRecDepth 100000 in
set_option maxHeartbeats 4000000 in
theorem Next_out (w : World) (a : Option Addr) (n cap : Nat) (bs : List UInt8) (p : Int) (hs : Sl encB w a n bs) (hn : n ≤ 1048576) (hp : IntR p) (h : p < 0 ∨ (n : Int) ≤ p) :
    Calls Try.prog 18 #[.slice a n cap, .int .i64 p] w fun e w' => e = .returned (NextR.ret ⟨0, 0, 0, 0, 0, 2⟩) ∧ Below w.heap.size w w' := by
  by_cases h1 : p < 0
  · have e1 := decide_eq_true h1
    go_enter Try.func18, Try.ntmps18
    go_wp2_with fail
    exact bodyPost_ret (results_cell_row_tmp2 rfl _ _ w.heap.size _ _ _ _ rfl (heap_alloc_last w _) Try.underlying54 rfl info4) rfl ⟨rfl, (Below.refl _ _).alloc (Nat.le_refl _) _⟩
  · have e1 := decide_eq_false h1
    have h2 : (n : Int) ≤ p := by omega
    have e2 := decide_eq_true h2
    go_enter Try.func18, Try.ntmps18
    go_wp2_with fail
    exact bodyPost_ret (results_cell_row_tmp2 rfl _ _ w.heap.size _ _ _ _ rfl (heap_alloc_last w _) Try.underlying54 rfl info4) rfl ⟨rfl, (Below.refl _ _).alloc (Nat.le_refl _) _⟩
theorem get_nat (bs : List UInt8) (i : Int) (m : Nat) : ∃ v : Nat, (getR bs i m).1 = (v : Int) ∧ v < 256 ^ m := by
  unfold getR
  have h0 : 0 < 256 ^ m := Nat.pow_pos (by omega)
  split
  · exact ⟨0, rfl, h0⟩
  · split
    · exact ⟨0, rfl, h0⟩
    · refine ⟨_, rfl, ?_⟩
      have h1 := getN_lt ((bs.drop i.toNat).take ((m : Int).toNat))
      have h2 : ((bs.drop i.toNat).take ((m : Int).toNat)).length ≤ m := by rw [List.length_take]; omega
      exact Nat.lt_of_lt_of_le h1 (Nat.pow_le_pow_right (by omega) h2)
theorem get_small (bs : List UInt8) (i : Int) (m : Nat) (h : m ≤ 2) : ∃ v : Nat, (getR bs i m).1 = (v : Int) ∧ v < 65536 := by
  obtain ⟨v, h1, h2⟩ := get_nat bs i m
  exact ⟨v, h1, Nat.lt_of_lt_of_le h2 (Nat.pow_le_pow_right (by omega) h)⟩
theorem get_big (bs : List UInt8) (i : Int) (m : Nat) (h : m ≤ 8) : ∃ v : Nat, (getR bs i m).1 = (v : Int) ∧ v < 18446744073709551616 := by
  obtain ⟨v, h1, h2⟩ := get_nat bs i m
  exact ⟨v, h1, Nat.lt_of_lt_of_le h2 (Nat.pow_le_pow_right (n := 256) (by omega) h)⟩
/-- What Next's last region reads. -/
def NS (gx gw : Nat) (k : Nat) (A B N : Int) (a b n : Nat) (z : World) : Prop := Blk4 z gx (.int .u8 (k : Nat)) (.int .i64 A) (.int .i64 B) (.int .i64 N) 54 ∧ Blk3 z gw (.int .i64 (a : Nat)) (.int .i64 (b : Nat)) (.int .i64 (n : Nat)) 98
/-- The three blocks of Next. -/
structure NB (w0 w : World) (gw : Nat) (k a b n : Nat) : Prop where
  r : Blk4 w w0.heap.size (.int .u8 0) (.int .i64 0) (.int .i64 0) (.int .i64 0) 54
  x : Blk4 w (w0.heap.size + 1) (.int .u8 (k : Nat)) (.int .i64 0) (.int .i64 0) (.int .i64 0) 54
  q : Blk3 w gw (.int .i64 (a : Nat)) (.int .i64 (b : Nat)) (.int .i64 (n : Nat)) 98
  b : Below w0.heap.size w0 w
  g : w0.heap.size + 1 < gw
theorem NB.below {w0 w w' : World} {gw k a b n : Nat} (h : NB w0 w gw k a b n) (hb : Below w.heap.size w w') : NB w0 w' gw k a b n :=
  ⟨h.r.below hb, h.x.below hb, h.q.below hb, h.b.trans (hb.mono h.b.size), h.g⟩
set_option maxRecDepth 100000 in
set_option maxHeartbeats 4000000 in
theorem Next_in (w : World) (a : Option Addr) (n cap : Nat) (bs : List UInt8) (p : Nat) (hs : Sl encB w a n bs) (hn : n ≤ 1048576) (hcap : n ≤ cap) (hp : p < n) :
    Calls Try.prog 18 #[.slice a n cap, .int .i64 (p : Nat)] w fun e w' => e = .returned (NextR.ret (nextR bs p)) ∧ Below w.heap.size w w' := by
  have hl := hs.1
  have HS := Lib.hid hs
  obtain ⟨b, off, rfl, hlt, hc⟩ := hs.2 (by omega)
  obtain ⟨k, hk⟩ : ∃ k, k = (bs[p]'(by omega)).toNat := ⟨_, rfl⟩
  have hck : w.cell? ⟨b, off + p, none⟩ = some (.int .u8 (k : Nat)) := by rw [hk]; exact hc p (by omega)
  have hk256 : k < 256 := by rw [hk]; exact (bs[p]'(by omega)).toNat_lt
  have hkd : (bs.getD p 0).toNat = k := by rw [hk]; simp [List.getD, show p < bs.length by omega]
  obtain ⟨wa, wb, wn, ok, hq⟩ : ∃ wa wb wn ok, imgW k = (wa, wb, wn, ok) := ⟨_, _, _, _, rfl⟩
  have hsm := imgW_small ⟨k, hk256⟩
  simp only [hq] at hsm
  obtain ⟨ha, hb, hn8⟩ := hsm
  have HR := Lib.hid (show nextR bs p = if ok = false then ⟨0, 0, 0, 0, 0, 8⟩ else if (n : Int) - p < 1 + wa + wb + wn then ⟨0, 0, 0, 0, 0, 6⟩ else ⟨k, (getR bs ((p : Int) + 1) wa).1, (getR bs ((p : Int) + 1 + wa) wb).1, signB (getR bs ((p : Int) + 1 + wa + wb) wn).1 wn, 1 + wa + wb + wn, 0⟩ by
    unfold nextR
    rw [if_neg (by omega), Int.toNat_natCast, hkd]
    simp only [hq, hl])
  have HWD := Lib.hid (fun w' => widths_any w' k hk256)
  rw [hq] at HWD
  have HL := Lib.hid hl
  have hpn : (p : Int) < n := by omega
  have hal : Below w.heap.size w (w.alloc (.cells #[.int .u8 0, .int .i64 0, .int .i64 0, .int .i64 0] 54)) := (Below.refl _ _).alloc (Nat.le_refl _) _
  have hc1 : (w.alloc (.cells #[.int .u8 0, .int .i64 0, .int .i64 0, .int .i64 0] 54)).cell? ⟨b, off + p, none⟩ = some (.int .u8 (k : Nat)) := by
    rw [← hck]
    unfold World.cell?
    rw [hal.block b hlt]
  clear hs hc hk hkd hq hl hck
  go_enter Try.func18, Try.ntmps18
  go_upto_region 4 with fail
  change Code.wp _ _ _ _ ((w.alloc (.cells #[.int .u8 0, .int .i64 0, .int .i64 0, .int .i64 0] 54)).alloc (.cells #[.int .u8 (k : Nat), .int .i64 0, .int .i64 0, .int .i64 0] 54))
  have h2 : Below (w.alloc (.cells #[.int .u8 0, .int .i64 0, .int .i64 0, .int .i64 0] 54)).heap.size (w.alloc (.cells #[.int .u8 0, .int .i64 0, .int .i64 0, .int .i64 0] 54)) ((w.alloc (.cells #[.int .u8 0, .int .i64 0, .int .i64 0, .int .i64 0] 54)).alloc (.cells #[.int .u8 (k : Nat), .int .i64 0, .int .i64 0, .int .i64 0] 54)) := (Below.refl _ _).alloc (Nat.le_refl _) _
  have hsz : (w.alloc (.cells #[.int .u8 0, .int .i64 0, .int .i64 0, .int .i64 0] 54)).heap.size = w.heap.size + 1 := by simp only [World.alloc, Array.size_push]
  have HR1 := Lib.hid (show Blk4 ((w.alloc (.cells #[.int .u8 0, .int .i64 0, .int .i64 0, .int .i64 0] 54)).alloc (.cells #[.int .u8 (k : Nat), .int .i64 0, .int .i64 0, .int .i64 0] 54)) w.heap.size (.int .u8 0) (.int .i64 0) (.int .i64 0) (.int .i64 0) 54 from (show Blk4 (w.alloc (.cells #[.int .u8 0, .int .i64 0, .int .i64 0, .int .i64 0] 54)) w.heap.size (.int .u8 0) (.int .i64 0) (.int .i64 0) (.int .i64 0) 54 from heap_alloc_last w _).below h2)
  have hx0 := heap_alloc_last (w.alloc (.cells #[.int .u8 0, .int .i64 0, .int .i64 0, .int .i64 0] 54)) (.cells #[.int .u8 (k : Nat), .int .i64 0, .int .i64 0, .int .i64 0] 54)
  rw [hsz] at hx0
  have HX1 := Lib.hid (show Blk4 ((w.alloc (.cells #[.int .u8 0, .int .i64 0, .int .i64 0, .int .i64 0] 54)).alloc (.cells #[.int .u8 (k : Nat), .int .i64 0, .int .i64 0, .int .i64 0] 54)) (w.heap.size + 1) (.int .u8 (k : Nat)) (.int .i64 0) (.int .i64 0) (.int .i64 0) 54 from hx0)
  have HB1 := Lib.hid (hal.trans (h2.mono (by rw [hsz]; omega)))
  have HZ1 : w.heap.size + 1 < ((w.alloc (.cells #[.int .u8 0, .int .i64 0, .int .i64 0, .int .i64 0] 54)).alloc (.cells #[.int .u8 (k : Nat), .int .i64 0, .int .i64 0, .int .i64 0] 54)).heap.size := by simp only [World.alloc, Array.size_push]; omega
  clear hal hc1 h2 hsz hx0
  generalize (w.alloc (.cells #[.int .u8 0, .int .i64 0, .int .i64 0, .int .i64 0] 54)).alloc (.cells #[.int .u8 (k : Nat), .int .i64 0, .int .i64 0, .int .i64 0] 54) = w1 at *
  have hxc := HX1.out.box.c0
  go_wp2_with fail
  refine (HWD.out w1).mono ?_
  rintro e w2 ⟨rfl, hb2⟩
  have HN := Lib.hid (show NB w (w2.alloc (.cells #[.int .i64 (wa : Nat), .int .i64 (wb : Nat), .int .i64 (wn : Nat)] 98)) w2.heap.size k wa wb wn from by
    have q : Below w2.heap.size w2 (w2.alloc (.cells #[.int .i64 (wa : Nat), .int .i64 (wb : Nat), .int .i64 (wn : Nat)] 98)) := (Below.refl _ _).alloc (Nat.le_refl _) _
    exact ⟨(HR1.out.below hb2).below q, (HX1.out.below hb2).below q, heap_alloc_last w2 _, (HB1.out.trans (hb2.mono HB1.out.size)).trans (q.mono (Nat.le_trans HB1.out.size hb2.size)), Nat.lt_of_lt_of_le HZ1 hb2.size⟩)
  clear hb2 HR1 HX1 HB1 HZ1 hxc HWD
  unfold WV
  simp only
  go_upto_region 5 with fail
  obtain ⟨gw, hgw⟩ : ∃ g, g = w2.heap.size := ⟨_, rfl⟩
  rw [← hgw] at HN ⊢
  clear hgw
  generalize w2.alloc (.cells #[.int .i64 (wa : Nat), .int .i64 (wb : Nat), .int .i64 (wn : Nat)] 98) = w3 at *
  cases ok with
  | false =>
    have hr : nextR bs p = ⟨0, 0, 0, 0, 0, 8⟩ := HR.out
    have HRR := Lib.hid hr
    clear hr HR
    obtain ⟨c0, c1, c2, c3, f0, f1, f2, f3, lt4⟩ := HN.out.r.box
    go_wp2_with fail
    exact bodyPost_ret (results_cell_row_tmp2 rfl _ _ w.heap.size _ _ _ _ rfl HN.out.r.set Try.underlying54 rfl info4) rfl ⟨by rw [HRR.out]; rfl, HN.out.b.trans (keep44 _ _ _ _ _ _)⟩
  | true =>
    have HZ := Lib.hid (fun w' => size_any w' wa wb wn (by omega) (by omega) hn8)
    obtain ⟨sz, hsz⟩ : ∃ sz, sz = 1 + wa + wb + wn := ⟨_, rfl⟩
    have hszE : 1 + (wa : Int) + (wb : Int) + (wn : Int) = (sz : Int) := by omega
    rw [hszE] at HZ
    have hszl : sz ≤ 12 := by omega
    have hdf : (n : Int) - (p : Int) ≤ 1048576 := by omega
    obtain ⟨q0, q1, q2, g0, g1, g2, lt3⟩ := HN.out.q.box
    by_cases hsh : (n : Int) - p < sz
    · have hr : nextR bs p = ⟨0, 0, 0, 0, 0, 6⟩ := by
        rw [HR.out, if_neg (by simp), hszE, if_pos hsh]
      have HRR := Lib.hid hr
      have e1 := decide_eq_true hsh
      clear hr HR hsz hszE
      go_wp2_with fail
      refine (HZ.out w3).mono ?_
      rintro e w4 ⟨rfl, hb4⟩
      have HN4 := Lib.hid (HN.out.below hb4)
      obtain ⟨c0, c1, c2, c3, f0, f1, f2, f3, lt4⟩ := HN4.out.r.box
      clear q0 q1 q2 g0 g1 g2 lt3 HZ HN hb4
      go_wp2_with fail
      exact bodyPost_ret (results_cell_row_tmp2 rfl _ _ w.heap.size _ _ _ _ rfl HN4.out.r.set Try.underlying54 rfl info4) rfl ⟨by rw [HRR.out]; rfl, HN4.out.b.trans (keep44 _ _ _ _ _ _)⟩
    · have hr : nextR bs p = ⟨k, (getR bs ((p : Int) + 1) wa).1, (getR bs ((p : Int) + 1 + wa) wb).1, signB (getR bs ((p : Int) + 1 + wa + wb) wn).1 wn, sz, 0⟩ := by
        rw [HR.out, if_neg (by simp), hszE, if_neg hsh]
      have HRR := Lib.hid hr
      have e1 := decide_eq_false hsh
      clear hr HR
      obtain ⟨A, hA, hAl⟩ := get_small bs ((p : Int) + 1) wa ha
      obtain ⟨Bv, hB, hBl⟩ := get_small bs ((p : Int) + 1 + wa) wb (by omega)
      obtain ⟨V, hV, hVl⟩ := get_big bs ((p : Int) + 1 + wa + wb) wn hn8
      rw [hA, hB, hV] at HRR
      have HG1 := Lib.hid (fun w' (h : Sl encB w' (some ⟨b, off, none⟩) n bs) => Get_any w' (some ⟨b, off, none⟩) n cap bs ((p : Int) + 1) wa h hn hcap (by unfold IntR; omega) (by unfold IntR; omega))
      have HG2 := Lib.hid (fun w' (h : Sl encB w' (some ⟨b, off, none⟩) n bs) => Get_any w' (some ⟨b, off, none⟩) n cap bs ((p : Int) + 1 + wa) wb h hn hcap (by unfold IntR; omega) (by unfold IntR; omega))
      have HG3 := Lib.hid (fun w' (h : Sl encB w' (some ⟨b, off, none⟩) n bs) => Get_any w' (some ⟨b, off, none⟩) n cap bs ((p : Int) + 1 + wa + wb) wn h hn hcap (by unfold IntR; omega) (by unfold IntR; omega))
      rw [hA] at HG1
      rw [hB] at HG2
      rw [hV] at HG3
      generalize (getR bs ((p : Int) + 1) wa).2 = y1 at HG1
      generalize (getR bs ((p : Int) + 1 + wa) wb).2 = y2 at HG2
      generalize (getR bs ((p : Int) + 1 + wa + wb) wn).2 = y3 at HG3
      have HSG := Lib.hid (fun w' => Sign_any w' V wn ⟨by omega, by omega⟩ (by unfold IntR; omega))
      obtain ⟨N, hN⟩ : ∃ N, N = signB (V : Int) wn := ⟨_, rfl⟩
      rw [← hN] at HSG HRR
      clear hA hB hV hN
      clear hsz hszE
      go_wp2_with fail
      refine (HZ.out w3).mono ?_
      rintro e w4 ⟨rfl, hb4⟩
      have HN4 := Lib.hid (HN.out.below hb4)
      have HS4 := Lib.hid (HS.out.below HN4.out.b)
      clear q0 q1 q2 g0 g1 g2 lt3 HN hb4 HS
      obtain ⟨q0, q1, q2, g0, g1, g2, lt3⟩ := HN4.out.q.box
      go_wp2_with fail
      refine (HG1.out w4 HS4.out).mono ?_
      rintro e w' ⟨rfl, rfl⟩
      go_wp2_with fail
      refine (HG2.out w4 HS4.out).mono ?_
      rintro e w' ⟨rfl, rfl⟩
      go_wp2_with fail
      refine (HG3.out w4 HS4.out).mono ?_
      rintro e w' ⟨rfl, rfl⟩
      obtain ⟨x0, x1, x2, x3, h0, h1, h2, h3, ltx⟩ := HN4.out.x.box
      go_wp2_with fail
      refine (HSG.out w4).mono ?_
      rintro e w' ⟨rfl, rfl⟩
      go_upto_region 13 with fail
      have hgx : gw ≠ w.heap.size + 1 := by have := HN4.out.g; omega
      have X5 : Blk4 (((w4.setCell ⟨w.heap.size + 1, 1, none⟩ (.int .i64 (A : Nat))).setCell ⟨w.heap.size + 1, 2, none⟩ (.int .i64 (Bv : Nat))).setCell ⟨w.heap.size + 1, 3, none⟩ (.int .i64 N)) (w.heap.size + 1) (.int .u8 (k : Nat)) (.int .i64 (A : Nat)) (.int .i64 (Bv : Nat)) (.int .i64 N) 54 := HN4.out.x.set1.set2.set3
      have R5 : Blk4 (((w4.setCell ⟨w.heap.size + 1, 1, none⟩ (.int .i64 (A : Nat))).setCell ⟨w.heap.size + 1, 2, none⟩ (.int .i64 (Bv : Nat))).setCell ⟨w.heap.size + 1, 3, none⟩ (.int .i64 N)) w.heap.size (.int .u8 0) (.int .i64 0) (.int .i64 0) (.int .i64 0) 54 := ((HN4.out.r.other (by omega)).other (by omega)).other (by omega)
      have Q5 : Blk3 (((w4.setCell ⟨w.heap.size + 1, 1, none⟩ (.int .i64 (A : Nat))).setCell ⟨w.heap.size + 1, 2, none⟩ (.int .i64 (Bv : Nat))).setCell ⟨w.heap.size + 1, 3, none⟩ (.int .i64 N)) gw (.int .i64 (wa : Nat)) (.int .i64 (wb : Nat)) (.int .i64 (wn : Nat)) 98 := ((HN4.out.q.other hgx).other hgx).other hgx
      have B5 : Below w.heap.size w (((w4.setCell ⟨w.heap.size + 1, 1, none⟩ (.int .i64 (A : Nat))).setCell ⟨w.heap.size + 1, 2, none⟩ (.int .i64 (Bv : Nat))).setCell ⟨w.heap.size + 1, 3, none⟩ (.int .i64 N)) := ((HN4.out.b.setCell (by show w.heap.size ≤ w.heap.size + 1; omega) _).setCell (by show w.heap.size ≤ w.heap.size + 1; omega) _).setCell (by show w.heap.size ≤ w.heap.size + 1; omega) _
      have hgr : w.heap.size < gw := by have := HN4.out.g; omega
      clear x0 x1 x2 x3 h0 h1 h2 h3 ltx q0 q1 q2 g0 g1 g2 lt3 HN4 HS4 HG1 HG2 HG3 HSG
      generalize (((w4.setCell ⟨w.heap.size + 1, 1, none⟩ (.int .i64 (A : Nat))).setCell ⟨w.heap.size + 1, 2, none⟩ (.int .i64 (Bv : Nat))).setCell ⟨w.heap.size + 1, 3, none⟩ (.int .i64 N)) = w5 at *
      have HS5 := Lib.hid (show NS (w.heap.size + 1) gw k (A : Nat) (Bv : Nat) N wa wb wn w5.drew from ⟨X5, Q5⟩)
      have HR5 := Lib.hid (show Blk4 w5.drew w.heap.size (.int .u8 0) (.int .i64 0) (.int .i64 0) (.int .i64 0) 54 from R5)
      have HB5 := Lib.hid (B5.drew)
      clear X5 R5 Q5 B5
      have hSw : NS (w.heap.size + 1) gw k (A : Nat) (Bv : Nat) N wa wb wn w5.drew := HS5.out
      have l0 := fun z (h : NS (w.heap.size + 1) gw k (A : Nat) (Bv : Nat) N wa wb wn z) => h.1.box.c0
      have l1 := fun z (h : NS (w.heap.size + 1) gw k (A : Nat) (Bv : Nat) N wa wb wn z) => h.1.box.c1
      have l2 := fun z (h : NS (w.heap.size + 1) gw k (A : Nat) (Bv : Nat) N wa wb wn z) => h.1.box.c2
      have l3 := fun z (h : NS (w.heap.size + 1) gw k (A : Nat) (Bv : Nat) N wa wb wn z) => h.1.box.c3
      have l4 := fun z (h : NS (w.heap.size + 1) gw k (A : Nat) (Bv : Nat) N wa wb wn z) => h.2.box.c0
      have l5 := fun z (h : NS (w.heap.size + 1) gw k (A : Nat) (Bv : Nat) N wa wb wn z) => h.2.box.c1
      have l6 := fun z (h : NS (w.heap.size + 1) gw k (A : Nat) (Bv : Nat) N wa wb wn z) => h.2.box.c2
      refine wp_region_lexS (NS (w.heap.size + 1) gw k (A : Nat) (Bv : Nat) N wa wb wn) (.of [(0, true), (1, true), (2, false), (3, false)] (.stir [(4, true), (5, true)])) (by kernel_rfl) (by kernel_rfl) (fun c a d v w h => by cases d <;> exact h) ?_
      generalize w5.drew = w6 at *
      iterate 2
        refine lexS_step (fun K hK => ?_)
        simp only [lexOp, List.getElem?_toArray, List.getElem?_cons_succ, List.getElem?_cons_zero]
        rw [if_pos (by rfl)]
        apply Exists.intro
        refine ⟨fun w' hS' => ?_, hSw, ?_⟩
        · first | (go_simp <;> with_reducible rfl) | (go_simp; go_bits; with_reducible rfl)
        go_simp
        try go_bits
        refine hK _ _ ?_
        clear hK K
      refine lexS_step (fun K hK => ?_)
      simp only [lexOp, List.getElem?_toArray, List.getElem?_cons_succ, List.getElem?_cons_zero]
      rw [if_pos (by rfl)]
      go_step
      refine (HZ.out w6).mono ?_
      rintro e w7 ⟨rfl, hb7⟩
      have HS7 := Lib.hid (show NS (w.heap.size + 1) gw k (A : Nat) (Bv : Nat) N wa wb wn w7 from ⟨HS5.out.1.below hb7, HS5.out.2.below hb7⟩)
      have HR7 := Lib.hid (HR5.out.below hb7)
      have HB7 := Lib.hid (HB5.out.trans (hb7.mono HB5.out.size))
      replace hSw : NS (w.heap.size + 1) gw k (A : Nat) (Bv : Nat) N wa wb wn w7 := HS7.out
      clear hb7 HS5 HR5 HB5 l0 l1 l2 l3 l4 l5 l6
      refine ⟨hSw, ?_⟩
      go_simp
      refine hK _ _ ?_
      clear hK K
      obtain ⟨c0, c1, c2, c3, f0, f1, f2, f3, lt4⟩ := HR7.out.box
      refine lexS_step (fun K hK => ?_)
      simp only [lexOp, List.getElem?_toArray, List.getElem?_cons_succ, List.getElem?_cons_zero]
      rw [if_pos (by rfl)]
      go_step
      have n1 : w.heap.size + 1 ≠ w.heap.size := by omega
      have n2 : gw ≠ w.heap.size := by omega
      have hS8 : NS (w.heap.size + 1) gw k (A : Nat) (Bv : Nat) N wa wb wn ((((w7.setCell ⟨w.heap.size, 0, none⟩ (.int .u8 (k : Nat))).setCell ⟨w.heap.size, 1, none⟩ (.int .i64 (A : Nat))).setCell ⟨w.heap.size, 2, none⟩ (.int .i64 (Bv : Nat))).setCell ⟨w.heap.size, 3, none⟩ (.int .i64 N)) := ⟨(((HS7.out.1.other n1).other n1).other n1).other n1, (((HS7.out.2.other n2).other n2).other n2).other n2⟩
      have HR8 := Lib.hid (show Blk4 ((((w7.setCell ⟨w.heap.size, 0, none⟩ (.int .u8 (k : Nat))).setCell ⟨w.heap.size, 1, none⟩ (.int .i64 (A : Nat))).setCell ⟨w.heap.size, 2, none⟩ (.int .i64 (Bv : Nat))).setCell ⟨w.heap.size, 3, none⟩ (.int .i64 N)) w.heap.size (.int .u8 (k : Nat)) (.int .i64 (A : Nat)) (.int .i64 (Bv : Nat)) (.int .i64 N) 54 from HR7.out.set)
      have HB8 := Lib.hid (HB7.out.trans (keep44 w.heap.size w7 (.int .u8 (k : Nat)) (.int .i64 (A : Nat)) (.int .i64 (Bv : Nat)) (.int .i64 N)))
      refine ⟨hS8, hK _ _ ?_⟩
      clear hK K c0 c1 c2 c3 f0 f1 f2 f3 lt4 HS7 HR7 HB7 hSw
      generalize (((w7.setCell ⟨w.heap.size, 0, none⟩ (.int .u8 (k : Nat))).setCell ⟨w.heap.size, 1, none⟩ (.int .i64 (A : Nat))).setCell ⟨w.heap.size, 2, none⟩ (.int .i64 (Bv : Nat))).setCell ⟨w.heap.size, 3, none⟩ (.int .i64 N) = w8 at *
      refine lexS_stir (fun y => y = w8) (fun y hy => hy ▸ hS8) rfl ?_
      iterate 2
        refine stir_step (fun K hK => ?_)
        simp only [stirOp, List.getElem?_toArray, List.getElem?_cons_succ, List.getElem?_cons_zero]
        rw [if_pos (by rfl)]
        apply Exists.intro
        refine ⟨fun w' hS' => ?_, ?_⟩
        · first | (go_simp <;> with_reducible rfl) | (go_simp; go_bits; with_reducible rfl)
        go_simp
        try go_bits
        refine hK _ ?_
        clear hK K
      refine stir_nil (fun y hy => ?_)
      obtain rfl : w8 = y := hy.symm
      go_wp2_with fail
      exact bodyPost_ret (results_cell_row_tmp2 rfl _ _ w.heap.size _ _ _ _ rfl HR8.out Try.underlying54 rfl info4) rfl ⟨by rw [HRR.out]; rfl, HB8.out⟩
end Go.Proofs.Ytbcldlbmbdfejaa
