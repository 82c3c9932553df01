/- image: Next, the reference's. No condition. -/
import Derived.Test.YtbcldlbmbdfejaaQ04ImageBytes
namespace Go.Proofs.Ytbcldlbmbdfejaa
open Go.ChangeShapes Go.WideShapes Go.ChangeAt Go.RowKit
set_option maxRecDepth 100000 in
set_option maxHeartbeats 4000000 in
theorem refNext_out (w : World) (a : Option Addr) (n cap : Nat) (bs : List UInt8) (p : Int) (hs : Sl encB w a n bs) (hn : n ≤ 1048576) (hp : IntR p) (h : p < 0 ∨ (n : Int) ≤ p) :
    Calls Try.prog 19 #[.slice a n cap, .int .i64 p] w fun e w' => e = .returned (NextR.ret ⟨0, 0, 0, 0, 0, 2⟩) ∧ Below w.heap.size w w' := by
  by_cases h1 : p < 0
  · have e1 := decide_eq_true h1
    go_enter Try.func19, Try.ntmps19
    go_wp2_with fail
    exact bodyPost_ret (results_cell_row_tmp2 rfl _ _ w.heap.size _ _ _ _ rfl (heap_alloc_last w _) Try.underlying54 rfl info4) rfl ⟨rfl, (Below.refl _ _).alloc (Nat.le_refl _) _⟩
  · have e1 := decide_eq_false h1
    have h2 : (n : Int) ≤ p := by omega
    have e2 := decide_eq_true h2
    go_enter Try.func19, Try.ntmps19
    go_wp2_with fail
    exact bodyPost_ret (results_cell_row_tmp2 rfl _ _ w.heap.size _ _ _ _ rfl (heap_alloc_last w _) Try.underlying54 rfl info4) rfl ⟨rfl, (Below.refl _ _).alloc (Nat.le_refl _) _⟩
set_option maxRecDepth 100000 in
set_option maxHeartbeats 4000000 in
theorem refNext_in (w : World) (a : Option Addr) (n cap : Nat) (bs : List UInt8) (p : Nat) (hs : Sl encB w a n bs) (hn : n ≤ 1048576) (hcap : n ≤ cap) (hp : p < n) :
    Calls Try.prog 19 #[.slice a n cap, .int .i64 (p : Nat)] w fun e w' => e = .returned (NextR.ret (nextR bs p)) ∧ Below w.heap.size w w' := by
  have hl := hs.1
  have HS := Lib.hid hs
  obtain ⟨b, off, rfl, hlt, hc⟩ := hs.2 (by omega)
  obtain ⟨k, hk⟩ : ∃ k, k = (bs[p]'(by omega)).toNat := ⟨_, rfl⟩
  have hck : w.cell? ⟨b, off + p, none⟩ = some (.int .u8 (k : Nat)) := by rw [hk]; exact hc p (by omega)
  have hk256 : k < 256 := by rw [hk]; exact (bs[p]'(by omega)).toNat_lt
  have hkd : (bs.getD p 0).toNat = k := by rw [hk]; simp [List.getD, show p < bs.length by omega]
  obtain ⟨wa, wb, wn, ok, hq⟩ : ∃ wa wb wn ok, imgW k = (wa, wb, wn, ok) := ⟨_, _, _, _, rfl⟩
  have hsm := imgW_small ⟨k, hk256⟩
  simp only [hq] at hsm
  obtain ⟨ha, hb, hn8⟩ := hsm
  have HR := Lib.hid (show nextR bs p = if ok = false then ⟨0, 0, 0, 0, 0, 8⟩ else if (n : Int) - p < 1 + wa + wb + wn then ⟨0, 0, 0, 0, 0, 6⟩ else ⟨k, (getR bs ((p : Int) + 1) wa).1, (getR bs ((p : Int) + 1 + wa) wb).1, signB (getR bs ((p : Int) + 1 + wa + wb) wn).1 wn, 1 + wa + wb + wn, 0⟩ by
    unfold nextR
    rw [if_neg (by omega), Int.toNat_natCast, hkd]
    simp only [hq, hl])
  have HWD := Lib.hid (fun w' => refWidths_any w' k hk256)
  unfold refWV at HWD
  rw [hq] at HWD
  simp only at HWD
  have HL := Lib.hid hl
  have hpn : (p : Int) < n := by omega
  have hal : Below w.heap.size w (w.alloc (.cells #[.int .u8 0, .int .i64 0, .int .i64 0, .int .i64 0] 54)) := (Below.refl _ _).alloc (Nat.le_refl _) _
  have hc1 : (w.alloc (.cells #[.int .u8 0, .int .i64 0, .int .i64 0, .int .i64 0] 54)).cell? ⟨b, off + p, none⟩ = some (.int .u8 (k : Nat)) := by
    rw [← hck]
    unfold World.cell?
    rw [hal.block b hlt]
  clear hs hc hk hkd hq hl hck
  go_enter Try.func19, Try.ntmps19
  go_upto_region 4 with fail
  change Code.wp _ _ _ _ ((w.alloc (.cells #[.int .u8 0, .int .i64 0, .int .i64 0, .int .i64 0] 54)).alloc (.cells #[.int .u8 (k : Nat), .int .i64 0, .int .i64 0, .int .i64 0] 54))
  have h2 : Below (w.alloc (.cells #[.int .u8 0, .int .i64 0, .int .i64 0, .int .i64 0] 54)).heap.size (w.alloc (.cells #[.int .u8 0, .int .i64 0, .int .i64 0, .int .i64 0] 54)) ((w.alloc (.cells #[.int .u8 0, .int .i64 0, .int .i64 0, .int .i64 0] 54)).alloc (.cells #[.int .u8 (k : Nat), .int .i64 0, .int .i64 0, .int .i64 0] 54)) := (Below.refl _ _).alloc (Nat.le_refl _) _
  have hsz : (w.alloc (.cells #[.int .u8 0, .int .i64 0, .int .i64 0, .int .i64 0] 54)).heap.size = w.heap.size + 1 := by simp only [World.alloc, Array.size_push]
  have HR1 := Lib.hid (show Blk4 ((w.alloc (.cells #[.int .u8 0, .int .i64 0, .int .i64 0, .int .i64 0] 54)).alloc (.cells #[.int .u8 (k : Nat), .int .i64 0, .int .i64 0, .int .i64 0] 54)) w.heap.size (.int .u8 0) (.int .i64 0) (.int .i64 0) (.int .i64 0) 54 from (show Blk4 (w.alloc (.cells #[.int .u8 0, .int .i64 0, .int .i64 0, .int .i64 0] 54)) w.heap.size (.int .u8 0) (.int .i64 0) (.int .i64 0) (.int .i64 0) 54 from heap_alloc_last w _).below h2)
  have hx0 := heap_alloc_last (w.alloc (.cells #[.int .u8 0, .int .i64 0, .int .i64 0, .int .i64 0] 54)) (.cells #[.int .u8 (k : Nat), .int .i64 0, .int .i64 0, .int .i64 0] 54)
  rw [hsz] at hx0
  have HX1 := Lib.hid (show Blk4 ((w.alloc (.cells #[.int .u8 0, .int .i64 0, .int .i64 0, .int .i64 0] 54)).alloc (.cells #[.int .u8 (k : Nat), .int .i64 0, .int .i64 0, .int .i64 0] 54)) (w.heap.size + 1) (.int .u8 (k : Nat)) (.int .i64 0) (.int .i64 0) (.int .i64 0) 54 from hx0)
  have HB1 := Lib.hid (hal.trans (h2.mono (by rw [hsz]; omega)))
  have HZ1 : w.heap.size + 1 < ((w.alloc (.cells #[.int .u8 0, .int .i64 0, .int .i64 0, .int .i64 0] 54)).alloc (.cells #[.int .u8 (k : Nat), .int .i64 0, .int .i64 0, .int .i64 0] 54)).heap.size := by simp only [World.alloc, Array.size_push]; omega
  clear hal hc1 h2 hsz hx0
  generalize (w.alloc (.cells #[.int .u8 0, .int .i64 0, .int .i64 0, .int .i64 0] 54)).alloc (.cells #[.int .u8 (k : Nat), .int .i64 0, .int .i64 0, .int .i64 0] 54) = w1 at *
  have hxc := HX1.out.box.c0
  go_wp2_with fail
  refine (HWD.out w1).mono ?_
  rintro e w2 ⟨rfl, rfl⟩
  go_upto_region 5 with fail
  cases ok with
  | false =>
    have hr : nextR bs p = ⟨0, 0, 0, 0, 0, 8⟩ := HR.out
    have HRR := Lib.hid hr
    clear hr HR
    obtain ⟨c0, c1, c2, c3, f0, f1, f2, f3, lt4⟩ := HR1.out.box
    go_wp2_with fail
    exact bodyPost_ret (results_cell_row_tmp2 rfl _ _ w.heap.size _ _ _ _ rfl HR1.out.set Try.underlying54 rfl info4) rfl ⟨by rw [HRR.out]; rfl, HB1.out.trans (keep44 _ _ _ _ _ _)⟩
  | true =>
    obtain ⟨sz, hsz⟩ : ∃ sz, sz = 1 + wa + wb + wn := ⟨_, rfl⟩
    have hszE : 1 + (wa : Int) + (wb : Int) + (wn : Int) = (sz : Int) := by omega
    have hszl : sz ≤ 12 := by omega
    have hdf : (n : Int) - (p : Int) ≤ 1048576 := by omega
    by_cases hsh : (n : Int) - p < sz
    · have hr : nextR bs p = ⟨0, 0, 0, 0, 0, 6⟩ := by
        rw [HR.out, if_neg (by simp), hszE, if_pos hsh]
      have HRR := Lib.hid hr
      have e1 := decide_eq_true hsh
      clear hr HR hsz
      obtain ⟨c0, c1, c2, c3, f0, f1, f2, f3, lt4⟩ := HR1.out.box
      go_wp2_with fail
      exact bodyPost_ret (results_cell_row_tmp2 rfl _ _ w.heap.size _ _ _ _ rfl HR1.out.set Try.underlying54 rfl info4) rfl ⟨by rw [HRR.out]; rfl, HB1.out.trans (keep44 _ _ _ _ _ _)⟩
    · have hr : nextR bs p = ⟨k, (getR bs ((p : Int) + 1) wa).1, (getR bs ((p : Int) + 1 + wa) wb).1, signB (getR bs ((p : Int) + 1 + wa + wb) wn).1 wn, sz, 0⟩ := by
        rw [HR.out, if_neg (by simp), hszE, if_neg hsh]
      have e1 := decide_eq_false hsh
      obtain ⟨A, hA, hAl⟩ := get_small bs ((p : Int) + 1) wa ha
      obtain ⟨Bv, hB, hBl⟩ := get_small bs ((p : Int) + 1 + wa) wb (by omega)
      obtain ⟨V, hV, hVl⟩ := get_big bs ((p : Int) + 1 + wa + wb) wn hn8
      rw [hA, hB, hV] at hr
      clear HR hsz
      -- LEAVES
      have ca : wa = 0 ∨ 1 ≤ wa := by omega
      have cb : wb = 0 ∨ 1 ≤ wb := by omega
      have cn : wn = 0 ∨ 1 ≤ wn := by omega
      rcases ca with rfl | ca <;> rcases cb with rfl | cb <;> rcases cn with rfl | cn
      · simp only [Int.ofNat_eq_natCast, Int.natCast_zero, Int.add_zero] at hA hB hV hr hszE
        obtain rfl : A = 0 := by rw [getR, if_pos (by omega)] at hA; simp at hA; omega
        obtain rfl : Bv = 0 := by rw [getR, if_pos (by omega)] at hB; simp at hB; omega
        have HG1 := Lib.hid (fun w' (h : Below w.heap.size w w') => refGet_any w' (some ⟨b, off, none⟩) n cap bs ((p : Int) + 1) 1 (HS.out.below h) hn hcap (by unfold IntR; omega) (by unfold IntR; omega))
        have HG2 := Lib.hid (fun w' (h : Below w.heap.size w w') => refGet_any w' (some ⟨b, off, none⟩) n cap bs ((p : Int) + 1) 1 (HS.out.below h) hn hcap (by unfold IntR; omega) (by unfold IntR; omega))
        obtain ⟨U1, hU1, -⟩ := get_small bs ((p : Int) + 1) 1 (by omega)
        rw [show (((1 : Nat) : Int)) = 1 from rfl] at hU1
        rw [hU1] at HG1
        obtain ⟨U2, hU2, -⟩ := get_small bs ((p : Int) + 1) 1 (by omega)
        rw [show (((1 : Nat) : Int)) = 1 from rfl] at hU2
        rw [hU2] at HG2
        obtain rfl : sz = 1 := by omega
        have HSZ := Lib.hid hszE
        clear hszE hA hB hV
        clear hU1
        clear hU2
        have HRR := Lib.hid hr
        clear hr
        have hXR : w.heap.size ≠ w.heap.size + 1 := by omega
        obtain ⟨x0, x1, x2, x3, h0, h1, h2, h3, ltx⟩ := HX1.out.box
        go_wp2_with fail
        refine (HG1.out w2 HB1.out).mono ?_
        rintro e w' ⟨rfl, rfl⟩
        go_wp2_with fail
        refine (HG2.out w2 HB1.out).mono ?_
        rintro e w' ⟨rfl, rfl⟩
        go_upto_region 18 with fail
        obtain ⟨c0, c1, c2, c3, f0, f1, f2, f3, lt4⟩ := HR1.out.box
        go_wp2_with fail
        exact bodyPost_ret (results_cell_row_tmp2 rfl _ _ w.heap.size _ _ _ _ rfl HR1.out.set Try.underlying54 rfl info4) rfl ⟨by rw [HRR.out]; rfl, HB1.out.trans (keep44 _ _ _ _ _ _)⟩
      · simp only [Int.ofNat_eq_natCast, Int.natCast_zero, Int.add_zero] at hA hB hV hr hszE
        obtain rfl : A = 0 := by rw [getR, if_pos (by omega)] at hA; simp at hA; omega
        obtain rfl : Bv = 0 := by rw [getR, if_pos (by omega)] at hB; simp at hB; omega
        have HG1 := Lib.hid (fun w' (h : Below w.heap.size w w') => refGet_any w' (some ⟨b, off, none⟩) n cap bs ((p : Int) + 1) 1 (HS.out.below h) hn hcap (by unfold IntR; omega) (by unfold IntR; omega))
        have HG2 := Lib.hid (fun w' (h : Below w.heap.size w w') => refGet_any w' (some ⟨b, off, none⟩) n cap bs ((p : Int) + 1) 1 (HS.out.below h) hn hcap (by unfold IntR; omega) (by unfold IntR; omega))
        have HG3 := Lib.hid (fun w' (h : Below w.heap.size w w') => refGet_any w' (some ⟨b, off, none⟩) n cap bs ((p : Int) + 1) wn (HS.out.below h) hn hcap (by unfold IntR; omega) (by unfold IntR; omega))
        obtain ⟨U1, hU1, -⟩ := get_small bs ((p : Int) + 1) 1 (by omega)
        rw [show (((1 : Nat) : Int)) = 1 from rfl] at hU1
        rw [hU1] at HG1
        obtain ⟨U2, hU2, -⟩ := get_small bs ((p : Int) + 1) 1 (by omega)
        rw [show (((1 : Nat) : Int)) = 1 from rfl] at hU2
        rw [hU2] at HG2
        rw [hV] at HG3
        have HSG := Lib.hid (fun w' => refSign_any w' V wn ⟨by omega, by omega⟩ (by unfold IntR; omega))
        obtain ⟨N, hN⟩ : ∃ N, N = signB (V : Int) wn := ⟨_, rfl⟩
        rw [← hN] at HSG hr
        clear hN
        have HSZ := Lib.hid hszE
        clear hszE hA hB hV
        clear hU1
        clear hU2
        have hszE := HSZ.out
        have HRR := Lib.hid hr
        clear hr
        have hXR : w.heap.size ≠ w.heap.size + 1 := by omega
        obtain ⟨x0, x1, x2, x3, h0, h1, h2, h3, ltx⟩ := HX1.out.box
        go_wp2_with fail
        refine (HG1.out w2 HB1.out).mono ?_
        rintro e w' ⟨rfl, rfl⟩
        go_wp2_with fail
        refine (HG2.out w2 HB1.out).mono ?_
        rintro e w' ⟨rfl, rfl⟩
        go_wp2_with fail
        refine (HG3.out w2 HB1.out).mono ?_
        rintro e w' ⟨rfl, rfl⟩
        go_wp2_with fail
        refine (HSG.out w2).mono ?_
        rintro e w' ⟨rfl, rfl⟩
        go_upto_region 18 with fail
        have HX2 := Lib.hid (show Blk4 (w2.setCell ⟨w.heap.size + 1, 3, none⟩ (.int .i64 N)) (w.heap.size + 1) (.int .u8 (k : Nat)) (.int .i64 0) (.int .i64 0) (.int .i64 N) 54 from HX1.out.set3)
        have HR2 := Lib.hid (show Blk4 (w2.setCell ⟨w.heap.size + 1, 3, none⟩ (.int .i64 N)) w.heap.size (.int .u8 0) (.int .i64 0) (.int .i64 0) (.int .i64 0) 54 from HR1.out.other hXR)
        have HB2 := Lib.hid (show Below w.heap.size w (w2.setCell ⟨w.heap.size + 1, 3, none⟩ (.int .i64 N)) from HB1.out.setCell (by show w.heap.size ≤ w.heap.size + 1; omega) _)
        clear HX1 HR1 HB1 x0 x1 x2 x3 h0 h1 h2 h3 ltx
        generalize (w2.setCell ⟨w.heap.size + 1, 3, none⟩ (.int .i64 N)) = wv1 at *
        have HX1 := HX2
        have HR1 := HR2
        have HB1 := HB2
        clear HX2 HR2 HB2
        obtain ⟨x0, x1, x2, x3, h0, h1, h2, h3, ltx⟩ := HX1.out.box
        obtain ⟨c0, c1, c2, c3, f0, f1, f2, f3, lt4⟩ := HR1.out.box
        go_wp2_with fail
        exact bodyPost_ret (results_cell_row_tmp2 rfl _ _ w.heap.size _ _ _ _ rfl HR1.out.set Try.underlying54 rfl info4) rfl ⟨by rw [HRR.out]; rfl, HB1.out.trans (keep44 _ _ _ _ _ _)⟩
      · simp only [Int.ofNat_eq_natCast, Int.natCast_zero, Int.add_zero] at hA hB hV hr hszE
        obtain rfl : A = 0 := by rw [getR, if_pos (by omega)] at hA; simp at hA; omega
        have HG1 := Lib.hid (fun w' (h : Below w.heap.size w w') => refGet_any w' (some ⟨b, off, none⟩) n cap bs ((p : Int) + 1) 1 (HS.out.below h) hn hcap (by unfold IntR; omega) (by unfold IntR; omega))
        have HG2 := Lib.hid (fun w' (h : Below w.heap.size w w') => refGet_any w' (some ⟨b, off, none⟩) n cap bs ((p : Int) + 1) wb (HS.out.below h) hn hcap (by unfold IntR; omega) (by unfold IntR; omega))
        obtain ⟨U1, hU1, -⟩ := get_small bs ((p : Int) + 1) 1 (by omega)
        rw [show (((1 : Nat) : Int)) = 1 from rfl] at hU1
        rw [hU1] at HG1
        rw [hB] at HG2
        have HSZ := Lib.hid hszE
        clear hszE hA hB hV
        clear hU1
        have hszE := HSZ.out
        have HRR := Lib.hid hr
        clear hr
        have hXR : w.heap.size ≠ w.heap.size + 1 := by omega
        obtain ⟨x0, x1, x2, x3, h0, h1, h2, h3, ltx⟩ := HX1.out.box
        go_wp2_with fail
        refine (HG1.out w2 HB1.out).mono ?_
        rintro e w' ⟨rfl, rfl⟩
        go_wp2_with fail
        refine (HG2.out w2 HB1.out).mono ?_
        rintro e w' ⟨rfl, rfl⟩
        go_upto_region 15 with fail
        have HX2 := Lib.hid (show Blk4 (w2.setCell ⟨w.heap.size + 1, 2, none⟩ (.int .i64 (Bv : Nat))) (w.heap.size + 1) (.int .u8 (k : Nat)) (.int .i64 0) (.int .i64 (Bv : Nat)) (.int .i64 0) 54 from HX1.out.set2)
        have HR2 := Lib.hid (show Blk4 (w2.setCell ⟨w.heap.size + 1, 2, none⟩ (.int .i64 (Bv : Nat))) w.heap.size (.int .u8 0) (.int .i64 0) (.int .i64 0) (.int .i64 0) 54 from HR1.out.other hXR)
        have HB2 := Lib.hid (show Below w.heap.size w (w2.setCell ⟨w.heap.size + 1, 2, none⟩ (.int .i64 (Bv : Nat))) from HB1.out.setCell (by show w.heap.size ≤ w.heap.size + 1; omega) _)
        clear HX1 HR1 HB1 x0 x1 x2 x3 h0 h1 h2 h3 ltx
        generalize (w2.setCell ⟨w.heap.size + 1, 2, none⟩ (.int .i64 (Bv : Nat))) = wv1 at *
        have HX1 := HX2
        have HR1 := HR2
        have HB1 := HB2
        clear HX2 HR2 HB2
        obtain ⟨x0, x1, x2, x3, h0, h1, h2, h3, ltx⟩ := HX1.out.box
        go_upto_region 18 with fail
        obtain ⟨c0, c1, c2, c3, f0, f1, f2, f3, lt4⟩ := HR1.out.box
        go_wp2_with fail
        exact bodyPost_ret (results_cell_row_tmp2 rfl _ _ w.heap.size _ _ _ _ rfl HR1.out.set Try.underlying54 rfl info4) rfl ⟨by rw [HRR.out]; rfl, HB1.out.trans (keep44 _ _ _ _ _ _)⟩
      · simp only [Int.ofNat_eq_natCast, Int.natCast_zero, Int.add_zero] at hA hB hV hr hszE
        obtain rfl : A = 0 := by rw [getR, if_pos (by omega)] at hA; simp at hA; omega
        have HG1 := Lib.hid (fun w' (h : Below w.heap.size w w') => refGet_any w' (some ⟨b, off, none⟩) n cap bs ((p : Int) + 1) 1 (HS.out.below h) hn hcap (by unfold IntR; omega) (by unfold IntR; omega))
        have HG2 := Lib.hid (fun w' (h : Below w.heap.size w w') => refGet_any w' (some ⟨b, off, none⟩) n cap bs ((p : Int) + 1) wb (HS.out.below h) hn hcap (by unfold IntR; omega) (by unfold IntR; omega))
        have HG3 := Lib.hid (fun w' (h : Below w.heap.size w w') => refGet_any w' (some ⟨b, off, none⟩) n cap bs ((p : Int) + 1 + wb) wn (HS.out.below h) hn hcap (by unfold IntR; omega) (by unfold IntR; omega))
        obtain ⟨U1, hU1, -⟩ := get_small bs ((p : Int) + 1) 1 (by omega)
        rw [show (((1 : Nat) : Int)) = 1 from rfl] at hU1
        rw [hU1] at HG1
        rw [hB] at HG2
        rw [hV] at HG3
        have HSG := Lib.hid (fun w' => refSign_any w' V wn ⟨by omega, by omega⟩ (by unfold IntR; omega))
        obtain ⟨N, hN⟩ : ∃ N, N = signB (V : Int) wn := ⟨_, rfl⟩
        rw [← hN] at HSG hr
        clear hN
        have HSZ := Lib.hid hszE
        clear hszE hA hB hV
        clear hU1
        have hszE := HSZ.out
        have HRR := Lib.hid hr
        clear hr
        have hXR : w.heap.size ≠ w.heap.size + 1 := by omega
        obtain ⟨x0, x1, x2, x3, h0, h1, h2, h3, ltx⟩ := HX1.out.box
        go_wp2_with fail
        refine (HG1.out w2 HB1.out).mono ?_
        rintro e w' ⟨rfl, rfl⟩
        go_wp2_with fail
        refine (HG2.out w2 HB1.out).mono ?_
        rintro e w' ⟨rfl, rfl⟩
        go_upto_region 15 with fail
        have HX2 := Lib.hid (show Blk4 (w2.setCell ⟨w.heap.size + 1, 2, none⟩ (.int .i64 (Bv : Nat))) (w.heap.size + 1) (.int .u8 (k : Nat)) (.int .i64 0) (.int .i64 (Bv : Nat)) (.int .i64 0) 54 from HX1.out.set2)
        have HR2 := Lib.hid (show Blk4 (w2.setCell ⟨w.heap.size + 1, 2, none⟩ (.int .i64 (Bv : Nat))) w.heap.size (.int .u8 0) (.int .i64 0) (.int .i64 0) (.int .i64 0) 54 from HR1.out.other hXR)
        have HB2 := Lib.hid (show Below w.heap.size w (w2.setCell ⟨w.heap.size + 1, 2, none⟩ (.int .i64 (Bv : Nat))) from HB1.out.setCell (by show w.heap.size ≤ w.heap.size + 1; omega) _)
        clear HX1 HR1 HB1 x0 x1 x2 x3 h0 h1 h2 h3 ltx
        generalize (w2.setCell ⟨w.heap.size + 1, 2, none⟩ (.int .i64 (Bv : Nat))) = wv1 at *
        have HX1 := HX2
        have HR1 := HR2
        have HB1 := HB2
        clear HX2 HR2 HB2
        obtain ⟨x0, x1, x2, x3, h0, h1, h2, h3, ltx⟩ := HX1.out.box
        go_wp2_with fail
        refine (HG3.out wv1 HB1.out).mono ?_
        rintro e w' ⟨rfl, rfl⟩
        go_wp2_with fail
        refine (HSG.out wv1).mono ?_
        rintro e w' ⟨rfl, rfl⟩
        go_upto_region 18 with fail
        have HX2 := Lib.hid (show Blk4 (wv1.setCell ⟨w.heap.size + 1, 3, none⟩ (.int .i64 N)) (w.heap.size + 1) (.int .u8 (k : Nat)) (.int .i64 0) (.int .i64 (Bv : Nat)) (.int .i64 N) 54 from HX1.out.set3)
        have HR2 := Lib.hid (show Blk4 (wv1.setCell ⟨w.heap.size + 1, 3, none⟩ (.int .i64 N)) w.heap.size (.int .u8 0) (.int .i64 0) (.int .i64 0) (.int .i64 0) 54 from HR1.out.other hXR)
        have HB2 := Lib.hid (show Below w.heap.size w (wv1.setCell ⟨w.heap.size + 1, 3, none⟩ (.int .i64 N)) from HB1.out.setCell (by show w.heap.size ≤ w.heap.size + 1; omega) _)
        clear HX1 HR1 HB1 x0 x1 x2 x3 h0 h1 h2 h3 ltx
        generalize (wv1.setCell ⟨w.heap.size + 1, 3, none⟩ (.int .i64 N)) = wv2 at *
        have HX1 := HX2
        have HR1 := HR2
        have HB1 := HB2
        clear HX2 HR2 HB2
        obtain ⟨x0, x1, x2, x3, h0, h1, h2, h3, ltx⟩ := HX1.out.box
        obtain ⟨c0, c1, c2, c3, f0, f1, f2, f3, lt4⟩ := HR1.out.box
        go_wp2_with fail
        exact bodyPost_ret (results_cell_row_tmp2 rfl _ _ w.heap.size _ _ _ _ rfl HR1.out.set Try.underlying54 rfl info4) rfl ⟨by rw [HRR.out]; rfl, HB1.out.trans (keep44 _ _ _ _ _ _)⟩
      · simp only [Int.ofNat_eq_natCast, Int.natCast_zero, Int.add_zero] at hA hB hV hr hszE
        obtain rfl : Bv = 0 := by rw [getR, if_pos (by omega)] at hB; simp at hB; omega
        have HG1 := Lib.hid (fun w' (h : Below w.heap.size w w') => refGet_any w' (some ⟨b, off, none⟩) n cap bs ((p : Int) + 1) wa (HS.out.below h) hn hcap (by unfold IntR; omega) (by unfold IntR; omega))
        have HG2 := Lib.hid (fun w' (h : Below w.heap.size w w') => refGet_any w' (some ⟨b, off, none⟩) n cap bs ((p : Int) + 1 + wa) 1 (HS.out.below h) hn hcap (by unfold IntR; omega) (by unfold IntR; omega))
        rw [hA] at HG1
        obtain ⟨U2, hU2, -⟩ := get_small bs ((p : Int) + 1 + wa) 1 (by omega)
        rw [show (((1 : Nat) : Int)) = 1 from rfl] at hU2
        rw [hU2] at HG2
        have HSZ := Lib.hid hszE
        clear hszE hA hB hV
        clear hU2
        have hszE := HSZ.out
        have HRR := Lib.hid hr
        clear hr
        have hXR : w.heap.size ≠ w.heap.size + 1 := by omega
        obtain ⟨x0, x1, x2, x3, h0, h1, h2, h3, ltx⟩ := HX1.out.box
        go_wp2_with fail
        refine (HG1.out w2 HB1.out).mono ?_
        rintro e w' ⟨rfl, rfl⟩
        go_upto_region 12 with fail
        have HX2 := Lib.hid (show Blk4 (w2.setCell ⟨w.heap.size + 1, 1, none⟩ (.int .i64 (A : Nat))) (w.heap.size + 1) (.int .u8 (k : Nat)) (.int .i64 (A : Nat)) (.int .i64 0) (.int .i64 0) 54 from HX1.out.set1)
        have HR2 := Lib.hid (show Blk4 (w2.setCell ⟨w.heap.size + 1, 1, none⟩ (.int .i64 (A : Nat))) w.heap.size (.int .u8 0) (.int .i64 0) (.int .i64 0) (.int .i64 0) 54 from HR1.out.other hXR)
        have HB2 := Lib.hid (show Below w.heap.size w (w2.setCell ⟨w.heap.size + 1, 1, none⟩ (.int .i64 (A : Nat))) from HB1.out.setCell (by show w.heap.size ≤ w.heap.size + 1; omega) _)
        clear HX1 HR1 HB1 x0 x1 x2 x3 h0 h1 h2 h3 ltx
        generalize (w2.setCell ⟨w.heap.size + 1, 1, none⟩ (.int .i64 (A : Nat))) = wv1 at *
        have HX1 := HX2
        have HR1 := HR2
        have HB1 := HB2
        clear HX2 HR2 HB2
        obtain ⟨x0, x1, x2, x3, h0, h1, h2, h3, ltx⟩ := HX1.out.box
        go_wp2_with fail
        refine (HG2.out wv1 HB1.out).mono ?_
        rintro e w' ⟨rfl, rfl⟩
        go_upto_region 18 with fail
        obtain ⟨c0, c1, c2, c3, f0, f1, f2, f3, lt4⟩ := HR1.out.box
        go_wp2_with fail
        exact bodyPost_ret (results_cell_row_tmp2 rfl _ _ w.heap.size _ _ _ _ rfl HR1.out.set Try.underlying54 rfl info4) rfl ⟨by rw [HRR.out]; rfl, HB1.out.trans (keep44 _ _ _ _ _ _)⟩
      · simp only [Int.ofNat_eq_natCast, Int.natCast_zero, Int.add_zero] at hA hB hV hr hszE
        obtain rfl : Bv = 0 := by rw [getR, if_pos (by omega)] at hB; simp at hB; omega
        have HG1 := Lib.hid (fun w' (h : Below w.heap.size w w') => refGet_any w' (some ⟨b, off, none⟩) n cap bs ((p : Int) + 1) wa (HS.out.below h) hn hcap (by unfold IntR; omega) (by unfold IntR; omega))
        have HG2 := Lib.hid (fun w' (h : Below w.heap.size w w') => refGet_any w' (some ⟨b, off, none⟩) n cap bs ((p : Int) + 1 + wa) 1 (HS.out.below h) hn hcap (by unfold IntR; omega) (by unfold IntR; omega))
        have HG3 := Lib.hid (fun w' (h : Below w.heap.size w w') => refGet_any w' (some ⟨b, off, none⟩) n cap bs ((p : Int) + 1 + wa) wn (HS.out.below h) hn hcap (by unfold IntR; omega) (by unfold IntR; omega))
        rw [hA] at HG1
        obtain ⟨U2, hU2, -⟩ := get_small bs ((p : Int) + 1 + wa) 1 (by omega)
        rw [show (((1 : Nat) : Int)) = 1 from rfl] at hU2
        rw [hU2] at HG2
        rw [hV] at HG3
        have HSG := Lib.hid (fun w' => refSign_any w' V wn ⟨by omega, by omega⟩ (by unfold IntR; omega))
        obtain ⟨N, hN⟩ : ∃ N, N = signB (V : Int) wn := ⟨_, rfl⟩
        rw [← hN] at HSG hr
        clear hN
        have HSZ := Lib.hid hszE
        clear hszE hA hB hV
        clear hU2
        have hszE := HSZ.out
        have HRR := Lib.hid hr
        clear hr
        have hXR : w.heap.size ≠ w.heap.size + 1 := by omega
        obtain ⟨x0, x1, x2, x3, h0, h1, h2, h3, ltx⟩ := HX1.out.box
        go_wp2_with fail
        refine (HG1.out w2 HB1.out).mono ?_
        rintro e w' ⟨rfl, rfl⟩
        go_upto_region 12 with fail
        have HX2 := Lib.hid (show Blk4 (w2.setCell ⟨w.heap.size + 1, 1, none⟩ (.int .i64 (A : Nat))) (w.heap.size + 1) (.int .u8 (k : Nat)) (.int .i64 (A : Nat)) (.int .i64 0) (.int .i64 0) 54 from HX1.out.set1)
        have HR2 := Lib.hid (show Blk4 (w2.setCell ⟨w.heap.size + 1, 1, none⟩ (.int .i64 (A : Nat))) w.heap.size (.int .u8 0) (.int .i64 0) (.int .i64 0) (.int .i64 0) 54 from HR1.out.other hXR)
        have HB2 := Lib.hid (show Below w.heap.size w (w2.setCell ⟨w.heap.size + 1, 1, none⟩ (.int .i64 (A : Nat))) from HB1.out.setCell (by show w.heap.size ≤ w.heap.size + 1; omega) _)
        clear HX1 HR1 HB1 x0 x1 x2 x3 h0 h1 h2 h3 ltx
        generalize (w2.setCell ⟨w.heap.size + 1, 1, none⟩ (.int .i64 (A : Nat))) = wv1 at *
        have HX1 := HX2
        have HR1 := HR2
        have HB1 := HB2
        clear HX2 HR2 HB2
        obtain ⟨x0, x1, x2, x3, h0, h1, h2, h3, ltx⟩ := HX1.out.box
        go_wp2_with fail
        refine (HG2.out wv1 HB1.out).mono ?_
        rintro e w' ⟨rfl, rfl⟩
        go_wp2_with fail
        refine (HG3.out wv1 HB1.out).mono ?_
        rintro e w' ⟨rfl, rfl⟩
        go_wp2_with fail
        refine (HSG.out wv1).mono ?_
        rintro e w' ⟨rfl, rfl⟩
        go_upto_region 18 with fail
        have HX2 := Lib.hid (show Blk4 (wv1.setCell ⟨w.heap.size + 1, 3, none⟩ (.int .i64 N)) (w.heap.size + 1) (.int .u8 (k : Nat)) (.int .i64 (A : Nat)) (.int .i64 0) (.int .i64 N) 54 from HX1.out.set3)
        have HR2 := Lib.hid (show Blk4 (wv1.setCell ⟨w.heap.size + 1, 3, none⟩ (.int .i64 N)) w.heap.size (.int .u8 0) (.int .i64 0) (.int .i64 0) (.int .i64 0) 54 from HR1.out.other hXR)
        have HB2 := Lib.hid (show Below w.heap.size w (wv1.setCell ⟨w.heap.size + 1, 3, none⟩ (.int .i64 N)) from HB1.out.setCell (by show w.heap.size ≤ w.heap.size + 1; omega) _)
        clear HX1 HR1 HB1 x0 x1 x2 x3 h0 h1 h2 h3 ltx
        generalize (wv1.setCell ⟨w.heap.size + 1, 3, none⟩ (.int .i64 N)) = wv2 at *
        have HX1 := HX2
        have HR1 := HR2
        have HB1 := HB2
        clear HX2 HR2 HB2
        obtain ⟨x0, x1, x2, x3, h0, h1, h2, h3, ltx⟩ := HX1.out.box
        obtain ⟨c0, c1, c2, c3, f0, f1, f2, f3, lt4⟩ := HR1.out.box
        go_wp2_with fail
        exact bodyPost_ret (results_cell_row_tmp2 rfl _ _ w.heap.size _ _ _ _ rfl HR1.out.set Try.underlying54 rfl info4) rfl ⟨by rw [HRR.out]; rfl, HB1.out.trans (keep44 _ _ _ _ _ _)⟩
      · simp only [Int.ofNat_eq_natCast, Int.natCast_zero, Int.add_zero] at hA hB hV hr hszE
        have HG1 := Lib.hid (fun w' (h : Below w.heap.size w w') => refGet_any w' (some ⟨b, off, none⟩) n cap bs ((p : Int) + 1) wa (HS.out.below h) hn hcap (by unfold IntR; omega) (by unfold IntR; omega))
        have HG2 := Lib.hid (fun w' (h : Below w.heap.size w w') => refGet_any w' (some ⟨b, off, none⟩) n cap bs ((p : Int) + 1 + wa) wb (HS.out.below h) hn hcap (by unfold IntR; omega) (by unfold IntR; omega))
        rw [hA] at HG1
        rw [hB] at HG2
        have HSZ := Lib.hid hszE
        clear hszE hA hB hV
        have hszE := HSZ.out
        have HRR := Lib.hid hr
        clear hr
        have hXR : w.heap.size ≠ w.heap.size + 1 := by omega
        obtain ⟨x0, x1, x2, x3, h0, h1, h2, h3, ltx⟩ := HX1.out.box
        go_wp2_with fail
        refine (HG1.out w2 HB1.out).mono ?_
        rintro e w' ⟨rfl, rfl⟩
        go_upto_region 12 with fail
        have HX2 := Lib.hid (show Blk4 (w2.setCell ⟨w.heap.size + 1, 1, none⟩ (.int .i64 (A : Nat))) (w.heap.size + 1) (.int .u8 (k : Nat)) (.int .i64 (A : Nat)) (.int .i64 0) (.int .i64 0) 54 from HX1.out.set1)
        have HR2 := Lib.hid (show Blk4 (w2.setCell ⟨w.heap.size + 1, 1, none⟩ (.int .i64 (A : Nat))) w.heap.size (.int .u8 0) (.int .i64 0) (.int .i64 0) (.int .i64 0) 54 from HR1.out.other hXR)
        have HB2 := Lib.hid (show Below w.heap.size w (w2.setCell ⟨w.heap.size + 1, 1, none⟩ (.int .i64 (A : Nat))) from HB1.out.setCell (by show w.heap.size ≤ w.heap.size + 1; omega) _)
        clear HX1 HR1 HB1 x0 x1 x2 x3 h0 h1 h2 h3 ltx
        generalize (w2.setCell ⟨w.heap.size + 1, 1, none⟩ (.int .i64 (A : Nat))) = wv1 at *
        have HX1 := HX2
        have HR1 := HR2
        have HB1 := HB2
        clear HX2 HR2 HB2
        obtain ⟨x0, x1, x2, x3, h0, h1, h2, h3, ltx⟩ := HX1.out.box
        go_wp2_with fail
        refine (HG2.out wv1 HB1.out).mono ?_
        rintro e w' ⟨rfl, rfl⟩
        go_upto_region 15 with fail
        have HX2 := Lib.hid (show Blk4 (wv1.setCell ⟨w.heap.size + 1, 2, none⟩ (.int .i64 (Bv : Nat))) (w.heap.size + 1) (.int .u8 (k : Nat)) (.int .i64 (A : Nat)) (.int .i64 (Bv : Nat)) (.int .i64 0) 54 from HX1.out.set2)
        have HR2 := Lib.hid (show Blk4 (wv1.setCell ⟨w.heap.size + 1, 2, none⟩ (.int .i64 (Bv : Nat))) w.heap.size (.int .u8 0) (.int .i64 0) (.int .i64 0) (.int .i64 0) 54 from HR1.out.other hXR)
        have HB2 := Lib.hid (show Below w.heap.size w (wv1.setCell ⟨w.heap.size + 1, 2, none⟩ (.int .i64 (Bv : Nat))) from HB1.out.setCell (by show w.heap.size ≤ w.heap.size + 1; omega) _)
        clear HX1 HR1 HB1 x0 x1 x2 x3 h0 h1 h2 h3 ltx
        generalize (wv1.setCell ⟨w.heap.size + 1, 2, none⟩ (.int .i64 (Bv : Nat))) = wv2 at *
        have HX1 := HX2
        have HR1 := HR2
        have HB1 := HB2
        clear HX2 HR2 HB2
        obtain ⟨x0, x1, x2, x3, h0, h1, h2, h3, ltx⟩ := HX1.out.box
        go_upto_region 18 with fail
        obtain ⟨c0, c1, c2, c3, f0, f1, f2, f3, lt4⟩ := HR1.out.box
        go_wp2_with fail
        exact bodyPost_ret (results_cell_row_tmp2 rfl _ _ w.heap.size _ _ _ _ rfl HR1.out.set Try.underlying54 rfl info4) rfl ⟨by rw [HRR.out]; rfl, HB1.out.trans (keep44 _ _ _ _ _ _)⟩
      · have HG1 := Lib.hid (fun w' (h : Below w.heap.size w w') => refGet_any w' (some ⟨b, off, none⟩) n cap bs ((p : Int) + 1) wa (HS.out.below h) hn hcap (by unfold IntR; omega) (by unfold IntR; omega))
        have HG2 := Lib.hid (fun w' (h : Below w.heap.size w w') => refGet_any w' (some ⟨b, off, none⟩) n cap bs ((p : Int) + 1 + wa) wb (HS.out.below h) hn hcap (by unfold IntR; omega) (by unfold IntR; omega))
        have HG3 := Lib.hid (fun w' (h : Below w.heap.size w w') => refGet_any w' (some ⟨b, off, none⟩) n cap bs ((p : Int) + 1 + wa + wb) wn (HS.out.below h) hn hcap (by unfold IntR; omega) (by unfold IntR; omega))
        rw [hA] at HG1
        rw [hB] at HG2
        rw [hV] at HG3
        have HSG := Lib.hid (fun w' => refSign_any w' V wn ⟨by omega, by omega⟩ (by unfold IntR; omega))
        obtain ⟨N, hN⟩ : ∃ N, N = signB (V : Int) wn := ⟨_, rfl⟩
        rw [← hN] at HSG hr
        clear hN
        have HSZ := Lib.hid hszE
        clear hszE hA hB hV
        have hszE := HSZ.out
        have HRR := Lib.hid hr
        clear hr
        have hXR : w.heap.size ≠ w.heap.size + 1 := by omega
        obtain ⟨x0, x1, x2, x3, h0, h1, h2, h3, ltx⟩ := HX1.out.box
        go_wp2_with fail
        refine (HG1.out w2 HB1.out).mono ?_
        rintro e w' ⟨rfl, rfl⟩
        go_upto_region 12 with fail
        have HX2 := Lib.hid (show Blk4 (w2.setCell ⟨w.heap.size + 1, 1, none⟩ (.int .i64 (A : Nat))) (w.heap.size + 1) (.int .u8 (k : Nat)) (.int .i64 (A : Nat)) (.int .i64 0) (.int .i64 0) 54 from HX1.out.set1)
        have HR2 := Lib.hid (show Blk4 (w2.setCell ⟨w.heap.size + 1, 1, none⟩ (.int .i64 (A : Nat))) w.heap.size (.int .u8 0) (.int .i64 0) (.int .i64 0) (.int .i64 0) 54 from HR1.out.other hXR)
        have HB2 := Lib.hid (show Below w.heap.size w (w2.setCell ⟨w.heap.size + 1, 1, none⟩ (.int .i64 (A : Nat))) from HB1.out.setCell (by show w.heap.size ≤ w.heap.size + 1; omega) _)
        clear HX1 HR1 HB1 x0 x1 x2 x3 h0 h1 h2 h3 ltx
        generalize (w2.setCell ⟨w.heap.size + 1, 1, none⟩ (.int .i64 (A : Nat))) = wv1 at *
        have HX1 := HX2
        have HR1 := HR2
        have HB1 := HB2
        clear HX2 HR2 HB2
        obtain ⟨x0, x1, x2, x3, h0, h1, h2, h3, ltx⟩ := HX1.out.box
        go_wp2_with fail
        refine (HG2.out wv1 HB1.out).mono ?_
        rintro e w' ⟨rfl, rfl⟩
        go_upto_region 15 with fail
        have HX2 := Lib.hid (show Blk4 (wv1.setCell ⟨w.heap.size + 1, 2, none⟩ (.int .i64 (Bv : Nat))) (w.heap.size + 1) (.int .u8 (k : Nat)) (.int .i64 (A : Nat)) (.int .i64 (Bv : Nat)) (.int .i64 0) 54 from HX1.out.set2)
        have HR2 := Lib.hid (show Blk4 (wv1.setCell ⟨w.heap.size + 1, 2, none⟩ (.int .i64 (Bv : Nat))) w.heap.size (.int .u8 0) (.int .i64 0) (.int .i64 0) (.int .i64 0) 54 from HR1.out.other hXR)
        have HB2 := Lib.hid (show Below w.heap.size w (wv1.setCell ⟨w.heap.size + 1, 2, none⟩ (.int .i64 (Bv : Nat))) from HB1.out.setCell (by show w.heap.size ≤ w.heap.size + 1; omega) _)
        clear HX1 HR1 HB1 x0 x1 x2 x3 h0 h1 h2 h3 ltx
        generalize (wv1.setCell ⟨w.heap.size + 1, 2, none⟩ (.int .i64 (Bv : Nat))) = wv2 at *
        have HX1 := HX2
        have HR1 := HR2
        have HB1 := HB2
        clear HX2 HR2 HB2
        obtain ⟨x0, x1, x2, x3, h0, h1, h2, h3, ltx⟩ := HX1.out.box
        go_wp2_with fail
        refine (HG3.out wv2 HB1.out).mono ?_
        rintro e w' ⟨rfl, rfl⟩
        go_wp2_with fail
        refine (HSG.out wv2).mono ?_
        rintro e w' ⟨rfl, rfl⟩
        go_upto_region 18 with fail
        have HX2 := Lib.hid (show Blk4 (wv2.setCell ⟨w.heap.size + 1, 3, none⟩ (.int .i64 N)) (w.heap.size + 1) (.int .u8 (k : Nat)) (.int .i64 (A : Nat)) (.int .i64 (Bv : Nat)) (.int .i64 N) 54 from HX1.out.set3)
        have HR2 := Lib.hid (show Blk4 (wv2.setCell ⟨w.heap.size + 1, 3, none⟩ (.int .i64 N)) w.heap.size (.int .u8 0) (.int .i64 0) (.int .i64 0) (.int .i64 0) 54 from HR1.out.other hXR)
        have HB2 := Lib.hid (show Below w.heap.size w (wv2.setCell ⟨w.heap.size + 1, 3, none⟩ (.int .i64 N)) from HB1.out.setCell (by show w.heap.size ≤ w.heap.size + 1; omega) _)
        clear HX1 HR1 HB1 x0 x1 x2 x3 h0 h1 h2 h3 ltx
        generalize (wv2.setCell ⟨w.heap.size + 1, 3, none⟩ (.int .i64 N)) = wv3 at *
        have HX1 := HX2
        have HR1 := HR2
        have HB1 := HB2
        clear HX2 HR2 HB2
        obtain ⟨x0, x1, x2, x3, h0, h1, h2, h3, ltx⟩ := HX1.out.box
        obtain ⟨c0, c1, c2, c3, f0, f1, f2, f3, lt4⟩ := HR1.out.box
        go_wp2_with fail
        exact bodyPost_ret (results_cell_row_tmp2 rfl _ _ w.heap.size _ _ _ _ rfl HR1.out.set Try.underlying54 rfl info4) rfl ⟨by rw [HRR.out]; rfl, HB1.out.trans (keep44 _ _ _ _ _ _)⟩
end Go.Proofs.Ytbcldlbmbdfejaa
