/- nor: the walk of NorClears. No condition. -/
import Derived.Test.YtjlcgffcfhfffaaNorPlain4
namespace Go.Proofs.Ytjlcgffcfhfffaa
open Go.ChangeShapes Go.WideShapes Go.ChangeAt Go.RowKit
open Fl
theorem Sl.part {α : Type} {enc : α → Value} {w : World} {b off n k m : Nat} {xs : List α} (h : Sl enc w (some ⟨b, off, none⟩) n xs) (hk : k + m ≤ n) : Sl enc w (some ⟨b, off + k, none⟩) (k + m - k) ((xs.drop k).take m) := by
  have hl := h.1
  refine ⟨by simp; omega, fun hn => ?_⟩
  obtain ⟨b', off', ha, hlt, hc⟩ := h.2 (by omega)
  cases ha
  refine ⟨_, _, rfl, hlt, fun i hi => ?_⟩
  have := hc (k + i) (by simp at hi; omega)
  rw [Nat.add_assoc, this]
  simp
set_option maxRecDepth 100000 in
set_option maxHeartbeats 8000000 in
theorem walk_NorClears (s b : Int) (a1 : Option Addr) (n1 cap1 : Nat) (z1 : List Int) (at' : Int) (a2 : Option Addr) (n2 cap2 : Nat) (z2 : List Int) (torn : Bool) (keep : Int) (mask : UInt8) (w : World)
    (hs : (Lit.int .u8 s).wf = true) (hb : (Lit.int .u8 b).wf = true) (h1 : IsRow .u8 w a1 n1 cap1 z1) (hat : (Lit.int .u16 at').wf = true) (h2 : IsRow .u8 w a2 n2 cap2 z2) (hk : (Lit.int .i64 keep).wf = true) :
    Calls Try.prog 4 #[.int .u8 s, .int .u8 b, .slice a1 n1 cap1, .int .u16 at', .slice a2 n2 cap2, .bool torn, .agg #[.int .i64 keep, .int .u8 (mask.toNat : Int)]] w fun e w' => e = .returned (.bool true) ∧ Below w.heap.size w w' := by
  obtain ⟨s1, s2⟩ := bounds_u8 hs
  obtain ⟨b1, b2⟩ := bounds_u8 hb
  obtain ⟨t1, t2⟩ := bounds_u16 hat
  have hkr : IntR keep := bounds_i64 hk
  clear hs hb hat hk
  obtain ⟨s, rfl⟩ : ∃ k : Nat, s = k := ⟨s.toNat, by omega⟩
  obtain ⟨b, rfl⟩ : ∃ k : Nat, b = k := ⟨b.toNat, by omega⟩
  obtain ⟨at', rfl⟩ : ∃ k : Nat, at' = k := ⟨at'.toNat, by omega⟩
  have hcap1 := Row.cap h1
  have hcap2 := Row.cap h2
  obtain ⟨xs, hxs, hln1⟩ := Bs.ofRow h1
  obtain ⟨ys, hys, hln2⟩ := Bs.ofRow h2
  unfold maxLen at hln1 hln2
  have SX := Lib.hid hxs.sl
  have SY := Lib.hid hys.sl
  have HLX := Lib.hid hxs.1
  have HLY := Lib.hid hys.1
  clear h1 h2 hxs hys
  have hb0 : Below w.heap.size w (w.alloc (.cells #[.int .i64 keep, .int .u8 (mask.toNat : Int)] 39)) := (Below.refl _ _).alloc (Nat.le_refl _) _
  have hbx : ∀ w', Below (w.alloc (.cells #[.int .i64 keep, .int .u8 (mask.toNat : Int)] 39)).heap.size (w.alloc (.cells #[.int .i64 keep, .int .u8 (mask.toNat : Int)] 39)) w' → BoxS w.heap.size (.int .i64 keep) (.int .u8 (mask.toNat : Int)) w' := by
    intro w' h
    constructor
    · rw [h.cell (by simp), cell_of_row _ w.heap.size 0 _ _ _ (heap_alloc_last w _)]; rfl
    · rw [h.cell (by simp), cell_of_row _ w.heap.size 1 _ _ _ (heap_alloc_last w _)]; rfl
  have HB0 := Lib.hid hb0
  have HBX := Lib.hid hbx
  clear hb0 hbx
  generalize hW0 : w.alloc (.cells #[.int .i64 keep, .int .u8 (mask.toNat : Int)] 39) = W0 at HB0 HBX
  have FX := Lib.hid (fixed_any W0)
  go_enter Try.func4, Try.ntmps4
  go_upto_region 1 with fail
  clear hW0
  go_wp2_with fail
  with_reducible refine FX.out.mono ?_
  rintro e w1 ⟨rfl, hb⟩
  have HA := Lib.hid hb
  clear hb FX
  by_cases l1 : 200 < n1
  · go_wp2_with fail
    go_ret
    exact ⟨rfl, HB0.out.trans (HA.out.mono HB0.out.size)⟩
  by_cases l2 : 200 < n2
  · go_wp2_with fail
    go_ret
    exact ⟨rfl, HB0.out.trans (HA.out.mono HB0.out.size)⟩
  have SM := small_any w1 s b 9 (by omega) (by omega) (by omega)
  obtain ⟨S, hS, hS1⟩ : ∃ S, 1 + s % 5 = S ∧ (1 ≤ S ∧ S ≤ 5) := ⟨_, rfl, by omega⟩
  obtain ⟨Z, hZ, hZ1⟩ : ∃ Z, 64 + b % 80 = Z ∧ (64 ≤ Z ∧ Z ≤ 143) := ⟨_, rfl, by omega⟩
  rw [hS, hZ, show ((1 + 9 % 6 : Nat) : Int) = 4 from rfl, show ((9 : Nat) : Int) = 9 from rfl] at SM
  replace SM := Lib.hid SM
  clear hS hZ s1 s2 b1 b2
  go_wp2_with fail
  with_reducible refine SM.out.mono ?_
  rintro e w2 ⟨rfl, hb⟩
  go_upto_region 6 with fail
  have HG := Lib.hid (GeoS.new w2 S Z 4 25)
  have HA2 := Lib.hid ((HA.out.trans (hb.mono HA.out.size)).alloc (Nat.le_trans HA.out.size hb.size) (.cells #[.int .i64 S, .int .i64 Z, .int .i64 4] 25))
  rw [show ((4 : Nat) : Int) = 4 from rfl] at HG
  generalize hG : w2.heap.size = G at HG ⊢
  generalize w2.alloc (.cells #[.int .i64 S, .int .i64 Z, .int .i64 4] 25) = W3 at HG HA2 ⊢
  clear hG hb HA SM
  obtain ⟨g0, g1, g2, glt⟩ := HG.out
  rw [show ((4 : Nat) : Int) = 4 from rfl] at g2
  have N1 := Lib.hid (show Calls Try.prog 10 #[.agg #[.int .i64 S, .int .i64 Z, .int .i64 4]] W3 (NewMade W3 S Z 4) from New_made W3 S Z 4 ⟨by omega, by omega, by omega⟩)
  obtain ⟨al, hal⟩ : ∃ al : Nat, S * Z = al := ⟨_, rfl⟩
  have hal1 : 64 ≤ al ∧ al ≤ 715 := by rw [← hal]; have h1 := Nat.mul_le_mul hS1.1 hZ1.1; have h2 := Nat.mul_le_mul hS1.2 hZ1.2; omega
  have hali : (S : Int) * (Z : Int) = (al : Int) := by rw [← hal]; simp
  obtain ⟨k, hk, hka⟩ : ∃ k : Nat, (at' : Int) % (al : Int) = k ∧ k < al := ⟨at' % al, by simp, Nat.mod_lt _ (by omega)⟩
  have nz : ¬ al = 0 := by omega
  have HAL := Lib.hid hal
  clear hal
  go_wp2_with fail
  with_reducible refine N1.out.mono ?_
  rintro e w4 ⟨g, gb, gc, cb, cc, rfl, hF, hb⟩
  have HF := Lib.hid hF
  have HB := Lib.hid hb
  obtain ⟨d0, d1, d2, dlt⟩ := HG.out.below hb
  have sA := HA2.out.size
  have sB : w.heap.size ≤ W3.heap.size := Nat.le_trans HB0.out.size sA
  have HWX := Lib.hid (HB0.out.trans (HA2.out.mono HB0.out.size))
  obtain ⟨p1, p2, p3, p4⟩ := first_prog S Z 4 (0 : Int) xs
  have PP := Lib.hid (Program_at W3.heap.size W3 w4 g gb gc cb cc _ HF.out HB.out (Nat.le_refl _) 0 a1 n1 cap1 xs (SX.out.below (HWX.out.trans (hb.mono sB))) hcap1 (by unfold IntR; omega) (by unfold maxLen; omega) (NotIn.old SX.out sB HF.out.b1) (NotIn.old SX.out sB HF.out.b2) (NotIn.old SX.out sB HF.out.b3))
  generalize (Fl.mk0 S Z 4).prog 0 xs = f1 at p1 p2 p3 p4 PP
  have HP := Lib.hid (And.intro p1 (And.intro p2 (And.intro p3 p4)))
  have Q1 := Lib.hid (NotIn.old SY.out sB HF.out.b1)
  have Q2 := Lib.hid (NotIn.old SY.out sB HF.out.b2)
  have Q3 := Lib.hid (NotIn.old SY.out sB HF.out.b3)
  clear hF hb N1 g0 g1 g2 glt p1 p2 p3 p4
  go_wp2_with fail
  with_reducible refine PP.out.mono ?_
  rintro e w5 ⟨rfl, hF, hb⟩
  replace HF := Lib.hid hF
  replace HB := Lib.hid hb
  have hfl : f1.bs.length = al := by rw [hF.fl.len, HP.out.2.2.1, HP.out.2.2.2]; exact HAL.out
  have HFL := Lib.hid hfl
  obtain ⟨r1, r2⟩ := read_all HP.out.1 hfl
  have PR := Lib.hid (Read_at W3.heap.size W3 w5 g gb gc cb cc f1 HF.out HB.out (Nat.le_refl _) 0 al (by unfold IntR; omega) (by unfold IntR; omega))
  rw [r1, r2] at PR
  have hlt5 := hF.fl.lt
  clear hF hb PP d0 d1 d2 dlt hfl r1 r2
  go_wp2_with fail
  with_reducible refine PR.out.mono ?_
  rintro e w6 ⟨a3, m3, c3, rfl, hown, hmc3, hF, hb, hb6⟩
  replace HF := Lib.hid hF
  replace HB := Lib.hid hb
  have S3 := Lib.hid (Sl.ofOwnS hown).1
  have M1 := Lib.hid (own_notIn hown hlt5.1)
  have M2 := Lib.hid (own_notIn hown hlt5.2.1)
  have M3 := Lib.hid (own_notIn hown hlt5.2.2)
  have hm3 : m3 = al := by have := (Sl.ofOwnS hown).1.1; rw [HFL.out] at this; exact this.symm
  subst hm3
  clear hF hb hb6 hown PR hlt5
  go_upto_if 58 with fail
  go_cut [] (fun wx => FlAt W3.heap.size wx g gb gc cb cc (if torn = true then f1.fuse 0 keep mask else f1) ∧ Below W3.heap.size W3 wx ∧ Kept g gb gc w6 wx)
  case first =>
    cases torn with
    | false =>
      go_wp2_with fail
      go_meet
      exact ⟨HF.out, HB.out, Kept.refl _ _ _ _⟩
    | true =>
      obtain ⟨x1, x2⟩ := HBX.out w6 (HA2.out.trans (HB.out.mono sA))
      have PF := Lib.hid (Fuse_any w6 g gb gc cb cc f1 HF.out.fl 0 keep mask (by unfold IntR; omega) hkr)
      go_wp2_with fail
      with_reducible refine PF.out.mono ?_
      intro e w7 hT
      have hT2 := hT
      obtain ⟨rfl, hF, hkk⟩ := hT
      have HT := Lib.hid (Turned.acted hT2 HF.out HB.out (Nat.le_refl _))
      have HKK := Lib.hid hkk
      clear hT2 hF hkk PF
      go_wp2_with fail
      go_meet
      exact ⟨HT.out.2.1, HT.out.2.2, HKK.out⟩
  case rest =>
    obtain ⟨hF, hb, hkk⟩ := hcut
    have hC := cleared HP.out.1 HP.out.2.1 k ys torn keep mask
    generalize (if torn = true then f1.fuse 0 keep mask else f1) = f2 at hF hC
    have HF2 := Lib.hid hF
    have HB2 := Lib.hid hb
    have HK2 := Lib.hid hkk
    have PP := Lib.hid (Program_any wc g gb gc cb cc f2 hF.fl k a2 n2 cap2 ys ((SY.out.below HWX.out).below (hb.mono (Nat.le_refl _))) hcap2 (by unfold IntR; omega) (by unfold maxLen; omega) Q1.out Q2.out Q3.out)
    generalize f2.progE k ys = r at hC PP
    have HC := Lib.hid hC
    clear hF hb hkk hC
    go_wp2_with fail
    with_reducible refine PP.out.mono ?_
    rintro e w7 ⟨rfl, hF, hkk⟩
    have PS := Lib.hid (Reset_any w7 g gb gc cb cc _ hF)
    have HK7 := Lib.hid (HK2.out.trans hkk)
    generalize hf3 : (f2.prog k ys).reset = f3 at HC PS
    clear hF hkk PP hf3
    go_wp2_with fail
    with_reducible refine PS.out.mono ?_
    rintro e w8 ⟨rfl, hF, hkk⟩
    have HK8 := Lib.hid (HK7.out.trans hkk)
    have HB8 := Lib.hid (HK8.out.below HB.out (Nat.le_refl _) HF2.out.b1 HF2.out.b2 HF2.out.b3)
    have HF8 := Lib.hid (show FlAt W3.heap.size w8 g gb gc cb cc f3 from ⟨hF, HF2.out.b1, HF2.out.b2, HF2.out.b3⟩)
    obtain ⟨r1, r2⟩ := read_all HC.out.dn (HC.out.ln.trans HFL.out)
    have PR := Lib.hid (Read_at W3.heap.size W3 w8 g gb gc cb cc f3 HF8.out HB8.out (Nat.le_refl _) 0 m3 (by unfold IntR; omega) (by unfold IntR; omega))
    rw [r1, r2] at PR
    clear hF hkk PS r1 r2
    go_wp2_with fail
    with_reducible refine PR.out.mono ?_
    rintro e w9 ⟨a4, m4, c4, rfl, hown, hmc4, hF, hb, hb9⟩
    have S4 := Lib.hid (Sl.ofOwnS hown).1
    have hm4 : m4 = m3 := by have := (Sl.ofOwnS hown).1.1; rw [HC.out.ln, HFL.out] at this; exact this.symm
    subst hm4
    have S3' := Lib.hid (((S3.out.kept HK8.out M1.out M2.out M3.out)).below hb9)
    have SY' := Lib.hid ((SY.out.below HWX.out).below (hb.mono (Nat.le_refl _)))
    have HB9 := Lib.hid hb
    have hrs := HC.out.rs
    clear hF hb hb9 hown PR
    go_upto_region 16 with fail
    go_cut [101] (fun s101 wx => wx = w9 ∧ s101 = .bool false)
    case first =>
      have h5 := HC.out.t5
      have h0 := HC.out.t0
      rcases hrs with h | h | h | h
      · subst h
        obtain rfl := h0 rfl
        clear h5 h0
        go_wp2_with fail
        go_meet
        exact ⟨rfl, rfl⟩
      · subst h
        clear h5 h0
        cases torn with
        | false =>
          go_wp2_with fail
          go_meet
          exact ⟨rfl, rfl⟩
        | true =>
          go_wp2_with fail
          go_meet
          exact ⟨rfl, rfl⟩
      · subst h
        clear h5 h0
        cases torn with
        | false =>
          go_wp2_with fail
          go_meet
          exact ⟨rfl, rfl⟩
        | true =>
          go_wp2_with fail
          go_meet
          exact ⟨rfl, rfl⟩
      · subst h
        obtain rfl := h5 rfl
        clear h5 h0
        go_wp2_with fail
        go_meet
        exact ⟨rfl, rfl⟩
    case rest =>
      obtain ⟨rfl, rfl⟩ := hcut
      obtain ⟨ba, oa, rfl, hba, hca⟩ := S4.out.2 (by omega)
      obtain ⟨bb, ob, rfl, hbb, hcb⟩ := S3'.out.2 (by omega)
      have HCA := Lib.hid hca
      have HCB := Lib.hid hcb
      have HLA := Lib.hid S4.out.1
      have HLB := Lib.hid S3'.out.1
      have HWW := Lib.hid (HWX.out.trans (HB9.out.mono sB))
      clear hca hcb
      go_wp2_with fail
      go_loopg [104] m4 (fun gn i wr => ∃ j : Nat, j ≤ m4 ∧ gn = m4 - j ∧ i = .int .i64 j ∧ Hid (Below wc.heap.size wc wr))
      case atStart => exact ⟨0, by omega, by omega, by go_num, Below.refl _ _⟩
      case round =>
        obtain ⟨j, hj, rfl, rfl, HR⟩ := hrel
        by_cases hlt : j < m4
        · obtain ⟨hx1, hx2⟩ := HC.out.bit j (by rw [HFL.out]; exact hlt)
          have cx : wr.cell? ⟨ba, oa + j, none⟩ = some (.int .u8 ((f3.bs.getD j 0).toNat : Int)) := by
            have hj3 : j < f3.bs.length := by rw [HLA.out]; exact hlt
            rw [HR.out.cell hba, HCA.out j hj3]; simp [List.getD, hj3, encB]
          have cy : wr.cell? ⟨bb, ob + j, none⟩ = some (.int .u8 ((f1.bs.getD j 0).toNat : Int)) := by
            have hj3 : j < f1.bs.length := by rw [HLB.out]; exact hlt
            rw [HR.out.cell hbb, HCB.out j hj3]; simp [List.getD, hj3, encB]
          have hand := u8_and (f3.bs.getD j 0) (f1.bs.getD j 0)
          rw [hx1] at hand
          have hne : ¬ ((f3.bs.getD j 0).toNat : Int) = ((f1.bs.getD j 0).toNat : Int) → k ≤ j ∧ j < k + n2 := fun h => by
            have := hx2 (fun e => h (by rw [e])); rw [HLY.out] at this; exact this
          generalize ((f3.bs.getD j 0).toNat : Int) = x at cx hand hne
          generalize ((f1.bs.getD j 0).toNat : Int) = y at cy hand hne
          have j0 : (0 : Int) ≤ j := by omega
          have j1 : (j : Int) < m4 := by omega
          have z0 : (x == x) = true := by simp
          have z1 : (x != x) = false := by simp
          have HN := Lib.hid hne
          clear hx1 hx2 hne
          have w1 : IntKind.i64.wrap ((k : Int) + n2) = (k : Int) + n2 := IntWalk.i64_in _ (by omega)
          obtain ⟨W, rfl⟩ : ∃ W, W = wr := ⟨_, rfl⟩
          go_upto_region 21 with fail
          by_cases hxy : x = y
          · subst hxy
            go_quiet (fail)
            go_wp2_with fail
            go_roundg (m4 - (j + 1))
            case measure => omega
            case rel => exact ⟨j + 1, by omega, rfl, by go_num, bdrewN HR.out _⟩
          · obtain ⟨k1, k2⟩ := HN.out hxy
            have z2 : (x == y) = false := eqi_no hxy
            have z3 : (x != y) = true := by simp [hxy]
            have z4 : decide ((j : Int) < k) = false := decide_eq_false (by omega)
            have z5 : decide ((k : Int) + n2 ≤ j) = false := decide_eq_false (by omega)
            have z6 : ¬ (j : Int) < k := by omega
            have z7 : ¬ (k : Int) + n2 ≤ j := by omega
            clear hxy
            go_quiet (fail)
            go_wp2_with fail
            go_roundg (m4 - (j + 1))
            case measure => omega
            case rel => exact ⟨j + 1, by omega, rfl, by go_num, bdrewN HR.out _⟩
        · obtain rfl : j = m4 := by omega
          have T4 := Lib.hid (S4.out.below HR.out)
          have T3 := Lib.hid (S3'.out.below HR.out)
          have TY := Lib.hid (SY'.out.below HR.out)
          have HWE := Lib.hid (HWW.out.trans (HR.out.mono HWW.out.size))
          obtain ⟨W, rfl⟩ : ∃ W, W = wr := ⟨_, rfl⟩
          go_upto_region 24 with fail
          have g1 : (0 : Int) ≤ k := by omega
          have g2 : (k : Int) ≤ k + n2 := by omega
          have w1 : IntKind.i64.wrap ((k : Int) + n2) = (k : Int) + n2 := IntWalk.i64_in _ (by omega)
          by_cases hr0 : r = 0
          · obtain ⟨o1, o2⟩ := HC.out.ok0 hr0
            subst hr0
            rw [HLY.out] at o1 o2
            rw [HFL.out] at o1
            have cvP := fun n => run_conv ((T4.out.part o1).below (bdrewN (Below.refl W.heap.size W) n)) (c4 - k)
            rw [o2] at cvP
            simp only [Nat.add_sub_cancel_left] at cvP
            have cvY := fun n => run_conv (TY.out.below (bdrewN (Below.refl W.heap.size W) n)) cap2
            have g3 : (k : Int) + n2 ≤ c4 := by omega
            have g4 : ¬ c4 = k := by omega
            clear o1 o2 hrs hlt hali hk hal1 hS1 hZ1 hka nz l1 l2
            go_quiet (fail)
            have HY := Lib.hid (bdrewN HWE.out nq)
            go_wp2_with fail
            go_ret
            exact ⟨rfl, HY.out⟩
          · have z1 : (r == 0) = false := eqi_no hr0
            have z2 : (r != 0) = true := by simp [hr0]
            by_cases hr5 : r = 5
            · subst hr5
              clear hr0
              go_quiet (fail)
              have HY := Lib.hid (bdrewN HWE.out nq)
              go_wp2_with fail
              go_ret
              exact ⟨rfl, HY.out⟩
            · have z3 : (r == 5) = false := eqi_no hr5
              have hsm : f3.bs = f1.bs := (HC.out.no hr0).resolve_left hr5
              have cvA := fun n => run_conv (T4.out.below (bdrewN (Below.refl W.heap.size W) n)) c4
              have cvB := fun n => run_conv (T3.out.below (bdrewN (Below.refl W.heap.size W) n)) c3
              rw [hsm] at cvA
              clear hr0 hr5 hsm
              go_quiet (fail)
              have HY := Lib.hid (bdrewN HWE.out nq)
              go_wp2_with fail
              go_ret
              exact ⟨rfl, HY.out⟩
end Go.Proofs.Ytjlcgffcfhfffaa
