/- image: Bytes, the program's. No condition. -/
import Derived.Test.YtbcldlbmbdfejaaQ09ImageBytes
namespace Go.Proofs.Ytbcldlbmbdfejaa
open Go.ChangeShapes Go.WideShapes Go.ChangeAt Go.RowKit
set_option maxRecDepth 100000 in
set_option maxHeartbeats 4000000 in
theorem codeSize_any (w : World) (k : KW) (hk : k.tn ≤ 1000000) : Calls Try.prog 22 #[.agg k.vals.toArray] w fun e w' => e = .returned (.int .i64 (14 + 8 * (k.tn : Int))) ∧ Below w.heap.size w w' := by
  obtain ⟨x0, x1, x2, x3, x4, ta, tn, tc, ts⟩ := k
  simp only at hk
  unfold KW.vals
  go_enter Try.func22, Try.ntmps22
  go_wp2_with fail
  go_ret
  exact ⟨rfl, (Below.refl _ _).alloc (Nat.le_refl _) _⟩
/-- What Bytes answers. -/
def BytesRet (R : Int × List UInt8) (w : World) (e : Ending) (w' : World) : Prop :=
  ∃ a m c, e = .returned (.tuple #[.slice a m c, .int .i64 R.1]) ∧ Sl encB w' a m R.2 ∧ m ≤ c ∧ Below w.heap.size w w'
theorem BytesRet.err {R : Int × List UInt8} {w w' : World} {e : Int} (h : R = (e, [])) (hb : Below w.heap.size w w') : BytesRet R w (.returned (.tuple #[.slice none 0 0, .int .i64 e])) w' := by
  subst h
  exact ⟨_, 0, 0, rfl, Sl.nil _ _, Nat.le_refl _, hb⟩
theorem r_four {a b c d : Int} (ha : IntR a) (hb : IntR b) (hc : IntR c) (hd : IntR d) : ∀ u ∈ [a, b, c, d], IntR u := fun u hu => by
  rcases List.mem_cons.1 hu with rfl | h
  · exact ha
  · exact r_three hb hc hd u h
def KS (g : Nat) (w z : World) : Prop := Keep1 g w z
set_option maxRecDepth 100000 in
set_option maxHeartbeats 32000000 in
theorem Bytes_any (w : World) (x : XW) (hx : x.Rd w) (hr : x.Right) (a : Option Addr) (n cap : Nat) (F : List BV) (hF : Sl BV.enc w a n F) (hf : ∀ f ∈ F, BVf w f) (hlen : x.ks.length = x.ms.length → F.length = x.ks.length → startX x + lensL (F.map (·.data)) ≤ 1000000) :
    Calls Try.prog 10 #[.agg x.vals, .slice a n cap] w (BytesRet (imgBytes x (F.map (·.data))) w) := by
  obtain ⟨R, hR⟩ : ∃ R, R = imgBytes x (F.map (·.data)) := ⟨_, rfl⟩
  rw [← hR]
  have HR := Lib.hid hR
  have HX := Lib.hid hx
  have HRR := Lib.hid hr
  have HF := Lib.hid hF
  have HFF := Lib.hid hf
  have HLn := Lib.hid hF.1
  have HLK := Lib.hid hx.k.1
  have HLM := Lib.hid hx.m.1
  have hlen' := hlen
  rw [hx.k.1, hx.m.1, hF.1] at hlen'
  clear hR hx hr hF hf hlen
  have HIB := Lib.hid (heap_alloc_last w (.cells x.vals 30))
  have hal : Below w.heap.size w (w.alloc (.cells x.vals 30)) := (Below.refl _ _).alloc (Nat.le_refl _) _
  have HB1 := Lib.hid hal
  clear hal
  by_cases hm : x.kn = x.mn
  case neg =>
    have HQ := Lib.hid (show R = (8, []) by rw [HR.out]; unfold imgBytes; rw [if_pos (.inl (by rw [HLK.out, HLM.out]; exact hm))])
    obtain ⟨ca, cn, cc, cs, ma, mn, mc, ms, st, sa, sn, sc, ss, ya, yn, yc, ys, xa, xn, xc, xs, ka, kn, kc, ks, main⟩ := x
    simp only at hm
    have e1 : ((kn : Int) != (mn : Int)) = true := by simp; omega
    clear hm
    unfold XW.vals at *
    simp only at *
    go_enter Try.func10, Try.ntmps10
    go_upto_region 1 with fail
    generalize w.alloc _ = W1 at *
    have c0 := row_cell HIB.out 6 rfl
    have c1 := row_cell HIB.out 1 rfl
    go_wp2_with fail
    go_ret2
    exact BytesRet.err HQ.out HB1.out
  by_cases hn : n = x.kn
  case neg =>
    have HQ := Lib.hid (show R = (8, []) by rw [HR.out]; unfold imgBytes; rw [if_pos (.inr (by rw [List.length_map, HLK.out, HLn.out]; exact hn))])
    obtain ⟨ca, cn, cc, cs, ma, mn, mc, ms, st, sa, sn, sc, ss, ya, yn, yc, ys, xa, xn, xc, xs, ka, kn, kc, ks, main⟩ := x
    simp only at hm hn
    have e1 : ((kn : Int) != (mn : Int)) = false := by simp; omega
    have e2 : ((n : Int) != (kn : Int)) = true := by simp; omega
    clear hm hn
    unfold XW.vals at *
    simp only at *
    go_enter Try.func10, Try.ntmps10
    go_upto_region 1 with fail
    generalize w.alloc _ = W1 at *
    have c0 := row_cell HIB.out 6 rfl
    have c1 := row_cell HIB.out 1 rfl
    go_wp2_with fail
    go_ret2
    exact BytesRet.err HQ.out HB1.out
  replace hlen := hlen' hm.symm.symm hn
  have HLX := Lib.hid hlen
  have HQ0 := Lib.hid (show R = if oddX x (F.map (·.data)) = true then (8, []) else if 262144 < (bytesX x (F.map (·.data))).length then (9, []) else (0, bytesX x (F.map (·.data))) by
    rw [HR.out]; unfold imgBytes; rw [if_neg (by rw [HLK.out, HLM.out, List.length_map, HLn.out]; omega)])
  have HDL := Lib.hid (show (bytesX x (F.map (·.data))).length = startX x + lensL (F.map (·.data)) from bytesX_len x _ (by rw [List.length_map, HLn.out, HLK.out]; exact hn))
  have HTL := Lib.hid (show (tabB x).length + sizeK x.ks + lensL (F.map (·.data)) ≤ 1000000 from hlen)
  have HTM := Lib.hid (fun (w' : World) (g : Nat) (hb : Below w.heap.size w w') (hg : w.heap.size ≤ g) (hW : Blk2 w' g (.slice none 0 0) (.bool false) 65) => tables_any w w' g x HX.out HRR.out hb hg hW (by have := HTL.out; omega))
  have hk20 : x.kn ≤ 1000000 := by
    have h1 := HTL.out
    have h2 : x.ks.length ≤ sizeK x.ks := by
      unfold sizeK
      generalize x.ks = l
      induction l with
      | nil => simp
      | cons k l ih => simp; omega
    rw [← HLK.out]
    omega
  have HPS := Lib.hid (show startX x = (tabB x).length + sizeK x.ks from rfl)
  unfold oddX bytesX at HQ0
  unfold bytesX at HDL
  clear hlen' hlen HR HLX
  generalize startX x = P at *
  generalize tabB x = TB at *
  generalize tabO x = TO at *
  have hkm := hm
  have hnm := hn
  obtain ⟨ca, cn, cc, cs, ma, mn, mc, ms, st, sa, sn, sc, ss, ya, yn, yc, ys, xa, xn, xc, xs, ka, kn, kc, ks, main⟩ := x
  simp only at hm hn hk20
  subst hm hn
  have e1 : ((n : Int) != (n : Int)) = false := by simp
  unfold XW.vals at *
  simp only at *
  clear hkm hnm
  go_enter Try.func10, Try.ntmps10
  go_upto_region 1 with fail
  generalize w.alloc _ = W1 at *
  have c0 := row_cell HIB.out 6 rfl
  have c1 := row_cell HIB.out 1 rfl
  go_upto_region 4 with fail
  have h12 : Below W1.heap.size W1 (W1.alloc (.cells #[.slice none 0 0, .bool false] 65)) := (Below.refl _ _).alloc (Nat.le_refl _) _
  have HG2 := Lib.hid (show Blk2 (W1.alloc (.cells #[.slice none 0 0, .bool false] 65)) W1.heap.size (.slice none 0 0) (.bool false) 65 from heap_alloc_last W1 _)
  have HIB2 := Lib.hid (row_below HIB.out h12)
  have HB2 := Lib.hid (HB1.out.trans (h12.mono HB1.out.size))
  have hgw : w.heap.size < W1.heap.size := row_lt HIB.out
  clear h12 c0 c1 HIB HB1
  generalize W1.alloc (.cells #[.slice none 0 0, .bool false] 65) = W2 at *
  generalize W1.heap.size = g at *
  have HTB := Lib.hid (HTM.out W2 g HB2.out (by omega) HG2.out)
  have ci := HIB2.out
  have b0 := row_cell HIB2.out 0 rfl
  have b1 := row_cell HIB2.out 1 rfl
  have b2 := row_cell HIB2.out 2 rfl
  have b3 := row_cell HIB2.out 3 rfl
  have b4 := row_cell HIB2.out 4 rfl
  have b5 := row_cell HIB2.out 5 rfl
  have b6 := row_cell HIB2.out 6 rfl
  have b7 := row_cell HIB2.out 7 rfl
  clear ci HTM
  go_wp2_with fail
  refine HTB.out.mono ?_
  rintro e' W3 ⟨rfl, hw3, hk3⟩
  have HW3 := Lib.hid hw3
  have HI3 := Lib.hid (hk3.blk HIB2.out (by omega))
  have HB3 := Lib.hid (hk3.below HB2.out (Nat.le_refl _) (by omega))
  clear hw3 hk3 HTB b0 b1 b2 b3 b4 b5 b6 b7 HIB2 HG2 HB2
  have b6 := row_cell HI3.out 6 rfl
  obtain ⟨a3, n3, c3, hk3, hs3, hc3, ho3, hw3⟩ := HW3.out
  have hn3 : n3 = TB.length := hs3.1.symm
  obtain ⟨q0, q1, r0, r1, lt3⟩ := hk3.box
  have HN3 := Lib.hid hn3
  clear hk3 hs3 hc3 ho3 hw3 hn3
  go_wp2_with fail
  go_loopg [44, 7] n (fun gn i v wr => ∃ j T : Nat, j ≤ n ∧ gn = n - j ∧ i = .int .i64 j ∧ v = .int .i64 T ∧ T ≤ 1000000 ∧ Hid (T = TB.length + sizeK (ks.take j)) ∧ Hid (Below W3.heap.size W3 wr))
  case atStart => exact ⟨0, n3, by omega, by omega, by go_num, rfl, by rw [HN3.out]; have := HTL.out; omega, Lib.hid (by rw [HN3.out]; rfl), Lib.hid (Below.refl _ _)⟩
  case round =>
    obtain ⟨j, T, hj, rfl, rfl, rfl, hT, HT, HBr⟩ := hrel
    by_cases hlt : j < n
    · have HBw := Lib.hid (HB3.out.trans (HBr.out.mono HB3.out.size))
      obtain ⟨b, off, k, rfl, hbl, hk, q⟩ := (HX.out.k.below HBw.out).get1 j hlt
      have hkr := (HX.out.kr k (List.mem_of_getElem? hk)).t.1
      have HST := Lib.hid (show sizeK (ks.take (j + 1)) = sizeK (ks.take j) + (14 + 8 * k.tn) by rw [take_snocX hk, sizeK_snoc, hkr])
      have hle := sizeK_take ks (j + 1)
      have htl := HTL.out
      have hT2 : T + (14 + 8 * k.tn) ≤ 1000000 := by rw [HT.out]; rw [HST.out] at hle; omega
      have HCS := Lib.hid (fun w' => codeSize_any w' k (by omega))
      obtain ⟨x0, x1, x2, x3, x4, ta, tn, tc, ts⟩ := k
      unfold KW.vals at HCS
      simp only at HCS HST hT2
      have p0 := q 0 (by omega)
      have p1 := q 1 (by omega)
      have p2 := q 2 (by omega)
      have p3 := q 3 (by omega)
      have p4 := q 4 (by omega)
      have p5 := q 5 (by omega)
      simp only [KW.vals, List.getElem?_cons_zero, List.getElem?_cons_succ, Nat.add_zero] at p0 p1 p2 p3 p4 p5
      clear q hk hkr hle htl q0 q1 r0 r1 b6
      go_upto_region 9 with fail
      have hal : Below wr.heap.size wr (wr.alloc (.cells #[.int .i64 x0, .int .i64 x1, .int .i64 x2, .int .i64 x3, .int .i64 x4, .slice ta tn tc] 62)) := (Below.refl _ _).alloc (Nat.le_refl _) _
      have HBA := Lib.hid (HBr.out.trans (hal.mono HBr.out.size))
      have HRA := heap_alloc_last wr (.cells #[.int .i64 x0, .int .i64 x1, .int .i64 x2, .int .i64 x3, .int .i64 x4, .slice ta tn tc] 62)
      clear hal HBr HBw p0 p1 p2 p3 p4 p5
      generalize wr.alloc (.cells #[.int .i64 x0, .int .i64 x1, .int .i64 x2, .int .i64 x3, .int .i64 x4, .slice ta tn tc] 62) = WA at *
      generalize wr.heap.size = gb at *
      have d0 := row_cell HRA 0 rfl
      have d1 := row_cell HRA 1 rfl
      have d2 := row_cell HRA 2 rfl
      have d3 := row_cell HRA 3 rfl
      have d4 := row_cell HRA 4 rfl
      have d5 := row_cell HRA 5 rfl
      clear HRA
      go_wp2_with fail
      refine (HCS.out WA).mono ?_
      rintro e' W5 ⟨rfl, hb5⟩
      have HB5 := Lib.hid (HBA.out.trans (hb5.mono HBA.out.size))
      clear hb5 d0 d1 d2 d3 d4 d5
      go_wp2_with fail
      go_roundg (n - (j + 1))
      case measure => omega
      case rel => exact ⟨j + 1, T + (14 + 8 * tn), by omega, rfl, by go_num, by go_num, hT2, Lib.hid (by rw [HST.out, HT.out]; omega), HB5⟩
    · obtain rfl : n = j := by omega
      have HLE := Lib.hid (show ks.take n = ks by rw [List.take_of_length_le (by rw [HLK.out]; exact Nat.le_refl _)])
      have HTP := Lib.hid (show T = P by rw [HT.out, HLE.out]; exact HPS.out.symm)
      have HW4 := Lib.hid (HW3.out.below HBr.out)
      have HI4 := Lib.hid (row_below HI3.out HBr.out)
      have HB4 := Lib.hid (HB3.out.trans (HBr.out.mono HB3.out.size))
      clear HT HBr HW3 HI3 HB3 q0 q1 r0 r1 lt3 b6 HN3 HLE
      generalize wr = W4 at *
      have b6 := row_cell HI4.out 6 rfl
      go_wp2_with fail
      go_loopg [56, 7] n (fun gn i v wr => ∃ j S : Nat, j ≤ n ∧ gn = n - j ∧ i = .int .i64 j ∧ v = .int .i64 S ∧ S ≤ 1000000 ∧ Hid (S = P + lensL ((F.map (·.data)).take j)) ∧ Hid (WrS wr g (TB ++ headsB P ((ks.zip (F.map (·.data))).take j)) (TO || headsO P ((ks.zip (F.map (·.data))).take j))) ∧ Hid (Keep1 g W4 wr))
      case atStart => exact ⟨0, T, by omega, by omega, by go_num, rfl, hT, Lib.hid (by rw [HTP.out]; rfl), Lib.hid (by simpa [headsB, headsO] using HW4.out), Lib.hid (Keep1.refl _ _)⟩
      case round =>
        obtain ⟨j, S, hj, rfl, rfl, rfl, hS, HS, HW, HK⟩ := hrel
        by_cases hlt : j < n
        · have HBw := Lib.hid (HK.out.below HB4.out (Nat.le_refl _) (by omega))
          obtain ⟨b, off, k, rfl, hbl, hk, q⟩ := (HX.out.k.below HBw.out).get1 j hlt
          obtain ⟨b2, off2, f, rfl, hb2l, hfj, cf⟩ := Sl.get1 HF.out j hlt
          replace hk : ks[j]? = some k := hk
          have hkr := HX.out.kr k (List.mem_of_getElem? hk)
          have hkq := HRR.out.k k (List.mem_of_getElem? hk)
          have hff := HFF.out f (List.mem_of_getElem? hfj)
          have hdj : (F.map (·.data))[j]? = some f.data := by rw [List.getElem?_map, hfj]; rfl
          have hz : (ks.zip (F.map (·.data)))[j]? = some (k, f.data) := by rw [List.getElem?_zip_eq_some]; exact ⟨hk, hdj⟩
          have hzm : ((ks.zip (F.map (·.data))).take j).map (·.2) = (F.map (·.data)).take j := by
            rw [List.map_take, List.map_snd_zip]
            rw [List.length_map, HLn.out, HLK.out]
            exact Nat.le_refl _
          have hzk : ((ks.zip (F.map (·.data))).take j).map (·.1) = ks.take j := by
            rw [List.map_take, List.map_fst_zip]
            rw [List.length_map, HLn.out, HLK.out]
            exact Nat.le_refl _
          have HHT := Lib.hid (show TB ++ headsB P ((ks.zip (F.map (·.data))).take (j + 1)) = TB ++ headsB P ((ks.zip (F.map (·.data))).take j) ++ codeB S k f.data by rw [take_snocX hz, headsB_snoc, hzm, HS.out, List.append_assoc]; norm_cast)
          have HOT := Lib.hid (show (TO || headsO P ((ks.zip (F.map (·.data))).take (j + 1))) = (TO || headsO P ((ks.zip (F.map (·.data))).take j) || codeO S k f.data) by rw [take_snocX hz, headsO_snoc, hzm, HS.out, Bool.or_assoc]; norm_cast)
          have hdl : f.data.length = f.dn := hff.1.1
          have HDT := Lib.hid (show lensL ((F.map (·.data)).take (j + 1)) = lensL ((F.map (·.data)).take j) + f.dn by rw [take_snocX hdj, lensL_snoc, hdl])
          have hle := lensL_take (F.map (·.data)) (j + 1)
          have hle2 := sizeK_take ks (j + 1)
          have hlj := hkr.t.1
          have htl := HTL.out
          have hS2 : S + f.dn ≤ 1000000 := by rw [HS.out]; rw [HDT.out] at hle; have := HPS.out; omega
          rw [take_snocX hk, sizeK_snoc, hlj] at hle2
          have HEL := Lib.hid (show (TB ++ headsB P ((ks.zip (F.map (·.data))).take j)).length + (14 + 8 * k.tn) ≤ 1000000 by
            rw [List.length_append, headsB_len, hzk]; omega)
          obtain ⟨fa, fn, fc, fd⟩ := f
          obtain ⟨x0, x1, x2, x3, x4, ta, tn, tc, ts⟩ := k
          obtain ⟨_, _, r2, r3, r4, r5⟩ := hkq
          simp only at hdl hS2 HEL HHT HOT HDT r2 r3 r4 r5
          unfold BV.enc at cf
          simp only at cf
          have hb2B : b2 < W4.heap.size := Nat.lt_of_lt_of_le hb2l HB4.out.size
          have hb2g : b2 ≠ g := by omega
          have HTS := Lib.hid (hkr.t.below HB4.out)
          have HTO := Lib.hid (Off1.oldS hkr.t (show w.heap.size ≤ g by omega))
          have HTN := Lib.hid (show (ts.flatMap TW.bytes).length = 8 * ts.length by have := trapsB_len ts; rw [rowB_len] at this; omega)
          have HTN2 := Lib.hid hlj
          have cfw : wr.cell? ⟨b2, off2 + j, none⟩ = some (.slice fa fn fc) := by rw [HBw.out.cell hb2l]; exact cf
          have p0 := q 0 (by omega)
          have p1 := q 1 (by omega)
          have p2 := q 2 (by omega)
          have p3 := q 3 (by omega)
          have p4 := q 4 (by omega)
          have p5 := q 5 (by omega)
          simp only [KW.vals, List.getElem?_cons_zero, List.getElem?_cons_succ, Nat.add_zero] at p0 p1 p2 p3 p4 p5
          have hgwr := HW.out.lt
          clear q hk hkr hle hle2 htl b6 hlj hff hfj hdj hz hzm hzk cf HTP
          generalize TB ++ headsB P ((ks.zip (F.map (·.data))).take j) = e at *
          generalize (TO || headsO P ((ks.zip (F.map (·.data))).take j)) = od at *
          go_upto_region 14 with fail
          have hal : Below wr.heap.size wr (wr.alloc (.cells #[.int .i64 x0, .int .i64 x1, .int .i64 x2, .int .i64 x3, .int .i64 x4, .slice ta tn tc] 62)) := (Below.refl _ _).alloc (Nat.le_refl _) _
          have HWA := Lib.hid (HW.out.below hal)
          have HKA := Lib.hid (HK.out.trans (Keep1.of hal))
          have HRA := Lib.hid (heap_alloc_last wr (.cells #[.int .i64 x0, .int .i64 x1, .int .i64 x2, .int .i64 x3, .int .i64 x4, .slice ta tn tc] 62))
          have hbg : wr.heap.size ≠ g := by omega
          have hb2A : b2 < (wr.alloc (.cells #[.int .i64 x0, .int .i64 x1, .int .i64 x2, .int .i64 x3, .int .i64 x4, .slice ta tn tc] 62)).heap.size := by have := HK.out.size; simp; omega
          have cfA : (wr.alloc (.cells #[.int .i64 x0, .int .i64 x1, .int .i64 x2, .int .i64 x3, .int .i64 x4, .slice ta tn tc] 62)).cell? ⟨b2, off2 + j, none⟩ = some (.slice fa fn fc) := by rw [hal.cell (show b2 < wr.heap.size by have := HK.out.size; omega)]; exact cfw
          clear hal HW HK HBw p0 p1 p2 p3 p4 p5 cfw hgwr
          generalize wr.alloc (.cells #[.int .i64 x0, .int .i64 x1, .int .i64 x2, .int .i64 x3, .int .i64 x4, .slice ta tn tc] 62) = WA at *
          generalize wr.heap.size = gb at *
          have c0 := row_cell HRA.out 0 rfl
          have c1 := row_cell HRA.out 1 rfl
          have c2 := row_cell HRA.out 2 rfl
          have c3 := row_cell HRA.out 3 rfl
          have c4 := row_cell HRA.out 4 rfl
          have c5 := row_cell HRA.out 5 rfl
          by_cases hd0 : fn = 0
          · subst hd0
            have HHE := Lib.hid (show hereI S fd = 0 by unfold hereI; rw [if_pos hdl])
            have HDL2 := Lib.hid (show (fd.length : Int) = 0 by rw [hdl]; rfl)
            clear hdl
            have HP5 := Lib.hid (wput_one WA g _ _ HWA.out 4 (by omega) 0 (by unfold IntR; omega) (by have := HEL.out; omega))
            go_wp2_with fail
            refine HP5.out.mono ?_
            rintro e' W5 ⟨rfl, hw5, hk5⟩
            have HW5 := Lib.hid hw5
            have HK5 := Lib.hid (HKA.out.trans hk5)
            have HR5 := Lib.hid (hk5.blk HRA.out hbg)
            have HC5 := Lib.hid (show W5.cell? ⟨b2, off2 + j, none⟩ = some (.slice fa 0 fc) by rw [hk5.cell hb2A hb2g]; exact cfA)
            clear hw5 hk5 HP5 HWA HKA HRA cfA c0 c1 c2 c3 c4 c5
            have hb25 : b2 < W5.heap.size := Nat.lt_of_lt_of_le hb2B HK5.out.size
            have hgb5 : gb < W5.heap.size := row_lt HR5.out
            have hSw : KS g W5 W5.drew := (Keep1.refl g W5).drew
            have lc := fun z (h : KS g W5 z) => (Keep1.cell h hb25 hb2g).trans HC5.out
            have l2 := fun z (h : KS g W5 z) => row_cell (Keep1.blk h HR5.out hbg) 2 rfl
            have l3 := fun z (h : KS g W5 z) => row_cell (Keep1.blk h HR5.out hbg) 3 rfl
            have l4 := fun z (h : KS g W5 z) => row_cell (Keep1.blk h HR5.out hbg) 4 rfl
            go_upto_region 18 with fail
            refine wp_region_lexS (KS g W5) (.of [(0, true), (1, true), (2, true), (3, true), (4, true), (5, true), (6, true), (7, true), (8, true), (9, true), (10, true), (11, true), (12, false), (13, false)] (.stir [])) (by kernel_rfl) (by kernel_rfl) (fun c a d v w h => by cases d <;> exact h) ?_
            iterate 12
              refine lexS_step (fun K hK => ?_)
              simp only [lexOp, List.getElem?_toArray, List.getElem?_cons_succ, List.getElem?_cons_zero]
              rw [if_pos (by rfl)]
              apply Exists.intro
              refine ⟨fun w' hS' => ?_, hSw, ?_⟩
              · first | (go_simp <;> with_reducible rfl) | (go_simp; go_bits; with_reducible rfl)
              go_simp
              try go_bits
              refine hK _ _ ?_
              clear hK K
            refine lexS_step (fun K hK => ?_)
            simp only [lexOp, List.getElem?_toArray, List.getElem?_cons_succ, List.getElem?_cons_zero]
            rw [if_pos (by rfl)]
            go_step
            have hal : Below W5.heap.size W5 (W5.drew.alloc (.cells #[.int .i64 0, .int .i64 x2, .int .i64 x3, .int .i64 x4] 3)) := (Below.refl _ _).drew.alloc (by simp) _
            replace hSw : KS g W5 (W5.drew.alloc (.cells #[.int .i64 0, .int .i64 x2, .int .i64 x3, .int .i64 x4] 3)) := Keep1.of hal
            refine ⟨hSw, hK _ _ ?_⟩
            clear hK K hal
            refine lexS_step (fun K hK => ?_)
            simp only [lexOp, List.getElem?_toArray, List.getElem?_cons_succ, List.getElem?_cons_zero]
            rw [if_pos (by rfl)]
            go_step
            refine (wput_lit W5.drew g _ _ (HW5.out.below (Below.refl _ _).drew) 2 (by omega) [(0 : Int), x2, x3, x4] (r_four (by unfold IntR; omega) r2 r3 r4) (by have := HEL.out; rw [List.length_append, putB_length]; show _ + 4 * 4 ≤ 1048576; omega) #[.int .i64 0, .int .i64 x2, .int .i64 x3, .int .i64 x4] rfl 4 rfl).mono ?_
            rintro e' W6 ⟨rfl, hw6, hk6⟩
            have HK6 := Lib.hid (show Keep1 g W5 W6 from (Keep1.refl g W5).drew.trans hk6)
            have HW6 := Lib.hid hw6
            refine ⟨HK6.out, ?_⟩
            go_simp
            refine hK _ _ ?_
            clear hK K hw6 hk6 hSw lc l2 l3 l4
            refine lexS_stir (fun y' => y' = W6) (fun y' hy => hy ▸ HK6.out) rfl ?_
            refine stir_nil (fun y' hy => ?_)
            obtain rfl : W6 = y' := hy.symm
            clear hy
            have HR6 := Lib.hid (HK6.out.blk HR5.out hbg)
            have HC6 := Lib.hid (show W6.cell? ⟨b2, off2 + j, none⟩ = some (.slice fa 0 fc) by rw [HK6.out.cell hb25 hb2g]; exact HC5.out)
            have HKK6 := Lib.hid (HK5.out.trans HK6.out)
            have HM := Lib.hid (wmany_trap W6 g _ _ HW6.out ta tn tc ts (HTS.out.keep1 HKK6.out HTO.out) HTO.out (by have := HEL.out; omega) TW.bytes TW.odd (by have := HEL.out; have h8 := HTN.out; have := HTN2.out; rw [List.length_append, List.length_append, putB_length, putsB_len]; show _ + 4 + 4 * 2 + 2 + _ + 8 ≤ 1048576; omega) (fun t ht W bs' od' hW hk hl => wtrap_any W g bs' od' hW t (r5 t ht) (by rw [TW.bytes_len] at hl; omega)))
            clear HW6 HR5 HC5 HK5 HK6
            have d5 := row_cell HR6.out 5 rfl
            go_wp2_with fail
            refine HM.out.mono ?_
            rintro e' W7 ⟨rfl, hw7, hk7⟩
            have HK7 := Lib.hid (HKK6.out.trans hk7)
            have HC7 := (show W7.cell? ⟨b2, off2 + j, none⟩ = some (.slice fa 0 fc) by rw [hk7.cell (Nat.lt_of_lt_of_le hb2B HKK6.out.size) hb2g]; exact HC6.out)
            have HW7 := Lib.hid hw7
            clear hw7 hk7 HM HR6 HC6 HKK6 d5
            go_wp2_with fail
            go_roundg (n - (j + 1))
            case measure => omega
            case rel =>
              refine ⟨j + 1, S + 0, by omega, rfl, by go_num, by go_num, hS2, Lib.hid (by rw [HDT.out, HS.out]; omega), ?_, HK7⟩
              refine Lib.hid ?_
              rw [HHT.out, HOT.out]
              simpa only [HHE.out, HDL2.out, codeB, codeO, rowB, rowO, List.append_assoc, Bool.or_assoc] using HW7.out
          · have ez : ((fn : Int) == 0) = false := by simp; omega
            have HHE := Lib.hid (show hereI S fd = S by unfold hereI; rw [if_neg (by omega)])
            have HDL2 := Lib.hid (show (fd.length : Int) = (fn : Int) by rw [hdl])
            clear hdl
            replace hd0 := Lib.hid hd0
            have HP5 := Lib.hid (wput_one WA g _ _ HWA.out 4 (by omega) S (by unfold IntR; omega) (by have := HEL.out; omega))
            go_wp2_with fail
            refine HP5.out.mono ?_
            rintro e' W5 ⟨rfl, hw5, hk5⟩
            have HW5 := Lib.hid hw5
            have HK5 := Lib.hid (HKA.out.trans hk5)
            have HR5 := Lib.hid (hk5.blk HRA.out hbg)
            have HC5 := Lib.hid (show W5.cell? ⟨b2, off2 + j, none⟩ = some (.slice fa fn fc) by rw [hk5.cell hb2A hb2g]; exact cfA)
            clear hw5 hk5 HP5 HWA HKA HRA cfA c0 c1 c2 c3 c4 c5
            have hb25 : b2 < W5.heap.size := Nat.lt_of_lt_of_le hb2B HK5.out.size
            have hgb5 : gb < W5.heap.size := row_lt HR5.out
            have hSw : KS g W5 W5.drew := (Keep1.refl g W5).drew
            have lc := fun z (h : KS g W5 z) => (Keep1.cell h hb25 hb2g).trans HC5.out
            have l2 := fun z (h : KS g W5 z) => row_cell (Keep1.blk h HR5.out hbg) 2 rfl
            have l3 := fun z (h : KS g W5 z) => row_cell (Keep1.blk h HR5.out hbg) 3 rfl
            have l4 := fun z (h : KS g W5 z) => row_cell (Keep1.blk h HR5.out hbg) 4 rfl
            go_upto_region 18 with fail
            refine wp_region_lexS (KS g W5) (.of [(0, true), (1, true), (2, true), (3, true), (4, true), (5, true), (6, true), (7, true), (8, true), (9, true), (10, true), (11, true), (12, false), (13, false)] (.stir [])) (by kernel_rfl) (by kernel_rfl) (fun c a d v w h => by cases d <;> exact h) ?_
            iterate 12
              refine lexS_step (fun K hK => ?_)
              simp only [lexOp, List.getElem?_toArray, List.getElem?_cons_succ, List.getElem?_cons_zero]
              rw [if_pos (by rfl)]
              apply Exists.intro
              refine ⟨fun w' hS' => ?_, hSw, ?_⟩
              · first | (go_simp <;> with_reducible rfl) | (go_simp; go_bits; with_reducible rfl)
              go_simp
              try go_bits
              refine hK _ _ ?_
              clear hK K
            refine lexS_step (fun K hK => ?_)
            simp only [lexOp, List.getElem?_toArray, List.getElem?_cons_succ, List.getElem?_cons_zero]
            rw [if_pos (by rfl)]
            go_step
            have hal : Below W5.heap.size W5 (W5.drew.alloc (.cells #[.int .i64 fn, .int .i64 x2, .int .i64 x3, .int .i64 x4] 3)) := (Below.refl _ _).drew.alloc (by simp) _
            replace hSw : KS g W5 (W5.drew.alloc (.cells #[.int .i64 fn, .int .i64 x2, .int .i64 x3, .int .i64 x4] 3)) := Keep1.of hal
            refine ⟨hSw, hK _ _ ?_⟩
            clear hK K hal
            refine lexS_step (fun K hK => ?_)
            simp only [lexOp, List.getElem?_toArray, List.getElem?_cons_succ, List.getElem?_cons_zero]
            rw [if_pos (by rfl)]
            go_step
            refine (wput_lit W5.drew g _ _ (HW5.out.below (Below.refl _ _).drew) 2 (by omega) [(fn : Int), x2, x3, x4] (r_four (by unfold IntR; omega) r2 r3 r4) (by have := HEL.out; rw [List.length_append, putB_length]; show _ + 4 * 4 ≤ 1048576; omega) #[.int .i64 fn, .int .i64 x2, .int .i64 x3, .int .i64 x4] rfl 4 rfl).mono ?_
            rintro e' W6 ⟨rfl, hw6, hk6⟩
            have HK6 := Lib.hid (show Keep1 g W5 W6 from (Keep1.refl g W5).drew.trans hk6)
            have HW6 := Lib.hid hw6
            refine ⟨HK6.out, ?_⟩
            go_simp
            refine hK _ _ ?_
            clear hK K hw6 hk6 hSw lc l2 l3 l4
            refine lexS_stir (fun y' => y' = W6) (fun y' hy => hy ▸ HK6.out) rfl ?_
            refine stir_nil (fun y' hy => ?_)
            obtain rfl : W6 = y' := hy.symm
            clear hy
            have HR6 := Lib.hid (HK6.out.blk HR5.out hbg)
            have HC6 := Lib.hid (show W6.cell? ⟨b2, off2 + j, none⟩ = some (.slice fa fn fc) by rw [HK6.out.cell hb25 hb2g]; exact HC5.out)
            have HKK6 := Lib.hid (HK5.out.trans HK6.out)
            have HM := Lib.hid (wmany_trap W6 g _ _ HW6.out ta tn tc ts (HTS.out.keep1 HKK6.out HTO.out) HTO.out (by have := HEL.out; omega) TW.bytes TW.odd (by have := HEL.out; have h8 := HTN.out; have := HTN2.out; rw [List.length_append, List.length_append, putB_length, putsB_len]; show _ + 4 + 4 * 2 + 2 + _ + 8 ≤ 1048576; omega) (fun t ht W bs' od' hW hk hl => wtrap_any W g bs' od' hW t (r5 t ht) (by rw [TW.bytes_len] at hl; omega)))
            clear HW6 HR5 HC5 HK5 HK6
            have d5 := row_cell HR6.out 5 rfl
            go_wp2_with fail
            refine HM.out.mono ?_
            rintro e' W7 ⟨rfl, hw7, hk7⟩
            have HK7 := Lib.hid (HKK6.out.trans hk7)
            have HC7 := (show W7.cell? ⟨b2, off2 + j, none⟩ = some (.slice fa fn fc) by rw [hk7.cell (Nat.lt_of_lt_of_le hb2B HKK6.out.size) hb2g]; exact HC6.out)
            have HW7 := Lib.hid hw7
            clear hw7 hk7 HM HR6 HC6 HKK6 d5
            go_wp2_with fail
            go_roundg (n - (j + 1))
            case measure => omega
            case rel =>
              refine ⟨j + 1, S + fn, by omega, rfl, by go_num, by go_num, hS2, Lib.hid (by rw [HDT.out, HS.out]; omega), ?_, HK7⟩
              refine Lib.hid ?_
              rw [HHT.out, HOT.out]
              simpa only [HHE.out, HDL2.out, codeB, codeO, rowB, rowO, List.append_assoc, Bool.or_assoc] using HW7.out
        · obtain rfl : n = j := by omega
          have HZ1 := Lib.hid (show (ks.zip (F.map (·.data))).take n = ks.zip (F.map (·.data)) by rw [List.take_of_length_le (by rw [List.length_zip, HLK.out]; omega)])
          rw [HZ1.out] at HW
          have HW5 := Lib.hid HW.out
          have HB5 := Lib.hid (HK.out.below HB4.out (Nat.le_refl _) (by omega))
          clear HW HK HS HZ1 hS b6 HW4 HI4 HB4 HTP
          generalize wr = W5 at *
          have HL5 := Lib.hid (show (TB ++ headsB P (ks.zip (F.map (·.data)))).length + lensL (F.map (·.data)) ≤ 1000000 by
            have h1 := HDL.out
            have h2 := HTL.out
            have h3 := HPS.out
            rw [List.length_append, flatten_len] at h1
            omega)
          generalize TB ++ headsB P (ks.zip (F.map (·.data))) = e at *
          generalize (TO || headsO P (ks.zip (F.map (·.data)))) = od at *
          go_wp2_with fail
          go_loopg [102] n (fun gn i wr => ∃ j : Nat, j ≤ n ∧ gn = n - j ∧ i = .int .i64 j ∧ Hid (WrS wr g (e ++ ((F.map (·.data)).take j).flatten) od) ∧ Hid (Below w.heap.size w wr))
          case atStart => exact ⟨0, by omega, by omega, by go_num, Lib.hid (by simpa using HW5.out), HB5⟩
          case round =>
            obtain ⟨j, hj, rfl, rfl, HW, HB⟩ := hrel
            by_cases hlt : j < n
            · obtain ⟨b2, off2, f, rfl, hb2l, hfj, cf⟩ := Sl.get1 (HF.out.below HB.out) j hlt
              have hff := HFF.out f (List.mem_of_getElem? hfj)
              have hdj : (F.map (·.data))[j]? = some f.data := by rw [List.getElem?_map, hfj]; rfl
              have HFT := Lib.hid (show e ++ ((F.map (·.data)).take (j + 1)).flatten = e ++ ((F.map (·.data)).take j).flatten ++ f.data by rw [take_snocX hdj, List.flatten_append, List.append_assoc]; simp)
              have hle := lensL_take (F.map (·.data)) (j + 1)
              have hlf : lensL ((F.map (·.data)).take (j + 1)) = lensL ((F.map (·.data)).take j) + f.data.length := by rw [take_snocX hdj, lensL_snoc]
              have hdl : f.data.length = f.dn := hff.1.1
              have HEL := Lib.hid (show (e ++ ((F.map (·.data)).take j).flatten).length + f.dn ≤ 1000000 by rw [List.length_append, flatten_len]; have := HL5.out; omega)
              obtain ⟨fa, fn, fc, fd⟩ := f
              simp only at hdl HEL HFT hff
              unfold BV.enc at cf
              simp only at cf
              have HSD := Lib.hid (hff.1.below HB.out)
              clear hfj hdj hle hlf hff
              generalize e ++ ((F.map (·.data)).take j).flatten = ej at *
              obtain ⟨a5, n5, c5, hk5, hs5, hc5, ho5, hw5⟩ := HW.out
              have hn5 : n5 + fn ≤ 1000000 := by have := HEL.out; rw [hs5.1] at this; exact this
              have HK5 := Lib.hid hk5
              have HO5 := Lib.hid hw5
              have hlt5 := hk5.box.lt
              clear hk5 hs5 hc5 ho5 hw5 HW hdl
              obtain ⟨q0, q1, r0, r1, lt5⟩ := HK5.out.box
              go_wp2_with (at_builtin; refine wpList_app1 oneN rfl _ _ _ rfl (g + 1) _ n5 _ rfl HO5.out _ fn (fd.map encB) rfl (HSD.out.src encB_cell Try.underlying35 fc) (by omega) (by unfold maxLen; omega) (by omega) ?_; intro v6 W6 hown6 hg6 hb6; rw [← List.map_append] at hown6; have hq6 := KeptT.app0 HO5.out hg6; have HK6 := Lib.hid (show Blk2 W6 g (.slice a5 n5 c5) (.bool od) 65 from hq6.2 _ _ _ _ HK5.out (by decide)); obtain ⟨a6, k6, rfl, hs6, hc6⟩ := Sl.ofOwn hown6; have HS6 := Lib.hid hs6; have HB6 := Lib.hid (HB.out.trans (hb6.mono (by omega))); have HO6 := Lib.hid hown6; clear q0 q1 r0 r1 lt5 hown6 hg6 hq6 hb6 hs6; obtain ⟨q0, q1, r0, r1, lt5⟩ := HK6.out.box)
              go_roundg (n - (j + 1))
              case measure => omega
              case rel =>
                refine ⟨j + 1, by omega, rfl, by go_num, Lib.hid ?_, Lib.hid (HB6.out.setCell (by show w.heap.size ≤ g; omega) _)⟩
                rw [HFT.out]
                exact ⟨a6, _, k6, HK6.out.set0, HS6.out.keep1 ((Keep1.refl g W6).set 0 _) (Off1.own HO6.out (by omega)), hc6, Off1.own HO6.out (by omega), own_keep1 HO6.out ((Keep1.refl g W6).set 0 _) (by omega)⟩
            · obtain rfl : n = j := by omega
              have HZ1 := Lib.hid (show (F.map (·.data)).take n = F.map (·.data) by rw [List.take_of_length_le (by rw [List.length_map, HLn.out]; exact Nat.le_refl _)])
              rw [HZ1.out] at HW
              generalize e ++ (F.map (·.data)).flatten = t at *
              obtain ⟨a5, n5, c5, hk5, hs5, hc5, ho5, hw5⟩ := HW.out
              have HK5 := Lib.hid hk5
              have HS5 := Lib.hid hs5
              have HLT := Lib.hid hs5.1
              rw [hs5.1] at HQ0 HDL
              have hn5 : n5 ≤ 1000000 := by have := HDL.out; have := HPS.out; have := HTL.out; omega
              obtain ⟨q0, q1, r0, r1, lt5⟩ := hk5.box
              clear hk5 hs5 ho5 hw5 HW HDL
              cases od with
              | true =>
                have HQ := Lib.hid (show R = (8, []) by rw [HQ0.out]; rfl)
                clear HQ0
                go_wp2_with fail
                go_ret2
                exact BytesRet.err HQ.out HB.out
              | false =>
                by_cases h9 : 262144 < n5
                · have HQ := Lib.hid (show R = (9, []) by rw [HQ0.out, if_neg (by decide), if_pos h9])
                  have ed : decide ((262144 : Int) < n5) = true := by simp; omega
                  clear HQ0
                  go_wp2_with fail
                  go_ret2
                  exact BytesRet.err HQ.out HB.out
                · have HQ := Lib.hid (show R = (0, t) by rw [HQ0.out, if_neg (by decide), if_neg h9])
                  have ed : decide ((262144 : Int) < n5) = false := by simp; omega
                  clear HQ0
                  go_wp2_with fail
                  go_ret2
                  exact ⟨a5, n5, c5, by rw [HQ.out]; rfl, by rw [HQ.out]; exact HS5.out, hc5, HB.out⟩
end Go.Proofs.Ytbcldlbmbdfejaa
/- image: reading, in plain Lean. No condition. -/
namespace Go.Proofs.Ytbcldlbmbdfejaa
open Go.ChangeShapes Go.WideShapes Go.ChangeAt Go.RowKit
/-- Where a reader stands, and what is wrong. -/
abbrev St : Type := Nat × Int
abbrev RM (α : Type) : Type := St → α × St
def bindR {α β : Type} (f : RM α) (g : α → RM β) : RM β := fun s => g (f s).1 (f s).2
def pureR {α : Type} (a : α) : RM α := fun s => (a, s)
def getS (bs : List UInt8) (n : Nat) : RM Int := fun s => if s.2 ≠ 0 then (0, s) else ((getR bs s.1 n).1, (s.1 + n, (getR bs s.1 n).2))
def lessS (bs : List UInt8) : RM Int := fun s => ((getS bs 2 s).1 - 1, (getS bs 2 s).2)
/-- What stands at a text's place, its length read. -/
def textT (bs : List UInt8) (v : Int) : RM (List UInt8) := fun s =>
  if s.2 ≠ 0 then ([], s) else if (bs.length : Int) - s.1 < v then ([], (s.1, 6)) else ((bs.drop s.1).take v.toNat, (s.1 + v.toNat, 0))
def textS (bs : List UInt8) (n : Nat) : RM (List UInt8) := bindR (getS bs n) fun v => textT bs v
def rowS {α : Type} (one : RM α) : Nat → RM (List α)
  | 0 => pureR []
  | n + 1 => fun s => if s.2 ≠ 0 then ([], s) else ((one s).1 :: (rowS one n (one s).2).1, (rowS one n (one s).2).2)
/-- A row: how many, then each. -/
def manyS {α : Type} (bs : List UInt8) (one : RM α) : RM (List α) := bindR (getS bs 2) fun n => rowS one n.toNat
structure CP where
  name : List UInt8
  sup : Int
  cells : Int
  refs : List Int
  table : List Int
def CW.p (c : CW) : CP := ⟨c.name, c.sup, c.cells, c.refs, c.table⟩
structure KP where
  pos : Int
  len : Int
  stack : Int
  locals : Int
  args : Int
  traps : List TW
def KW.p (k : KW) : KP := ⟨k.pos, k.len, k.stack, k.locals, k.args, k.traps⟩
structure XP where
  cs : List CP
  ms : List MW
  st : Int
  ss : List Int
  ys : List (List UInt8)
  xs : List (List UInt8)
  ks : List KP
  main : Int
def XW.p (x : XW) : XP := ⟨x.cs.map CW.p, x.ms, x.st, x.ss, x.ys, x.xs, x.ks.map KW.p, x.main⟩
def classS (bs : List UInt8) : RM CP := bindR (textS bs 1) fun nm => bindR (lessS bs) fun sup => bindR (getS bs 2) fun cells => bindR (manyS bs (getS bs 2)) fun refs => bindR (manyS bs (getS bs 2)) fun table => pureR ⟨nm, sup, cells, refs, table⟩
def statS (v : Int) : RM Unit := fun s => if 1 < v ∧ s.2 = 0 then ((), (s.1, 8)) else ((), s)
def methodS (bs : List UInt8) : RM MW := bindR (getS bs 2) fun cls => bindR (textS bs 1) fun nm => bindR (textS bs 1) fun ds => bindR (getS bs 1) fun v => bindR (statS v) fun _ => bindR (lessS bs) fun slot => bindR (lessS bs) fun nat => pureR ⟨cls, nm, ds, decide (v = 1), slot, nat⟩
def trapS (bs : List UInt8) : RM TW := bindR (getS bs 2) fun a => bindR (getS bs 2) fun b => bindR (getS bs 2) fun c => bindR (lessS bs) fun d => pureR ⟨a, b, c, d⟩
def codeS (bs : List UInt8) : RM KP := bindR (getS bs 4) fun a => bindR (getS bs 2) fun b => bindR (getS bs 2) fun c => bindR (getS bs 2) fun d => bindR (getS bs 2) fun e => bindR (manyS bs (trapS bs)) fun t => pureR ⟨a, b, c, d, e, t⟩
def imageS (bs : List UInt8) : RM XP := bindR (manyS bs (classS bs)) fun cs => bindR (manyS bs (methodS bs)) fun ms => bindR (getS bs 2) fun st => bindR (manyS bs (getS bs 2)) fun ss =>
  bindR (manyS bs (textS bs 1)) fun ys => bindR (manyS bs (textS bs 2)) fun xs => bindR (getS bs 2) fun main => bindR (rowS (codeS bs) ms.length) fun ks => pureR ⟨cs, ms, st, ss, ys, xs, ks, main⟩
/-- Do codes stand one behind the other? -/
def laidP : List KP → Int → Int → Bool
  | [], pos, fin => decide (pos = fin)
  | k :: r, pos, fin => if (k.len = 0 ∧ k.pos ≠ 0) ∨ (0 < k.len ∧ k.pos ≠ pos) then false else laidP r (pos + k.len) fin
def xp0 : XP := ⟨[], [], 0, [], [], [], [], 0⟩
def parseR (bs : List UInt8) : XP × Int :=
  if 262144 < bs.length then (xp0, 9)
  else if bs.length < 4 ∨ bs.take 4 ≠ magicB then (xp0, 8)
  else
    if (imageS bs (4, 0)).2.2 ≠ 0 then (xp0, (imageS bs (4, 0)).2.2)
    else if laidP (imageS bs (4, 0)).1.ks (imageS bs (4, 0)).2.1 bs.length = false then (xp0, 8)
    else ((imageS bs (4, 0)).1, 0)
/-- A state that may be, over so many bytes. -/
def StOk (n : Nat) (s : St) : Prop := (s.2 = 0 → s.1 ≤ n) ∧ s.1 ≤ n + 8
theorem getR_val (bs : List UInt8) (p n : Nat) (hn : n ≤ 4) : 0 ≤ (getR bs p n).1 ∧ (getR bs p n).1 < 4294967296 := by
  have h0 : (0 : Int) ≤ 0 ∧ (0 : Int) < 4294967296 := by omega
  unfold getR
  split
  · exact h0
  · split
    · exact h0
    · have h1 := getN_lt ((bs.drop ((p : Int)).toNat).take ((n : Int)).toNat)
      have h2 : ((bs.drop ((p : Int)).toNat).take ((n : Int)).toNat).length ≤ 4 := by rw [List.length_take]; omega
      have h3 : 256 ^ ((bs.drop ((p : Int)).toNat).take ((n : Int)).toNat).length ≤ 256 ^ 4 := Nat.pow_le_pow_right (by omega) h2
      have h4 : (256 ^ 4 : Nat) = 4294967296 := by decide
      constructor
      · show (0 : Int) ≤ ((getN _ : Nat) : Int)
        omega
      · show ((getN _ : Nat) : Int) < 4294967296
        omega
theorem getR_two (bs : List UInt8) (p n : Nat) (hn : n ≤ 2) : 0 ≤ (getR bs p n).1 ∧ (getR bs p n).1 < 65536 := by
  have h0 : (0 : Int) ≤ 0 ∧ (0 : Int) < 65536 := by omega
  unfold getR
  split
  · exact h0
  · split
    · exact h0
    · have h1 := getN_lt ((bs.drop ((p : Int)).toNat).take ((n : Int)).toNat)
      have h2 : ((bs.drop ((p : Int)).toNat).take ((n : Int)).toNat).length ≤ 2 := by rw [List.length_take]; omega
      have h3 : 256 ^ ((bs.drop ((p : Int)).toNat).take ((n : Int)).toNat).length ≤ 256 ^ 2 := Nat.pow_le_pow_right (by omega) h2
      have h4 : (256 ^ 2 : Nat) = 65536 := by decide
      constructor
      · show (0 : Int) ≤ ((getN _ : Nat) : Int)
        omega
      · show ((getN _ : Nat) : Int) < 65536
        omega
theorem getR_err (bs : List UInt8) (p n : Nat) (h1 : 1 ≤ n) (hn : n ≤ 8) : ((getR bs p n).2 = 0 ∧ p + n ≤ bs.length) ∨ ((getR bs p n).2 = 6 ∧ bs.length < p + n) := by
  unfold getR
  rw [if_neg (by omega)]
  split
  · exact .inr ⟨rfl, by omega⟩
  · exact .inl ⟨rfl, by omega⟩
theorem getS_ok (bs : List UInt8) (n : Nat) (h1 : 1 ≤ n) (hn : n ≤ 8) (s : St) (h : StOk bs.length s) : StOk bs.length (getS bs n s).2 := by
  unfold getS
  split
  · exact h
  · rename_i h0
    have h2 := h.1 (by omega)
    rcases getR_err bs s.1 n h1 hn with ⟨e, hp⟩ | ⟨e, hp⟩
    · exact ⟨fun _ => hp, by show s.1 + n ≤ _; omega⟩
    · exact ⟨fun h => by simp only [e] at h; omega, by show s.1 + n ≤ _; omega⟩
theorem getS_val (bs : List UInt8) (n : Nat) (hn : n ≤ 4) (s : St) : 0 ≤ (getS bs n s).1 ∧ (getS bs n s).1 < 4294967296 := by
  unfold getS
  split
  · exact ⟨by show (0 : Int) ≤ 0; omega, by show (0 : Int) < _; omega⟩
  · exact getR_val bs s.1 n hn
theorem getS_two (bs : List UInt8) (n : Nat) (hn : n ≤ 2) (s : St) : 0 ≤ (getS bs n s).1 ∧ (getS bs n s).1 < 65536 := by
  unfold getS
  split
  · exact ⟨by show (0 : Int) ≤ 0; omega, by show (0 : Int) < _; omega⟩
  · exact getR_two bs s.1 n hn
theorem textT_ok (bs : List UInt8) (v : Int) (hv : 0 ≤ v) (s : St) (h : StOk bs.length s) : StOk bs.length (textT bs v s).2 := by
  unfold textT
  split
  · exact h
  · rename_i h0
    have h2 := h.1 (by omega)
    split
    · exact ⟨fun h => by simp at h, h.2⟩
    · exact ⟨fun _ => by show s.1 + v.toNat ≤ _; omega, by show s.1 + v.toNat ≤ _; omega⟩
end Go.Proofs.Ytbcldlbmbdfejaa
