/- image: the reference's writer. No condition. -/
import Derived.Test.YtbcldlbmbdfejaaQ10ImageCuts
namespace Go.Proofs.Ytbcldlbmbdfejaa
open Go.ChangeShapes Go.WideShapes Go.ChangeAt Go.RowKit
/-- The reference's writer in block g; its row its call's own from block B on. -/
def RWr (B : Nat) (w : World) (g : Nat) (bs : List UInt8) (odd : Bool) : Prop :=
  ∃ a n cap, Blk2 w g (.slice a n cap) (.bool odd) 75 ∧ Sl encB w a n bs ∧ n ≤ cap ∧ Off1 a n g ∧ w.ownsRow B 5 1 (.slice a n cap) n (bs.map encB)
theorem RWr.below {B : Nat} {w w' : World} {g : Nat} {bs : List UInt8} {odd : Bool} (h : RWr B w g bs odd) (hb : Below w.heap.size w w') : RWr B w' g bs odd := by
  obtain ⟨a, n, cap, h1, h2, h3, h4, h5⟩ := h
  exact ⟨a, n, cap, h1.below hb, h2.below hb, h3, h4, own_below h5 hb⟩
theorem RWr.mono {B B' : Nat} {w : World} {g : Nat} {bs : List UInt8} {odd : Bool} (h : RWr B w g bs odd) (hB : B' ≤ B) : RWr B' w g bs odd := by
  obtain ⟨a, n, cap, h1, h2, h3, h4, h5⟩ := h
  exact ⟨a, n, cap, h1, h2, h3, h4, own_mono h5 hB⟩
theorem RWr.lt {B : Nat} {w : World} {g : Nat} {bs : List UInt8} {odd : Bool} (h : RWr B w g bs odd) : g < w.heap.size := by
  obtain ⟨a, n, cap, h1, _⟩ := h
  exact h1.box.lt
def RPut (B g : Nat) (bs : List UInt8) (odd : Bool) (w : World) (e : Ending) (w' : World) : Prop := e = .returned (.tuple #[]) ∧ RWr B w' g bs odd ∧ Keep1 g w w'
set_option maxRecDepth 100000 in
set_option maxHeartbeats 8000000 in
theorem rputO (B : Nat) (w : World) (g : Nat) (bs : List UInt8) (odd : Bool) (h : RWr B w g bs odd) (nb : Nat) (hnb : nb = 1 ∨ nb = 2 ∨ nb = 4) (v : Int) (hv : IntR v) (hlen : bs.length ≤ 1048576) :
    Calls Try.prog 64 #[.pointer (some ⟨g, 0, none⟩), .int .i64 v, .int .i64 nb] w (RPut w.heap.size g (bs ++ putB (u64V v) nb) (odd || !roomB v nb) w) := by
  have HGL := Lib.hid h.lt
  obtain ⟨a2, n2, c2, hk2, hs2, hc2, ho2, -⟩ := h
  have HK2 := Lib.hid hk2
  have HS2 := Lib.hid hs2
  have HO2 := Lib.hid ho2
  have hlen2 : n2 ≤ 1048576 := by rw [← hs2.1]; exact hlen
  have HFI := Lib.hid (fun w' => refFits_any w' v nb hv (by omega))
  have hnb4 : 1 ≤ nb ∧ nb ≤ 4 := by omega
  have hux := u64V_wrap v
  have HLX := Lib.hid (u64V_lt v)
  obtain ⟨fv, hfv⟩ : ∃ f, f = roomB v nb := ⟨_, rfl⟩
  rw [← hfv] at HFI ⊢
  generalize u64V v = uv at *
  clear hk2 hs2 ho2 hfv hnb
  obtain ⟨c0, c1, f0, f1, lt2⟩ := HK2.out.box
  go_enter Try.func64, Try.ntmps64
  cases odd with
  | true =>
    go_upto_region 1 with fail
    have HK3 := Lib.hid (HK2.out.set1 (v := .bool true))
    have HKK := Lib.hid ((Keep1.refl g w).set 1 (.bool true))
    have HS3 := Lib.hid (HS2.out.keep1 ((Keep1.refl g w).set 1 (.bool true)) HO2.out)
    clear HK2 HS2 c0 c1 f0 f1 lt2
    generalize w.setCell ⟨g, 1, none⟩ (.bool true) = W3 at *
    obtain ⟨c0, c1, f0, f1, lt3⟩ := HK3.out.box
    go_wp2_with fail
    refine (refPut_any W3 a2 n2 c2 bs uv nb HS3.out (by omega) HLX.out hnb4.1 (by omega)).mono ?_
    rintro e' W4 ⟨v4, m4, rfl, ho4, hb4⟩
    obtain ⟨a4, c4, rfl, hs4, hc4⟩ := Sl.ofOwn ho4
    have HS4 := Lib.hid hs4
    have HN4 := Lib.hid (own_mono ho4 HKK.out.size)
    have HO4 := Lib.hid (Off1.own ho4 lt3)
    have HK4 := Lib.hid (HK3.out.below hb4)
    have HKK4 := Lib.hid (HKK.out.trans (Keep1.of hb4))
    clear HK3 HKK HS3 ho4 hb4 hs4 c0 c1 f0 f1 lt3
    obtain ⟨c0, c1, f0, f1, lt3⟩ := HK4.out.box
    go_wp2_with fail
    go_end0
    exact ⟨rfl, ⟨a4, m4, c4, by simpa using HK4.out.set0, HS4.out.keep1 ((Keep1.refl g W4).set 0 _) HO4.out, hc4, HO4.out, own_keep1 HN4.out ((Keep1.refl g W4).set 0 _) HGL.out⟩, HKK4.out.set 0 _⟩
  | false =>
    go_wp2_with fail
    refine (HFI.out w).mono ?_
    rintro e' w' ⟨rfl, rfl⟩
    cases fv with
    | true =>
      go_upto_region 1 with fail
      have HK3 := Lib.hid (HK2.out.set1 (v := .bool false))
      have HKK := Lib.hid ((Keep1.refl g w).set 1 (.bool false))
      have HS3 := Lib.hid (HS2.out.keep1 ((Keep1.refl g w).set 1 (.bool false)) HO2.out)
      clear HK2 HS2 c0 c1 f0 f1 lt2
      generalize w.setCell ⟨g, 1, none⟩ (.bool false) = W3 at *
      obtain ⟨c0, c1, f0, f1, lt3⟩ := HK3.out.box
      go_wp2_with fail
      refine (refPut_any W3 a2 n2 c2 bs uv nb HS3.out (by omega) HLX.out hnb4.1 (by omega)).mono ?_
      rintro e' W4 ⟨v4, m4, rfl, ho4, hb4⟩
      obtain ⟨a4, c4, rfl, hs4, hc4⟩ := Sl.ofOwn ho4
      have HS4 := Lib.hid hs4
      have HN4 := Lib.hid (own_mono ho4 HKK.out.size)
      have HO4 := Lib.hid (Off1.own ho4 lt3)
      have HK4 := Lib.hid (HK3.out.below hb4)
      have HKK4 := Lib.hid (HKK.out.trans (Keep1.of hb4))
      clear HK3 HKK HS3 ho4 hb4 hs4 c0 c1 f0 f1 lt3
      obtain ⟨c0, c1, f0, f1, lt3⟩ := HK4.out.box
      go_wp2_with fail
      go_end0
      exact ⟨rfl, ⟨a4, m4, c4, by simpa using HK4.out.set0, HS4.out.keep1 ((Keep1.refl g W4).set 0 _) HO4.out, hc4, HO4.out, own_keep1 HN4.out ((Keep1.refl g W4).set 0 _) HGL.out⟩, HKK4.out.set 0 _⟩
    | false =>
      go_upto_region 1 with fail
      have HK3 := Lib.hid (HK2.out.set1 (v := .bool true))
      have HKK := Lib.hid ((Keep1.refl g w).set 1 (.bool true))
      have HS3 := Lib.hid (HS2.out.keep1 ((Keep1.refl g w).set 1 (.bool true)) HO2.out)
      clear HK2 HS2 c0 c1 f0 f1 lt2
      generalize w.setCell ⟨g, 1, none⟩ (.bool true) = W3 at *
      obtain ⟨c0, c1, f0, f1, lt3⟩ := HK3.out.box
      go_wp2_with fail
      refine (refPut_any W3 a2 n2 c2 bs uv nb HS3.out (by omega) HLX.out hnb4.1 (by omega)).mono ?_
      rintro e' W4 ⟨v4, m4, rfl, ho4, hb4⟩
      obtain ⟨a4, c4, rfl, hs4, hc4⟩ := Sl.ofOwn ho4
      have HS4 := Lib.hid hs4
      have HN4 := Lib.hid (own_mono ho4 HKK.out.size)
      have HO4 := Lib.hid (Off1.own ho4 lt3)
      have HK4 := Lib.hid (HK3.out.below hb4)
      have HKK4 := Lib.hid (HKK.out.trans (Keep1.of hb4))
      clear HK3 HKK HS3 ho4 hb4 hs4 c0 c1 f0 f1 lt3
      obtain ⟨c0, c1, f0, f1, lt3⟩ := HK4.out.box
      go_wp2_with fail
      go_end0
      exact ⟨rfl, ⟨a4, m4, c4, by simpa using HK4.out.set0, HS4.out.keep1 ((Keep1.refl g W4).set 0 _) HO4.out, hc4, HO4.out, own_keep1 HN4.out ((Keep1.refl g W4).set 0 _) HGL.out⟩, HKK4.out.set 0 _⟩
theorem rput1 (w : World) (g : Nat) (bs : List UInt8) (odd : Bool) (h : RWr (g + 1) w g bs odd) (nb : Nat) (hnb : nb = 1 ∨ nb = 2 ∨ nb = 4) (v : Int) (hv : IntR v) (hlen : bs.length ≤ 1048576) :
    Calls Try.prog 64 #[.pointer (some ⟨g, 0, none⟩), .int .i64 v, .int .i64 nb] w (RPut (g + 1) g (bs ++ putB (u64V v) nb) (odd || !roomB v nb) w) :=
  (rputO _ w g bs odd h nb hnb v hv hlen).mono fun _ _ h' => ⟨h'.1, h'.2.1.mono h.lt, h'.2.2⟩
set_option maxRecDepth 100000 in
set_option maxHeartbeats 8000000 in
theorem rtext1 (w : World) (g : Nat) (bs : List UInt8) (odd : Bool) (h : RWr (g + 1) w g bs odd) (nb : Nat) (hnb : nb = 1 ∨ nb = 2 ∨ nb = 4) (s : List UInt8) (hlen : bs.length + s.length + 4 ≤ 1048576) :
    Calls Try.prog 65 #[.pointer (some ⟨g, 0, none⟩), .string ⟨s.toArray⟩, .int .i64 nb] w (RPut (g + 1) g (bs ++ textB s nb) (odd || !roomB s.length nb) w) := by
  have HGL := Lib.hid h.lt
  have HP := Lib.hid (rputO _ w g bs odd h nb hnb s.length (by unfold IntR; omega) (by omega))
  have HLb := Lib.hid (show (bs ++ putB (u64V s.length) nb).length = bs.length + nb by rw [List.length_append, putB_length])
  have hnb4 : nb ≤ 4 := by omega
  have HTX := Lib.hid (show bs ++ textB s nb = bs ++ putB (u64V s.length) nb ++ s by unfold textB; rw [List.append_assoc])
  go_enter Try.func65, Try.ntmps65
  go_wp2_with fail
  refine HP.out.mono ?_
  rintro e' W1 ⟨rfl, ⟨a1, n1, c1, hk1, hs1, hc1, ho1, hn1⟩, hkk1⟩
  have hnn : n1 ≤ bs.length + 4 := by rw [← hs1.1, HLb.out]; omega
  have HK1 := Lib.hid hk1
  have HKK1 := Lib.hid hkk1
  have HO1 := Lib.hid hn1
  clear hk1 hs1 ho1 hn1 hkk1 HP
  obtain ⟨c0, c1', f0, f1, lt2⟩ := HK1.out.box
  go_wp2_with (at_builtin; refine wpList_app1 oneN rfl _ _ _ rfl w.heap.size _ n1 _ rfl HO1.out _ s.length (s.map encB) rfl (strSrcK _ s) (by omega) (by unfold maxLen; omega) HKK1.out.size ?_; intro v2 W2 hown2 hg2 hb2; rw [← List.map_append] at hown2; have hq2 := KeptT.app0 HO1.out hg2; have HK2 := Lib.hid (show Blk2 W2 g (.slice a1 n1 c1) (.bool (odd || !roomB s.length nb)) 75 from hq2.2 _ _ _ _ HK1.out (by decide)); obtain ⟨a2, k2, rfl, hs2, hc2⟩ := Sl.ofOwn hown2; have HS2 := Lib.hid hs2; have HKK2 := Lib.hid (keep1_app HKK1.out HO1.out hg2); have HO2 := Lib.hid hown2; clear c0 c1' f0 f1 lt2 hown2 hg2 hq2 hb2 hs2; obtain ⟨c0, c1', f0, f1, lt2⟩ := HK2.out.box)
  go_end0
  refine ⟨rfl, ?_, HKK2.out.set 0 _⟩
  rw [HTX.out]
  exact ⟨a2, _, k2, HK2.out.set0, HS2.out.keep1 ((Keep1.refl g W2).set 0 _) (Off1.own HO2.out HGL.out), hc2, Off1.own HO2.out HGL.out, own_mono (own_keep1 HO2.out ((Keep1.refl g W2).set 0 _) HGL.out) HGL.out⟩
set_option maxRecDepth 100000 in
set_option maxHeartbeats 8000000 in
theorem rints1 (w : World) (g : Nat) (bs : List UInt8) (odd : Bool) (h : RWr (g + 1) w g bs odd) (a : Option Addr) (n cap : Nat) (l : List Int) (hs : Sl encZ w a n l) (ho : Off1 a n g) (hz : ∀ v ∈ l, IntR v) (hlen : bs.length + (intsB l).length + 8 ≤ 1048576) :
    Calls Try.prog 66 #[.pointer (some ⟨g, 0, none⟩), .slice a n cap] w (RPut (g + 1) g (bs ++ intsB l) (odd || intsO l) w) := by
  rw [intsB_len] at hlen
  have HS := Lib.hid hs
  have HLn := Lib.hid hs.1
  have HO := Lib.hid ho
  have HZ := Lib.hid hz
  have hnl : n ≤ 1048576 := by rw [← hs.1]; omega
  have HP := Lib.hid (rput1 w g bs odd h 2 (by omega) n (by unfold IntR; omega) (by omega))
  have HRB := Lib.hid (show bs ++ intsB l = bs ++ putB (u64V n) 2 ++ l.flatMap (fun v => putB (u64V v) 2) by unfold intsB rowB; rw [List.append_assoc, hs.1])
  have HRO := Lib.hid (show (odd || intsO l) = (odd || !roomB n 2 || l.any (fun v => !roomB v 2)) by unfold intsO rowO; rw [Bool.or_assoc, hs.1])
  have HPL := Lib.hid (show (bs ++ putB (u64V n) 2).length = bs.length + 2 by rw [List.length_append, putB_length])
  rw [hs.1] at hlen
  clear hs ho hz h
  go_enter Try.func66, Try.ntmps66
  go_wp2_with fail
  refine HP.out.mono ?_
  rintro e' W1 ⟨rfl, hw1, hk1⟩
  have HW1 := Lib.hid hw1
  have HK1 := Lib.hid hk1
  clear hw1 hk1 HP
  generalize bs ++ putB (u64V n) 2 = e at *
  generalize (odd || !roomB n 2) = od at *
  go_wp2_with fail
  go_loopg [12] n (fun gn i wr => ∃ j : Nat, j ≤ n ∧ gn = n - j ∧ i = .int .i64 j ∧ Hid (RWr (g + 1) wr g (e ++ (l.take j).flatMap (fun v => putB (u64V v) 2)) (od || (l.take j).any (fun v => !roomB v 2))) ∧ Hid (Keep1 g w wr))
  case atStart => exact ⟨0, by omega, by omega, by go_num, Lib.hid (by simpa using HW1.out), HK1⟩
  case round =>
    obtain ⟨j, hj, rfl, rfl, HW, HK⟩ := hrel
    by_cases hlt : j < n
    · obtain ⟨b, off, v, rfl, hbl, hv, q⟩ := (HS.out.keep1 HK.out HO.out).getZ j hlt
      have hvr := HZ.out v (List.mem_of_getElem? hv)
      have HFT := Lib.hid (show e ++ (l.take (j + 1)).flatMap (fun v => putB (u64V v) 2) = e ++ (l.take j).flatMap (fun v => putB (u64V v) 2) ++ putB (u64V v) 2 by rw [flat_take _ l j v hv, List.append_assoc])
      have HAT := Lib.hid (show (od || (l.take (j + 1)).any (fun v => !roomB v 2)) = (od || (l.take j).any (fun v => !roomB v 2) || !roomB v 2) by rw [any_take _ l j v hv, Bool.or_assoc])
      have hll : (e ++ (l.take j).flatMap (fun v => putB (u64V v) 2)).length ≤ 1048576 := by
        have h1 := putsB_len (l.take j) 2
        unfold putsB at h1
        rw [List.length_append, h1, List.length_take, HPL.out]
        omega
      have HV := Lib.hid (rput1 wr g _ _ HW.out 2 (by omega) v hvr hll)
      clear hv hll hvr
      generalize e ++ (l.take j).flatMap (fun v => putB (u64V v) 2) = ej at *
      generalize (od || (l.take j).any (fun v => !roomB v 2)) = oj at *
      go_wp2_with fail
      refine HV.out.mono ?_
      rintro e' W2 ⟨rfl, hw2, hk2⟩
      have HW2 := Lib.hid hw2
      have HK2 := Lib.hid (HK.out.trans hk2)
      clear hw2 hk2
      go_wp2_with fail
      go_roundg (n - (j + 1))
      case measure => omega
      case rel => exact ⟨j + 1, by omega, rfl, by go_num, Lib.hid (by rw [HFT.out, HAT.out]; exact HW2.out), HK2⟩
    · obtain rfl : n = j := by omega
      have HLE := Lib.hid (show l.take n = l by rw [List.take_of_length_le (by rw [HLn.out]; exact Nat.le_refl _)])
      rw [HLE.out] at HW
      go_wp2_with fail
      go_end0
      exact ⟨rfl, by rw [HRB.out, HRO.out]; exact HW.out, HK.out⟩
end Go.Proofs.Ytbcldlbmbdfejaa
/- image: the reference's least. No condition. -/
namespace Go.Proofs.Ytbcldlbmbdfejaa
open Go.ChangeShapes Go.WideShapes Go.ChangeAt Go.RowKit
def leastC (c : CW) : Bool := !decide (65534 < c.sup)
def leastM (m : MW) : Bool := !(decide (65534 < m.slot) || decide (65534 < m.nat))
def leastT (t : TW) : Bool := !decide (65534 < t.cls)
def leastX (x : XW) : Bool := x.cs.all leastC && x.ms.all leastM && x.ks.all (fun k => k.traps.all leastT)
theorem all_take {α : Type} (F : α → Bool) (l : List α) (j : Nat) (v : α) (h : l[j]? = some v) : (l.take (j + 1)).all F = ((l.take j).all F && F v) := by
  rw [take_snocX h, List.all_append]
  simp
theorem all_bad {α : Type} {F : α → Bool} {l : List α} {v : α} (h : v ∈ l) (hv : F v = false) : l.all F = false := by
  rw [List.all_eq_false]
  exact ⟨v, h, by simp [hv]⟩
set_option maxRecDepth 100000 in
set_option maxHeartbeats 16000000 in
theorem least_any (w : World) (x : XW) (hx : x.Rd w) (hr : x.Right) : Calls Try.prog 26 #[.agg x.vals] w fun e w' => e = .returned (.bool (leastX x)) ∧ Below w.heap.size w w' := by
  obtain ⟨R, hR⟩ : ∃ R, R = leastX x := ⟨_, rfl⟩
  rw [← hR]
  have HX := Lib.hid hx
  have HRR := Lib.hid hr
  have HR := Lib.hid hR
  have HLC := Lib.hid hx.c.1
  have HLM := Lib.hid hx.m.1
  have HLK := Lib.hid hx.k.1
  have HIB := Lib.hid (heap_alloc_last w (.cells x.vals 30))
  have HB1 := Lib.hid ((Below.refl w.heap.size w).alloc (Nat.le_refl _) (.cells x.vals 30))
  clear hR hx hr
  obtain ⟨ca, cn, cc, cs, ma, mn, mc, ms, st, sa, sn, sc, ss, ya, yn, yc, ys, xa, xn, xc, xs, ka, kn, kc, ks, main⟩ := x
  have HRL := Lib.hid (show R = (cs.all leastC && ms.all leastM && ks.all (fun k => k.traps.all leastT)) from HR.out)
  have hcn := HRR.out.cn
  have hmn := HRR.out.mn
  have hkn : kn ≤ 9223372036854775807 := by have := HRR.out.kn; exact this
  unfold XW.vals at *
  simp only at hcn hmn HLC HLM HLK
  clear HR
  go_enter Try.func26, Try.ntmps26
  go_upto_region 1 with fail
  simp only at HIB HB1
  generalize w.alloc _ = W1 at *
  have b0 := row_cell HIB.out 0 rfl
  go_wp2_with fail
  go_loopg [15] cn (fun gn i wr => ∃ j : Nat, j ≤ cn ∧ gn = cn - j ∧ i = .int .i64 j ∧ Hid ((cs.take j).all leastC = true) ∧ Hid (Below W1.heap.size W1 wr))
  case atStart => exact ⟨0, by omega, by omega, by go_num, Lib.hid rfl, Lib.hid (Below.refl _ _)⟩
  case round =>
    obtain ⟨j, hj, rfl, rfl, HQ, HB⟩ := hrel
    have HBW := Lib.hid (HB1.out.trans (HB.out.mono HB1.out.size))
    by_cases hlt : j < cn
    · obtain ⟨b, off, c, rfl, hbl, hc, q⟩ := (HX.out.c.below HBW.out).get1 j hlt
      replace hc : cs[j]? = some c := hc
      have HAT := Lib.hid (all_take leastC cs j c hc)
      have HBD := Lib.hid (fun h => all_bad (F := leastC) (List.mem_of_getElem? hc) h)
      obtain ⟨x0, x1, x2, xra, xrn, xrc, xr, xta, xtn, xtc, xt⟩ := c
      have p0 := q 0 (by omega)
      have p1 := q 1 (by omega)
      have p2 := q 2 (by omega)
      have p3 := q 3 (by omega)
      have p4 := q 4 (by omega)
      simp only [CW.vals, List.getElem?_cons_zero, List.getElem?_cons_succ, Nat.add_zero] at p0 p1 p2 p3 p4
      have HLE := Lib.hid (show leastC ⟨x0, x1, x2, xra, xrn, xrc, xr, xta, xtn, xtc, xt⟩ = !decide (65534 < x1) from rfl)
      clear q hc b0
      go_upto_region 4 with fail
      have hal : Below wr.heap.size wr (wr.alloc (.cells #[.string ⟨x0.toArray⟩, .int .i64 x1, .int .i64 x2, .slice xra xrn xrc, .slice xta xtn xtc] 82)) := (Below.refl _ _).alloc (Nat.le_refl _) _
      have HBA := Lib.hid (HB.out.trans (hal.mono HB.out.size))
      have HRA := heap_alloc_last wr (.cells #[.string ⟨x0.toArray⟩, .int .i64 x1, .int .i64 x2, .slice xra xrn xrc, .slice xta xtn xtc] 82)
      clear hal p0 p1 p2 p3 p4 HB HBW
      generalize wr.alloc (.cells #[.string ⟨x0.toArray⟩, .int .i64 x1, .int .i64 x2, .slice xra xrn xrc, .slice xta xtn xtc] 82) = WA at *
      generalize wr.heap.size = gb at *
      have c1 := row_cell HRA 1 rfl
      clear HRA
      by_cases hb : 65534 < x1
      · have ed := decide_eq_true hb
        have HF := Lib.hid (show R = false by rw [HRL.out, HBD.out (by rw [HLE.out, ed]; rfl)]; rfl)
        clear hb HLE HBD HAT
        go_wp2_with fail
        go_ret
        exact ⟨by rw [HF.out]; rfl, HB1.out.trans (HBA.out.mono HB1.out.size)⟩
      · have ed := decide_eq_false hb
        have HN := Lib.hid (show (cs.take (j + 1)).all leastC = true by rw [HAT.out, HQ.out, HLE.out, ed]; rfl)
        clear hb HLE HBD HAT HQ
        go_wp2_with fail
        go_roundg (cn - (j + 1))
        case measure => omega
        case rel => exact ⟨j + 1, by omega, rfl, by go_num, HN, HBA⟩
    · obtain rfl : cn = j := by omega
      have HA1 := Lib.hid (show cs.all leastC = true by have h := HQ.out; rwa [List.take_of_length_le (by rw [HLC.out]; exact Nat.le_refl _)] at h)
      have HI2 := Lib.hid (row_below HIB.out HB.out)
      clear HQ b0
      have b1 := row_cell HI2.out 1 rfl
      go_wp2_with fail
      go_loopg [27] mn (fun gn i wr => ∃ j : Nat, j ≤ mn ∧ gn = mn - j ∧ i = .int .i64 j ∧ Hid ((ms.take j).all leastM = true) ∧ Hid (Below W1.heap.size W1 wr))
      case atStart => exact ⟨0, by omega, by omega, by go_num, Lib.hid rfl, HB⟩
      case round =>
        obtain ⟨j, hj, rfl, rfl, HQ, HB⟩ := hrel
        have HBW := Lib.hid (HB1.out.trans (HB.out.mono HB1.out.size))
        by_cases hlt : j < mn
        · obtain ⟨b, off, c, rfl, hbl, hc, q⟩ := (HX.out.m.below HBW.out).get1 j hlt
          replace hc : ms[j]? = some c := hc
          have HAT := Lib.hid (all_take leastM ms j c hc)
          have HBD := Lib.hid (fun h => all_bad (F := leastM) (List.mem_of_getElem? hc) h)
          obtain ⟨x0, x1, x2, x3, x4, x5⟩ := c
          have p0 := q 0 (by omega)
          have p1 := q 1 (by omega)
          have p2 := q 2 (by omega)
          have p3 := q 3 (by omega)
          have p4 := q 4 (by omega)
          have p5 := q 5 (by omega)
          simp only [MW.vals, List.getElem?_cons_zero, List.getElem?_cons_succ, Nat.add_zero] at p0 p1 p2 p3 p4 p5
          have HLE := Lib.hid (show leastM ⟨x0, x1, x2, x3, x4, x5⟩ = !(decide (65534 < x4) || decide (65534 < x5)) from rfl)
          clear q hc b1
          go_upto_region 10 with fail
          have hal : Below wr.heap.size wr (wr.alloc (.cells #[.int .i64 x0, .string ⟨x1.toArray⟩, .string ⟨x2.toArray⟩, .bool x3, .int .i64 x4, .int .i64 x5] 87)) := (Below.refl _ _).alloc (Nat.le_refl _) _
          have HBA := Lib.hid (HB.out.trans (hal.mono HB.out.size))
          have HRA := heap_alloc_last wr (.cells #[.int .i64 x0, .string ⟨x1.toArray⟩, .string ⟨x2.toArray⟩, .bool x3, .int .i64 x4, .int .i64 x5] 87)
          clear hal p0 p1 p2 p3 p4 p5 HB HBW
          generalize wr.alloc (.cells #[.int .i64 x0, .string ⟨x1.toArray⟩, .string ⟨x2.toArray⟩, .bool x3, .int .i64 x4, .int .i64 x5] 87) = WA at *
          generalize wr.heap.size = gb at *
          have c4 := row_cell HRA 4 rfl
          have c5 := row_cell HRA 5 rfl
          clear HRA
          by_cases hb : 65534 < x4
          · have ed := decide_eq_true hb
            have HF := Lib.hid (show R = false by rw [HRL.out, HBD.out (by rw [HLE.out, ed]; rfl)]; simp)
            clear hb HLE HBD HAT
            go_wp2_with fail
            go_ret
            exact ⟨by rw [HF.out]; rfl, HB1.out.trans (HBA.out.mono HB1.out.size)⟩
          · have ed := decide_eq_false hb
            by_cases hb2 : 65534 < x5
            · have ed2 := decide_eq_true hb2
              have HF := Lib.hid (show R = false by rw [HRL.out, HBD.out (by rw [HLE.out, ed2]; simp)]; simp)
              clear hb hb2 HLE HBD HAT
              go_wp2_with fail
              go_ret
              exact ⟨by rw [HF.out]; rfl, HB1.out.trans (HBA.out.mono HB1.out.size)⟩
            · have ed2 := decide_eq_false hb2
              have HN := Lib.hid (show (ms.take (j + 1)).all leastM = true by rw [HAT.out, HQ.out, HLE.out, ed, ed2]; rfl)
              clear hb hb2 HLE HBD HAT HQ
              go_wp2_with fail
              go_roundg (mn - (j + 1))
              case measure => omega
              case rel => exact ⟨j + 1, by omega, rfl, by go_num, HN, HBA⟩
        · obtain rfl : mn = j := by omega
          have HA2 := Lib.hid (show ms.all leastM = true by have h := HQ.out; rwa [List.take_of_length_le (by rw [HLM.out]; exact Nat.le_refl _)] at h)
          have HI3 := Lib.hid (row_below HIB.out HB.out)
          clear HQ b1
          have b6 := row_cell HI3.out 6 rfl
          go_wp2_with fail
          go_loopg [43] kn (fun gn i wr => ∃ j : Nat, j ≤ kn ∧ gn = kn - j ∧ i = .int .i64 j ∧ Hid ((ks.take j).all (fun k => k.traps.all leastT) = true) ∧ Hid (Below W1.heap.size W1 wr))
          case atStart => exact ⟨0, by omega, by omega, by go_num, Lib.hid rfl, HB⟩
          case round =>
            obtain ⟨j, hj, rfl, rfl, HQ, HB⟩ := hrel
            have HBW := Lib.hid (HB1.out.trans (HB.out.mono HB1.out.size))
            by_cases hlt : j < kn
            · obtain ⟨b, off, k, rfl, hbl, hc, q⟩ := (HX.out.k.below HBW.out).get1 j hlt
              replace hc : ks[j]? = some k := hc
              have HAT := Lib.hid (all_take (fun k : KW => k.traps.all leastT) ks j k hc)
              have HBD := Lib.hid (fun h => all_bad (F := fun k : KW => k.traps.all leastT) (List.mem_of_getElem? hc) h)
              have HTR := Lib.hid (HX.out.kr k (List.mem_of_getElem? hc)).t
              have htn : k.tn ≤ 9223372036854775807 := by have := (HRR.out.tn k (List.mem_of_getElem? hc)); exact this
              obtain ⟨x0, x1, x2, x3, x4, ta, tn, tc, ts⟩ := k
              simp only at HTR htn
              have HLT := Lib.hid HTR.out.1
              have p0 := q 0 (by omega)
              have p1 := q 1 (by omega)
              have p2 := q 2 (by omega)
              have p3 := q 3 (by omega)
              have p4 := q 4 (by omega)
              have p5 := q 5 (by omega)
              simp only [KW.vals, List.getElem?_cons_zero, List.getElem?_cons_succ, Nat.add_zero] at p0 p1 p2 p3 p4 p5
              simp only at HAT HBD
              clear q hc b6
              go_upto_region 16 with fail
              have hal : Below wr.heap.size wr (wr.alloc (.cells #[.int .i64 x0, .int .i64 x1, .int .i64 x2, .int .i64 x3, .int .i64 x4, .slice ta tn tc] 62)) := (Below.refl _ _).alloc (Nat.le_refl _) _
              have HBA := Lib.hid (HB.out.trans (hal.mono HB.out.size))
              have HRA := heap_alloc_last wr (.cells #[.int .i64 x0, .int .i64 x1, .int .i64 x2, .int .i64 x3, .int .i64 x4, .slice ta tn tc] 62)
              clear hal p0 p1 p2 p3 p4 p5 HB HBW
              generalize wr.alloc (.cells #[.int .i64 x0, .int .i64 x1, .int .i64 x2, .int .i64 x3, .int .i64 x4, .slice ta tn tc] 62) = WA at *
              generalize wr.heap.size = gb at *
              have c5 := row_cell HRA 5 rfl
              clear HRA
              go_wp2_with fail
              go_loopg [50] tn (fun gn i wr => ∃ m : Nat, m ≤ tn ∧ gn = tn - m ∧ i = .int .i64 m ∧ Hid ((ts.take m).all leastT = true) ∧ Hid (Below W1.heap.size W1 wr))
              case atStart => exact ⟨0, by omega, by omega, by go_num, Lib.hid rfl, HBA⟩
              case round =>
                obtain ⟨m, hm, rfl, rfl, HP, HB⟩ := hrel
                have HBW := Lib.hid (HB1.out.trans (HB.out.mono HB1.out.size))
                by_cases hlm : m < tn
                · obtain ⟨b2, off2, t, rfl, hbl2, ht, q⟩ := (HTR.out.below HBW.out).get1 m hlm
                  have HAT2 := Lib.hid (all_take leastT ts m t ht)
                  have HBD2 := Lib.hid (fun h => all_bad (F := leastT) (List.mem_of_getElem? ht) h)
                  obtain ⟨y0, y1, y2, y3⟩ := t
                  have p0 := q 0 (by omega)
                  have p1 := q 1 (by omega)
                  have p2 := q 2 (by omega)
                  have p3 := q 3 (by omega)
                  simp only [TW.vals, List.getElem?_cons_zero, List.getElem?_cons_succ, Nat.add_zero] at p0 p1 p2 p3
                  have HLE := Lib.hid (show leastT ⟨y0, y1, y2, y3⟩ = !decide (65534 < y3) from rfl)
                  clear q ht c5
                  go_upto_region 19 with fail
                  have hal : Below wr.heap.size wr (wr.alloc (.cells #[.int .i64 y0, .int .i64 y1, .int .i64 y2, .int .i64 y3] 71)) := (Below.refl _ _).alloc (Nat.le_refl _) _
                  have HBC := Lib.hid (HB.out.trans (hal.mono HB.out.size))
                  have HRA := heap_alloc_last wr (.cells #[.int .i64 y0, .int .i64 y1, .int .i64 y2, .int .i64 y3] 71)
                  clear hal p0 p1 p2 p3 HB HBW
                  generalize wr.alloc (.cells #[.int .i64 y0, .int .i64 y1, .int .i64 y2, .int .i64 y3] 71) = WC at *
                  generalize wr.heap.size = gc at *
                  have c3 := row_cell HRA 3 rfl
                  clear HRA
                  by_cases hb : 65534 < y3
                  · have ed := decide_eq_true hb
                    have HF := Lib.hid (show R = false by rw [HRL.out, HBD.out (HBD2.out (by rw [HLE.out, ed]; rfl))]; simp)
                    clear hb HLE HBD HAT HBD2 HAT2
                    go_wp2_with fail
                    go_ret
                    exact ⟨by rw [HF.out]; rfl, HB1.out.trans (HBC.out.mono HB1.out.size)⟩
                  · have ed := decide_eq_false hb
                    have HN := Lib.hid (show (ts.take (m + 1)).all leastT = true by rw [HAT2.out, HP.out, HLE.out, ed]; rfl)
                    clear hb HLE HBD2 HAT2 HP
                    go_wp2_with fail
                    go_roundg (tn - (m + 1))
                    case measure => omega
                    case rel => exact ⟨m + 1, by omega, rfl, by go_num, HN, HBC⟩
                · obtain rfl : tn = m := by omega
                  have HAA := Lib.hid (show ts.all leastT = true by have h := HP.out; rwa [List.take_of_length_le (by rw [HLT.out]; exact Nat.le_refl _)] at h)
                  have HN := Lib.hid (show (ks.take (j + 1)).all (fun k => k.traps.all leastT) = true by rw [HAT.out, HQ.out, HAA.out]; rfl)
                  clear c5 HP HAT HBD HQ
                  go_wp2_with fail
                  go_roundg (kn - (j + 1))
                  case measure => omega
                  case rel => exact ⟨j + 1, by omega, rfl, by go_num, HN, HB⟩
            · obtain rfl : kn = j := by omega
              have HA3 := Lib.hid (show ks.all (fun k => k.traps.all leastT) = true by have h := HQ.out; rwa [List.take_of_length_le (by rw [HLK.out]; exact Nat.le_refl _)] at h)
              have HF := Lib.hid (show R = true by rw [HRL.out, HA1.out, HA2.out, HA3.out]; rfl)
              go_wp2_with fail
              go_ret
              exact ⟨by rw [HF.out]; rfl, HB1.out.trans (HB.out.mono HB1.out.size)⟩
end Go.Proofs.Ytbcldlbmbdfejaa
