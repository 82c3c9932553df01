/- image: the reference's head (printed by gen/imghead.py). No condition. -/
import Derived.Test.YtbcldlbmbdfejaaQ17ImageBytes
namespace Go.Proofs.Ytbcldlbmbdfejaa
open Go.ChangeShapes Go.WideShapes Go.ChangeAt Go.RowKit
theorem oddN_room (v : Int) : oddN v = !roomB (v + 1) 2 := by
  unfold oddN roomB
  rw [Bool.eq_iff_iff]
  simp
  omega
theorem nexts1 (v : Int) : nextsB [v] = putB (u64V (v + 1)) 2 := by unfold nextsB; simp
theorem nexts2 (u v : Int) : nextsB [u, v] = putB (u64V (u + 1)) 2 ++ putB (u64V (v + 1)) 2 := by unfold nextsB; simp
theorem badN1 (v : Int) : badN [v] = !roomB (v + 1) 2 := by unfold badN; simp [oddN_room]
theorem badN2 (u v : Int) : badN [u, v] = (!roomB (u + 1) 2 || !roomB (v + 1) 2) := by unfold badN; simp [oddN_room]
theorem puts3 (a b c : Int) : putsB [a, b, c] 2 = putB (u64V a) 2 ++ putB (u64V b) 2 ++ putB (u64V c) 2 := by unfold putsB; simp
theorem bad3 (a b c : Int) : badB [a, b, c] 2 = (!roomB a 2 || !roomB b 2 || !roomB c 2) := by unfold badB; simp [Bool.or_assoc]
theorem puts4 (a b c d : Int) : putsB [a, b, c, d] 2 = putB (u64V a) 2 ++ putB (u64V b) 2 ++ putB (u64V c) 2 ++ putB (u64V d) 2 := by unfold putsB; simp
theorem bad4 (a b c d : Int) : badB [a, b, c, d] 2 = (!roomB a 2 || !roomB b 2 || !roomB c 2 || !roomB d 2) := by unfold badB; simp [Bool.or_assoc]
theorem flat_len_take {α : Type} (F : α → List UInt8) (l : List α) (j : Nat) (v : α) (h : l[j]? = some v) : ((l.take j).flatMap F).length + (F v).length ≤ (l.flatMap F).length := by
  have h1 := flat_le F l (j + 1)
  rw [flat_take F l j v h, List.length_append] at h1
  exact h1
theorem sup_inc {v : Int} (h : IntR v) (h2 : v ≤ 65534) : IntR (v + 1) := by unfold IntR at *; omega
def headX (x : XW) (D : List (List UInt8)) (pos : Int) : List UInt8 := tabB x ++ headsB pos (x.ks.zip D)
def headO (x : XW) (D : List (List UInt8)) (pos : Int) : Bool := tabO x || headsO pos (x.ks.zip D)
set_option maxRecDepth 100000 in
set_option maxHeartbeats 64000000 in
theorem head_any (w0 w : World) (g : Nat) (x : XW) (hx : x.Rd w0) (hr : x.Right) (hle : leastX x = true) (a : Option Addr) (n cap : Nat) (F : List BV) (hF : Sl BV.enc w0 a n F) (hf : ∀ f ∈ F, BVf w0 f) (hnk : n = x.kn) (pos : Nat) (hb : Below w0.heap.size w0 w) (hg0 : w0.heap.size ≤ g)
    (hW : Blk2 w g (.slice none 0 0) (.bool false) 75) (hlen : (tabB x).length + sizeK x.ks ≤ 1000000) (hpos : pos + lensL (F.map (·.data)) ≤ 1000000) :
    Calls Try.prog 27 #[.pointer (some ⟨g, 0, none⟩), .agg x.vals, .slice a n cap, .int .i64 pos] w (RPut (g + 1) g (headX x (F.map (·.data)) pos) (headO x (F.map (·.data)) pos) w) := by
  rw [tabB_parts] at hlen
  obtain ⟨E, hE⟩ : ∃ E, E = headX x (F.map (·.data)) pos := ⟨_, rfl⟩
  obtain ⟨EO, hEO⟩ : ∃ E, E = headO x (F.map (·.data)) pos := ⟨_, rfl⟩
  rw [← hE, ← hEO]
  unfold headX tabB at hE
  unfold headO tabO at hEO
  have HX := Lib.hid hx
  have HR := Lib.hid hr
  have HF := Lib.hid hF
  have HFF := Lib.hid hf
  have HB := Lib.hid hb
  have HLn := Lib.hid hF.1
  have hgl := hW.box.lt
  obtain ⟨ca, cn, cc, cs, ma, mn, mc, ms, st, sa, sn, sc, ss, ya, yn, yc, ys, xa, xn, xc, xs, ka, kn, kc, ks, main⟩ := x
  simp only at hnk hlen hE hEO
  subst hnk
  have HE := Lib.hid hE
  have HEO := Lib.hid hEO
  have HLC := Lib.hid (show cs.length = cn from hx.c.1)
  have HLM := Lib.hid (show ms.length = mn from hx.m.1)
  have HLY := Lib.hid (show ys.length = yn from hx.y.1)
  have HLX := Lib.hid (show xs.length = xn from hx.tx.1)
  have HLK := Lib.hid (show ks.length = n from hx.k.1)
  have hle2 : cs.all leastC = true ∧ ms.all leastM = true ∧ ks.all (fun k => k.traps.all leastT) = true := by
    unfold leastX at hle
    simp only [Bool.and_eq_true] at hle
    exact ⟨hle.1.1, hle.1.2, hle.2⟩
  have HLE := Lib.hid hle2
  have HCN := Lib.hid (show cn ≤ 9223372036854775807 from hr.cn)
  have hcn := HCN.out
  have hmn : mn ≤ 9223372036854775807 := hr.mn
  have hyn : yn ≤ 9223372036854775807 := hr.yn
  have hxn : xn ≤ 9223372036854775807 := hr.xn
  have hkn : n ≤ 9223372036854775807 := hr.kn
  have l0 := rowB_len CW.bytes cs
  have l1 := rowB_len MW.bytes ms
  have l2 := rowB_len (fun s => textB s 1) ys
  have l3 := rowB_len (fun s => textB s 2) xs
  have HL0 := Lib.hid l0
  have HL1 := Lib.hid l1
  have HL2 := Lib.hid l2
  have HL3 := Lib.hid l3
  unfold XW.vals
  simp only
  have hal : Below w.heap.size w (w.alloc (.cells #[.slice ca cn cc, .slice ma mn mc, .int .i64 st, .slice sa sn sc, .slice ya yn yc, .slice xa xn xc, .slice ka n kc, .int .i64 main] 30)) := (Below.refl _ _).alloc (Nat.le_refl _) _
  have HI0 := Lib.hid (heap_alloc_last w (.cells #[.slice ca cn cc, .slice ma mn mc, .int .i64 st, .slice sa sn sc, .slice ya yn yc, .slice xa xn xc, .slice ka n kc, .int .i64 main] 30))
  have HW0 := Lib.hid (hW.below hal)
  have HK0 := Lib.hid (Keep1.of (g := g) hal)
  have hgi : w.heap.size ≠ g := by omega
  have HLENX := Lib.hid hlen
  have HPOS := Lib.hid hpos
  clear hal hW hx hr hle hle2 hF hf hb hE hEO l0 l1 l2 l3 hlen hpos
  go_enter Try.func27, Try.ntmps27
  go_upto_region 1 with fail
  generalize w.alloc (.cells #[.slice ca cn cc, .slice ma mn mc, .int .i64 st, .slice sa sn sc, .slice ya yn yc, .slice xa xn xc, .slice ka n kc, .int .i64 main] 30) = W0 at *
  obtain ⟨c0, c1, f0, f1, lt2⟩ := HW0.out.box
  go_upto_region 2 with (at_builtin; refine wpList_app1 oneN rfl _ _ _ rfl W0.heap.size _ 0 [] rfl (World.ownsRow_nil _ _ _ _) _ 4 _ rfl (strSrcK _ magicB) (by omega) (by unfold maxLen; omega) (Nat.le_refl _) ?_; intro v1 W1 hown1 hg1 hb1; simp only [List.nil_append, Nat.zero_add] at hown1; have HB1 := Lib.hid hb1; have HN1 := Lib.hid hown1; obtain ⟨a1, k1, rfl, hs1, hc1⟩ := Sl.ofOwn hown1; have HS1 := Lib.hid hs1; have HG1 := Lib.hid (HW0.out.below hb1); clear hown1 hg1 hb1 hs1 c0 c1 f0 f1 lt2; obtain ⟨c0, c1, f0, f1, lt2⟩ := HG1.out.box)
  have hgl0 : g + 1 ≤ W0.heap.size := Nat.lt_of_lt_of_le hgl HK0.out.size
  have HW2 := Lib.hid (show RWr (g + 1) (W1.setCell ⟨g, 0, none⟩ (.slice a1 4 k1)) g magicB false from ⟨a1, 4, k1, HG1.out.set0, HS1.out.keep1 ((Keep1.refl g W1).set 0 _) (Off1.own HN1.out hgl0), hc1, Off1.own HN1.out hgl0, own_keep1 (own_mono HN1.out hgl0) ((Keep1.refl g W1).set 0 _) (Nat.lt_succ_self g)⟩)
  have HK2 := Lib.hid ((HK0.out.trans (Keep1.of HB1.out)).set 0 (.slice a1 4 k1))
  have HI2 := Lib.hid ((Keep1.refl g W1).set 0 (.slice a1 4 k1) |>.blk (row_below HI0.out HB1.out) hgi)
  clear c0 c1 f0 f1 lt2 HG1 HS1 HN1 HB1 HW0 HK0 HI0
  generalize W1.setCell ⟨g, 0, none⟩ (.slice a1 4 k1) = W2 at *
  have ci := row_cell HI2.out 0 rfl
  have HCALL := Lib.hid (rput1 W2 g _ _ HW2.out 2 (by omega) cn (len_room hcn) (by have hlen := HLENX.out; simp only [List.length_append, List.length_cons, List.length_nil, putB_length, textB_len, magicB, rowB_len] at hlen ⊢; omega))
  go_wp2_with fail
  refine HCALL.out.mono ?_
  rintro e' W3 ⟨rfl, hw, hk⟩
  have HW3 := Lib.hid hw
  have HK3 := Lib.hid (HK2.out.trans hk)
  have HI3 := Lib.hid (hk.blk HI2.out hgi)
  clear hw hk HCALL HW2 HK2 HI2
  clear ci
  have ci := row_cell HI3.out 0 rfl
  go_wp2_with fail
  obtain ⟨e, he⟩ : ∃ e, e = (magicB ++ putB (u64V cn) 2) := ⟨_, rfl⟩
  obtain ⟨od, hod⟩ : ∃ o, o = (false || !roomB cn 2) := ⟨_, rfl⟩
  rw [← he, ← hod] at HW3
  have HEE := Lib.hid he
  have HOD := Lib.hid hod
  clear he hod ci
  go_loopg [41] cn (fun gn i wr => ∃ j : Nat, j ≤ cn ∧ gn = cn - j ∧ i = .int .i64 j ∧ Hid (RWr (g + 1) wr g (e ++ (cs.take j).flatMap CW.bytes) (od || (cs.take j).any CW.odd)) ∧ Hid (Keep1 g w wr) ∧ Hid (wr.heap[w.heap.size]? = some (.cells #[.slice ca cn cc, .slice ma mn mc, .int .i64 st, .slice sa sn sc, .slice ya yn yc, .slice xa xn xc, .slice ka n kc, .int .i64 main] 30)))
  case atStart => exact ⟨0, by omega, by omega, by go_num, Lib.hid (by simpa using HW3.out), HK3, HI3⟩
  case round =>
    obtain ⟨j, hj, rfl, rfl, HWr, HKr, HIr⟩ := hrel
    have HBr := Lib.hid (HKr.out.below HB.out (Nat.le_refl _) hg0)
    by_cases hlt : j < cn
    · have hdummy : True := trivial
      obtain ⟨b, off, v, rfl, hbl, hv, qq⟩ := (HX.out.c.below HBr.out).get1 j hlt
      replace hv : cs[j]? = some v := hv
      have HFT := Lib.hid (show e ++ (cs.take (j + 1)).flatMap CW.bytes = e ++ (cs.take j).flatMap CW.bytes ++ CW.bytes v by rw [flat_take CW.bytes cs j v hv, List.append_assoc])
      have HAT := Lib.hid (show (od || (cs.take (j + 1)).any CW.odd) = (od || (cs.take j).any CW.odd || CW.odd v) by rw [any_take CW.odd cs j v hv, Bool.or_assoc])
      have HLEN := Lib.hid (show (e ++ (cs.take j).flatMap CW.bytes).length + (CW.bytes v).length + 16 ≤ 1048576 by have hlen := HLENX.out; have h1 := flat_len_take CW.bytes cs j v hv; rw [List.length_append, HEE.out]; simp only [List.length_append, List.length_cons, List.length_nil, putB_length, textB_len, magicB, rowB_len] at hlen h1 ⊢; omega)
      have hcr := HX.out.cr v (List.mem_of_getElem? hv)
      have hcq := HR.out.c v (List.mem_of_getElem? hv)
      have hsup : v.sup ≤ 65534 := by have h := List.all_eq_true.1 HLE.out.1 v (List.mem_of_getElem? hv); unfold leastC at h; simp at h; exact h
      obtain ⟨r1, r2, rr, rt⟩ := hcq
      have HR1 := Lib.hid (hcr.r.below HB.out)
      have HR2 := Lib.hid (hcr.t.below HB.out)
      have HO1 := Lib.hid (Off1.old hcr.r hg0)
      have HO2 := Lib.hid (Off1.old hcr.t hg0)
      clear hcr
      obtain ⟨x0, x1, x2, xra, xrn, xrc, xr, xta, xtn, xtc, xt⟩ := v
      have p0 := qq 0 (by omega)
      have p1 := qq 1 (by omega)
      have p2 := qq 2 (by omega)
      have p3 := qq 3 (by omega)
      have p4 := qq 4 (by omega)
      simp only [CW.vals, List.getElem?_cons_zero, List.getElem?_cons_succ, Nat.add_zero] at p0 p1 p2 p3 p4
      clear qq hv
      skip
      go_upto_region 6 with fail
      have hal : Below wr.heap.size wr (wr.alloc (.cells #[.string ⟨x0.toArray⟩, .int .i64 x1, .int .i64 x2, .slice xra xrn xrc, .slice xta xtn xtc] 82)) := (Below.refl _ _).alloc (Nat.le_refl _) _
      have HW23 := Lib.hid (HWr.out.below hal)
      have HK23 := Lib.hid (HKr.out.trans (Keep1.of hal))
      have HI23 := Lib.hid (row_below HIr.out hal)
      have HC23 := Lib.hid (heap_alloc_last wr (.cells #[.string ⟨x0.toArray⟩, .int .i64 x1, .int .i64 x2, .slice xra xrn xrc, .slice xta xtn xtc] 82))
      have hcg : wr.heap.size ≠ g := Ne.symm (Nat.ne_of_lt HWr.out.lt)
      clear hal HWr HKr HIr HBr p0 p1 p2 p3 p4
      generalize wr.alloc (.cells #[.string ⟨x0.toArray⟩, .int .i64 x1, .int .i64 x2, .slice xra xrn xrc, .slice xta xtn xtc] 82) = W23 at *
      generalize wr.heap.size = gc at *
      simp only at r1 r2 rr rt hsup HR1 HR2 HO1 HO2
      have hlo : -9223372036854775808 ≤ x1 := r1.1
      have cq := row_cell HC23.out 0 rfl
      have HCALL := Lib.hid (rtext1 W23 g _ _ HW23.out 1 (by omega) x0 (by have h0 := HLEN.out; rw [CW.bytes_len] at h0; simp only [List.length_append, putB_length, textB_len, intsB_len] at h0 ⊢; omega))
      go_wp2_with fail
      refine HCALL.out.mono ?_
      rintro e' W24 ⟨rfl, hw, hk⟩
      have HW24 := Lib.hid hw
      have HK24 := Lib.hid (HK23.out.trans hk)
      have HI24 := Lib.hid (hk.blk HI23.out hgi)
      have HC24 := Lib.hid (hk.blk HC23.out hcg)
      clear hw hk HCALL HW23 HK23 HI23 HC23
      clear cq
      have cq := row_cell HC24.out 1 rfl
      have HCALL := Lib.hid (rput1 W24 g _ _ HW24.out 2 (by omega) (x1 + 1) (sup_inc r1 hsup) (by have h0 := HLEN.out; rw [CW.bytes_len] at h0; simp only [List.length_append, putB_length, textB_len, intsB_len] at h0 ⊢; omega))
      go_wp2_with fail
      refine HCALL.out.mono ?_
      rintro e' W25 ⟨rfl, hw, hk⟩
      have HW25 := Lib.hid hw
      have HK25 := Lib.hid (HK24.out.trans hk)
      have HI25 := Lib.hid (hk.blk HI24.out hgi)
      have HC25 := Lib.hid (hk.blk HC24.out hcg)
      clear hw hk HCALL HW24 HK24 HI24 HC24
      clear cq
      have cq := row_cell HC25.out 2 rfl
      have HCALL := Lib.hid (rput1 W25 g _ _ HW25.out 2 (by omega) x2 r2 (by have h0 := HLEN.out; rw [CW.bytes_len] at h0; simp only [List.length_append, putB_length, textB_len, intsB_len] at h0 ⊢; omega))
      go_wp2_with fail
      refine HCALL.out.mono ?_
      rintro e' W26 ⟨rfl, hw, hk⟩
      have HW26 := Lib.hid hw
      have HK26 := Lib.hid (HK25.out.trans hk)
      have HI26 := Lib.hid (hk.blk HI25.out hgi)
      have HC26 := Lib.hid (hk.blk HC25.out hcg)
      clear hw hk HCALL HW25 HK25 HI25 HC25
      clear cq
      have cq := row_cell HC26.out 3 rfl
      have HCALL := Lib.hid (rints1 W26 g _ _ HW26.out xra xrn xrc xr (HR1.out.keep1 HK26.out HO1.out) HO1.out rr (by have h0 := HLEN.out; rw [CW.bytes_len] at h0; simp only [List.length_append, putB_length, textB_len, intsB_len] at h0 ⊢; omega))
      go_wp2_with fail
      refine HCALL.out.mono ?_
      rintro e' W27 ⟨rfl, hw, hk⟩
      have HW27 := Lib.hid hw
      have HK27 := Lib.hid (HK26.out.trans hk)
      have HI27 := Lib.hid (hk.blk HI26.out hgi)
      have HC27 := Lib.hid (hk.blk HC26.out hcg)
      clear hw hk HCALL HW26 HK26 HI26 HC26
      clear cq
      have cq := row_cell HC27.out 4 rfl
      have HCALL := Lib.hid (rints1 W27 g _ _ HW27.out xta xtn xtc xt (HR2.out.keep1 HK27.out HO2.out) HO2.out rt (by have h0 := HLEN.out; rw [CW.bytes_len] at h0; simp only [List.length_append, putB_length, textB_len, intsB_len] at h0 ⊢; omega))
      go_wp2_with fail
      refine HCALL.out.mono ?_
      rintro e' W28 ⟨rfl, hw, hk⟩
      have HW28 := Lib.hid hw
      have HK28 := Lib.hid (HK27.out.trans hk)
      have HI28 := Lib.hid (hk.blk HI27.out hgi)
      have HC28 := Lib.hid (hk.blk HC27.out hcg)
      clear hw hk HCALL HW27 HK27 HI27 HC27
      clear cq
      go_wp2_with fail
      go_roundg (cn - (j + 1))
      case measure => omega
      case rel =>
        refine ⟨j + 1, by omega, rfl, by go_num, Lib.hid ?_, HK28, HI28⟩
        rw [HFT.out, HAT.out]
        have hfin := HW28.out
        simp only [CW.bytes, CW.odd, nexts1, badN1]
        simpa only [List.append_assoc, Bool.or_assoc] using hfin
    · obtain rfl : cn = j := by omega
      have HLL := Lib.hid (show cs.take cn = cs by rw [List.take_of_length_le (by rw [HLC.out]; exact Nat.le_refl _)])
      rw [HLL.out] at HWr
      generalize wr = W103 at *
      have HW103 := HWr
      have HK103 := HKr
      have HI103 := HIr
      clear HWr HKr HIr HBr HLL
      rw [HEE.out, HOD.out] at HW103
      clear HEE HOD
      have ci := row_cell HI103.out 1 rfl
      have HCALL := Lib.hid (rput1 W103 g _ _ HW103.out 2 (by omega) mn (len_room hmn) (by have hlen := HLENX.out; simp only [List.length_append, List.length_cons, List.length_nil, putB_length, textB_len, magicB, rowB_len] at hlen ⊢; omega))
      go_wp2_with fail
      refine HCALL.out.mono ?_
      rintro e' W104 ⟨rfl, hw, hk⟩
      have HW104 := Lib.hid hw
      have HK104 := Lib.hid (HK103.out.trans hk)
      have HI104 := Lib.hid (hk.blk HI103.out hgi)
      clear hw hk HCALL HW103 HK103 HI103
      clear ci
      have ci := row_cell HI104.out 1 rfl
      go_wp2_with fail
      obtain ⟨e, he⟩ : ∃ e, e = (magicB ++ putB (u64V cn) 2 ++ cs.flatMap CW.bytes ++ putB (u64V mn) 2) := ⟨_, rfl⟩
      obtain ⟨od, hod⟩ : ∃ o, o = (false || !roomB cn 2 || cs.any CW.odd || !roomB mn 2) := ⟨_, rfl⟩
      rw [← he, ← hod] at HW104
      have HEE := Lib.hid he
      have HOD := Lib.hid hod
      clear he hod ci
      go_loopg [77] mn (fun gn i wr => ∃ j : Nat, j ≤ mn ∧ gn = mn - j ∧ i = .int .i64 j ∧ Hid (RWr (g + 1) wr g (e ++ (ms.take j).flatMap MW.bytes) (od || (ms.take j).any MW.odd)) ∧ Hid (Keep1 g w wr) ∧ Hid (wr.heap[w.heap.size]? = some (.cells #[.slice ca cn cc, .slice ma mn mc, .int .i64 st, .slice sa sn sc, .slice ya yn yc, .slice xa xn xc, .slice ka n kc, .int .i64 main] 30)))
      case atStart => exact ⟨0, by omega, by omega, by go_num, Lib.hid (by simpa using HW104.out), HK104, HI104⟩
      case round =>
        obtain ⟨j, hj, rfl, rfl, HWr, HKr, HIr⟩ := hrel
        have HBr := Lib.hid (HKr.out.below HB.out (Nat.le_refl _) hg0)
        by_cases hlt : j < mn
        · have hdummy : True := trivial
          obtain ⟨b, off, v, rfl, hbl, hv, qq⟩ := (HX.out.m.below HBr.out).get1 j hlt
          replace hv : ms[j]? = some v := hv
          have HFT := Lib.hid (show e ++ (ms.take (j + 1)).flatMap MW.bytes = e ++ (ms.take j).flatMap MW.bytes ++ MW.bytes v by rw [flat_take MW.bytes ms j v hv, List.append_assoc])
          have HAT := Lib.hid (show (od || (ms.take (j + 1)).any MW.odd) = (od || (ms.take j).any MW.odd || MW.odd v) by rw [any_take MW.odd ms j v hv, Bool.or_assoc])
          have HLEN := Lib.hid (show (e ++ (ms.take j).flatMap MW.bytes).length + (MW.bytes v).length + 16 ≤ 1048576 by have hlen := HLENX.out; have h1 := flat_len_take MW.bytes ms j v hv; rw [List.length_append, HEE.out]; simp only [List.length_append, List.length_cons, List.length_nil, putB_length, textB_len, magicB, rowB_len] at hlen h1 ⊢; omega)
          have hcq := HR.out.m v (List.mem_of_getElem? hv)
          have hsl : v.slot ≤ 65534 ∧ v.nat ≤ 65534 := by have h := List.all_eq_true.1 HLE.out.2.1 v (List.mem_of_getElem? hv); unfold leastM at h; simp at h; exact h
          obtain ⟨r0, r4, r5⟩ := hcq
          obtain ⟨x0, x1, x2, x3, x4, x5⟩ := v
          have p0 := qq 0 (by omega)
          have p1 := qq 1 (by omega)
          have p2 := qq 2 (by omega)
          have p3 := qq 3 (by omega)
          have p4 := qq 4 (by omega)
          have p5 := qq 5 (by omega)
          simp only [MW.vals, List.getElem?_cons_zero, List.getElem?_cons_succ, Nat.add_zero] at p0 p1 p2 p3 p4 p5
          simp only at r0 r4 r5 hsl
          have hlo4 : -9223372036854775808 ≤ x4 := r4.1
          have hlo5 : -9223372036854775808 ≤ x5 := r5.1
          have hhi4 : x4 ≤ 65534 := hsl.1
          have hhi5 : x5 ≤ 65534 := hsl.2
          clear qq hv
          go_upto_region 16 with fail
          have hal : Below wr.heap.size wr (wr.alloc (.cells #[.int .i64 x0, .string ⟨x1.toArray⟩, .string ⟨x2.toArray⟩, .bool x3, .int .i64 x4, .int .i64 x5] 87)) := (Below.refl _ _).alloc (Nat.le_refl _) _
          have HW124 := Lib.hid (HWr.out.below hal)
          have HK124 := Lib.hid (HKr.out.trans (Keep1.of hal))
          have HI124 := Lib.hid (row_below HIr.out hal)
          have HC124 := Lib.hid (heap_alloc_last wr (.cells #[.int .i64 x0, .string ⟨x1.toArray⟩, .string ⟨x2.toArray⟩, .bool x3, .int .i64 x4, .int .i64 x5] 87))
          have hcg : wr.heap.size ≠ g := Ne.symm (Nat.ne_of_lt HWr.out.lt)
          clear hal HWr HKr HIr HBr p0 p1 p2 p3 p4 p5
          generalize wr.alloc (.cells #[.int .i64 x0, .string ⟨x1.toArray⟩, .string ⟨x2.toArray⟩, .bool x3, .int .i64 x4, .int .i64 x5] 87) = W124 at *
          generalize wr.heap.size = gc at *
          have cq := row_cell HC124.out 0 rfl
          have HCALL := Lib.hid (rput1 W124 g _ _ HW124.out 2 (by omega) x0 r0 (by have h0 := HLEN.out; rw [MW.bytes_len] at h0; simp only [List.length_append, putB_length, textB_len] at h0 ⊢; omega))
          go_wp2_with fail
          refine HCALL.out.mono ?_
          rintro e' W125 ⟨rfl, hw, hk⟩
          have HW125 := Lib.hid hw
          have HK125 := Lib.hid (HK124.out.trans hk)
          have HI125 := Lib.hid (hk.blk HI124.out hgi)
          have HC125 := Lib.hid (hk.blk HC124.out hcg)
          clear hw hk HCALL HW124 HK124 HI124 HC124
          clear cq
          have cq := row_cell HC125.out 1 rfl
          have HCALL := Lib.hid (rtext1 W125 g _ _ HW125.out 1 (by omega) x1 (by have h0 := HLEN.out; rw [MW.bytes_len] at h0; simp only [List.length_append, putB_length, textB_len] at h0 ⊢; omega))
          go_wp2_with fail
          refine HCALL.out.mono ?_
          rintro e' W126 ⟨rfl, hw, hk⟩
          have HW126 := Lib.hid hw
          have HK126 := Lib.hid (HK125.out.trans hk)
          have HI126 := Lib.hid (hk.blk HI125.out hgi)
          have HC126 := Lib.hid (hk.blk HC125.out hcg)
          clear hw hk HCALL HW125 HK125 HI125 HC125
          clear cq
          have cq := row_cell HC126.out 2 rfl
          have HCALL := Lib.hid (rtext1 W126 g _ _ HW126.out 1 (by omega) x2 (by have h0 := HLEN.out; rw [MW.bytes_len] at h0; simp only [List.length_append, putB_length, textB_len] at h0 ⊢; omega))
          go_wp2_with fail
          refine HCALL.out.mono ?_
          rintro e' W127 ⟨rfl, hw, hk⟩
          have HW127 := Lib.hid hw
          have HK127 := Lib.hid (HK126.out.trans hk)
          have HI127 := Lib.hid (hk.blk HI126.out hgi)
          have HC127 := Lib.hid (hk.blk HC126.out hcg)
          clear hw hk HCALL HW126 HK126 HI126 HC126
          clear cq
          cases x3
          · have cq := row_cell HC127.out 3 rfl
            have HCALL := Lib.hid (rput1 W127 g _ _ HW127.out 1 (by omega) 0 (by unfold IntR; omega) (by have h0 := HLEN.out; rw [MW.bytes_len] at h0; simp only [List.length_append, putB_length, textB_len] at h0 ⊢; omega))
            go_wp2_with fail
            refine HCALL.out.mono ?_
            rintro e' W128 ⟨rfl, hw, hk⟩
            have HW128 := Lib.hid hw
            have HK128 := Lib.hid (HK127.out.trans hk)
            have HI128 := Lib.hid (hk.blk HI127.out hgi)
            have HC128 := Lib.hid (hk.blk HC127.out hcg)
            clear hw hk HCALL HW127 HK127 HI127 HC127
            clear cq
            have cq := row_cell HC128.out 4 rfl
            have HCALL := Lib.hid (rput1 W128 g _ _ HW128.out 2 (by omega) (x4 + 1) (sup_inc r4 hsl.1) (by have h0 := HLEN.out; rw [MW.bytes_len] at h0; simp only [List.length_append, putB_length, textB_len] at h0 ⊢; omega))
            go_wp2_with fail
            refine HCALL.out.mono ?_
            rintro e' W129 ⟨rfl, hw, hk⟩
            have HW129 := Lib.hid hw
            have HK129 := Lib.hid (HK128.out.trans hk)
            have HI129 := Lib.hid (hk.blk HI128.out hgi)
            have HC129 := Lib.hid (hk.blk HC128.out hcg)
            clear hw hk HCALL HW128 HK128 HI128 HC128
            clear cq
            have cq := row_cell HC129.out 5 rfl
            have HCALL := Lib.hid (rput1 W129 g _ _ HW129.out 2 (by omega) (x5 + 1) (sup_inc r5 hsl.2) (by have h0 := HLEN.out; rw [MW.bytes_len] at h0; simp only [List.length_append, putB_length, textB_len] at h0 ⊢; omega))
            go_wp2_with fail
            refine HCALL.out.mono ?_
            rintro e' W130 ⟨rfl, hw, hk⟩
            have HW130 := Lib.hid hw
            have HK130 := Lib.hid (HK129.out.trans hk)
            have HI130 := Lib.hid (hk.blk HI129.out hgi)
            have HC130 := Lib.hid (hk.blk HC129.out hcg)
            clear hw hk HCALL HW129 HK129 HI129 HC129
            clear cq
            go_wp2_with fail
            go_roundg (mn - (j + 1))
            case measure => omega
            case rel =>
              refine ⟨j + 1, by omega, rfl, by go_num, Lib.hid ?_, HK130, HI130⟩
              rw [HFT.out, HAT.out]
              have hfin := HW130.out
              simp only [MW.bytes, MW.odd, nexts2, badN2, statI]
              simpa only [List.append_assoc, Bool.or_assoc, if_true, Bool.false_eq_true, if_false] using hfin
          · have cq := row_cell HC127.out 3 rfl
            have HCALL := Lib.hid (rput1 W127 g _ _ HW127.out 1 (by omega) 1 (by unfold IntR; omega) (by have h0 := HLEN.out; rw [MW.bytes_len] at h0; simp only [List.length_append, putB_length, textB_len] at h0 ⊢; omega))
            go_wp2_with fail
            refine HCALL.out.mono ?_
            rintro e' W128 ⟨rfl, hw, hk⟩
            have HW128 := Lib.hid hw
            have HK128 := Lib.hid (HK127.out.trans hk)
            have HI128 := Lib.hid (hk.blk HI127.out hgi)
            have HC128 := Lib.hid (hk.blk HC127.out hcg)
            clear hw hk HCALL HW127 HK127 HI127 HC127
            clear cq
            have cq := row_cell HC128.out 4 rfl
            have HCALL := Lib.hid (rput1 W128 g _ _ HW128.out 2 (by omega) (x4 + 1) (sup_inc r4 hsl.1) (by have h0 := HLEN.out; rw [MW.bytes_len] at h0; simp only [List.length_append, putB_length, textB_len] at h0 ⊢; omega))
            go_wp2_with fail
            refine HCALL.out.mono ?_
            rintro e' W129 ⟨rfl, hw, hk⟩
            have HW129 := Lib.hid hw
            have HK129 := Lib.hid (HK128.out.trans hk)
            have HI129 := Lib.hid (hk.blk HI128.out hgi)
            have HC129 := Lib.hid (hk.blk HC128.out hcg)
            clear hw hk HCALL HW128 HK128 HI128 HC128
            clear cq
            have cq := row_cell HC129.out 5 rfl
            have HCALL := Lib.hid (rput1 W129 g _ _ HW129.out 2 (by omega) (x5 + 1) (sup_inc r5 hsl.2) (by have h0 := HLEN.out; rw [MW.bytes_len] at h0; simp only [List.length_append, putB_length, textB_len] at h0 ⊢; omega))
            go_wp2_with fail
            refine HCALL.out.mono ?_
            rintro e' W130 ⟨rfl, hw, hk⟩
            have HW130 := Lib.hid hw
            have HK130 := Lib.hid (HK129.out.trans hk)
            have HI130 := Lib.hid (hk.blk HI129.out hgi)
            have HC130 := Lib.hid (hk.blk HC129.out hcg)
            clear hw hk HCALL HW129 HK129 HI129 HC129
            clear cq
            go_wp2_with fail
            go_roundg (mn - (j + 1))
            case measure => omega
            case rel =>
              refine ⟨j + 1, by omega, rfl, by go_num, Lib.hid ?_, HK130, HI130⟩
              rw [HFT.out, HAT.out]
              have hfin := HW130.out
              simp only [MW.bytes, MW.odd, nexts2, badN2, statI]
              simpa only [List.append_assoc, Bool.or_assoc, if_true, Bool.false_eq_true, if_false] using hfin
        · obtain rfl : mn = j := by omega
          have HLL := Lib.hid (show ms.take mn = ms by rw [List.take_of_length_le (by rw [HLM.out]; exact Nat.le_refl _)])
          rw [HLL.out] at HWr
          generalize wr = W204 at *
          have HW204 := HWr
          have HK204 := HKr
          have HI204 := HIr
          clear HWr HKr HIr HBr HLL
          rw [HEE.out, HOD.out] at HW204
          clear HEE HOD
          have ci := row_cell HI204.out 2 rfl
          have HCALL := Lib.hid (rput1 W204 g _ _ HW204.out 2 (by omega) st HR.out.st (by have hlen := HLENX.out; simp only [List.length_append, List.length_cons, List.length_nil, putB_length, textB_len, magicB, rowB_len] at hlen ⊢; omega))
          go_wp2_with fail
          refine HCALL.out.mono ?_
          rintro e' W205 ⟨rfl, hw, hk⟩
          have HW205 := Lib.hid hw
          have HK205 := Lib.hid (HK204.out.trans hk)
          have HI205 := Lib.hid (hk.blk HI204.out hgi)
          clear hw hk HCALL HW204 HK204 HI204
          clear ci
          have ci := row_cell HI205.out 3 rfl
          have HCALL := Lib.hid (rints1 W205 g _ _ HW205.out sa sn sc ss ((HX.out.s.below HB.out).keep1 HK205.out (Off1.old HX.out.s hg0)) (Off1.old HX.out.s hg0) HR.out.s (by have hlen := HLENX.out; simp only [List.length_append, List.length_cons, List.length_nil, putB_length, textB_len, magicB, rowB_len] at hlen ⊢; omega))
          go_wp2_with fail
          refine HCALL.out.mono ?_
          rintro e' W206 ⟨rfl, hw, hk⟩
          have HW206 := Lib.hid hw
          have HK206 := Lib.hid (HK205.out.trans hk)
          have HI206 := Lib.hid (hk.blk HI205.out hgi)
          clear hw hk HCALL HW205 HK205 HI205
          clear ci
          have ci := row_cell HI206.out 4 rfl
          have HCALL := Lib.hid (rput1 W206 g _ _ HW206.out 2 (by omega) yn (len_room hyn) (by have hlen := HLENX.out; simp only [List.length_append, List.length_cons, List.length_nil, putB_length, textB_len, magicB, rowB_len] at hlen ⊢; omega))
          go_wp2_with fail
          refine HCALL.out.mono ?_
          rintro e' W207 ⟨rfl, hw, hk⟩
          have HW207 := Lib.hid hw
          have HK207 := Lib.hid (HK206.out.trans hk)
          have HI207 := Lib.hid (hk.blk HI206.out hgi)
          clear hw hk HCALL HW206 HK206 HI206
          clear ci
          have ci := row_cell HI207.out 4 rfl
          go_wp2_with fail
          obtain ⟨e, he⟩ : ∃ e, e = (magicB ++ putB (u64V cn) 2 ++ cs.flatMap CW.bytes ++ putB (u64V mn) 2 ++ ms.flatMap MW.bytes ++ putB (u64V st) 2 ++ intsB ss ++ putB (u64V yn) 2) := ⟨_, rfl⟩
          obtain ⟨od, hod⟩ : ∃ o, o = (false || !roomB cn 2 || cs.any CW.odd || !roomB mn 2 || ms.any MW.odd || !roomB st 2 || intsO ss || !roomB yn 2) := ⟨_, rfl⟩
          rw [← he, ← hod] at HW207
          have HEE := Lib.hid he
          have HOD := Lib.hid hod
          clear he hod ci
          go_loopg [127] yn (fun gn i wr => ∃ j : Nat, j ≤ yn ∧ gn = yn - j ∧ i = .int .i64 j ∧ Hid (RWr (g + 1) wr g (e ++ (ys.take j).flatMap (fun s => textB s 1)) (od || (ys.take j).any (fun s => !roomB s.length 1))) ∧ Hid (Keep1 g w wr) ∧ Hid (wr.heap[w.heap.size]? = some (.cells #[.slice ca cn cc, .slice ma mn mc, .int .i64 st, .slice sa sn sc, .slice ya yn yc, .slice xa xn xc, .slice ka n kc, .int .i64 main] 30)))
          case atStart => exact ⟨0, by omega, by omega, by go_num, Lib.hid (by simpa using HW207.out), HK207, HI207⟩
          case round =>
            obtain ⟨j, hj, rfl, rfl, HWr, HKr, HIr⟩ := hrel
            have HBr := Lib.hid (HKr.out.below HB.out (Nat.le_refl _) hg0)
            by_cases hlt : j < yn
            · have hdummy : True := trivial
              obtain ⟨b, off, v, rfl, hbl, hv, qq⟩ := (HX.out.y.below HBr.out).get1 j hlt
              replace hv : ys[j]? = some v := hv
              have HFT := Lib.hid (show e ++ (ys.take (j + 1)).flatMap (fun s => textB s 1) = e ++ (ys.take j).flatMap (fun s => textB s 1) ++ (fun s => textB s 1) v by rw [flat_take (fun s => textB s 1) ys j v hv, List.append_assoc])
              have HAT := Lib.hid (show (od || (ys.take (j + 1)).any (fun s => !roomB s.length 1)) = (od || (ys.take j).any (fun s => !roomB s.length 1) || (fun s => !roomB s.length 1) v) by rw [any_take (fun s => !roomB s.length 1) ys j v hv, Bool.or_assoc])
              have HLEN := Lib.hid (show (e ++ (ys.take j).flatMap (fun s => textB s 1)).length + ((fun s => textB s 1) v).length + 16 ≤ 1048576 by have hlen := HLENX.out; have h1 := flat_len_take (fun s => textB s 1) ys j v hv; rw [List.length_append, HEE.out]; simp only [List.length_append, List.length_cons, List.length_nil, putB_length, textB_len, magicB, rowB_len] at hlen h1 ⊢; omega)
              unfold encS at qq
              clear hv
              have HW227 := HWr
              have HK227 := HKr
              have HI227 := HIr
              clear HWr HKr HIr HBr
              generalize wr = W227 at *
              have HCALL := Lib.hid (rtext1 W227 g _ _ HW227.out 1 (by omega) v (by have h0 := HLEN.out; simp only [textB_len] at h0; omega))
              go_wp2_with fail
              refine HCALL.out.mono ?_
              rintro e' W228 ⟨rfl, hw, hk⟩
              have HW228 := Lib.hid hw
              have HK228 := Lib.hid (HK227.out.trans hk)
              have HI228 := Lib.hid (hk.blk HI227.out hgi)
              clear hw hk HCALL HW227 HK227 HI227
              go_wp2_with fail
              go_roundg (yn - (j + 1))
              case measure => omega
              case rel => exact ⟨j + 1, by omega, rfl, by go_num, Lib.hid (by rw [HFT.out, HAT.out]; exact HW228.out), HK228, HI228⟩
            · obtain rfl : yn = j := by omega
              have HLL := Lib.hid (show ys.take yn = ys by rw [List.take_of_length_le (by rw [HLY.out]; exact Nat.le_refl _)])
              rw [HLL.out] at HWr
              generalize wr = W307 at *
              have HW307 := HWr
              have HK307 := HKr
              have HI307 := HIr
              clear HWr HKr HIr HBr HLL
              rw [HEE.out, HOD.out] at HW307
              clear HEE HOD
              have ci := row_cell HI307.out 5 rfl
              have HCALL := Lib.hid (rput1 W307 g _ _ HW307.out 2 (by omega) xn (len_room hxn) (by have hlen := HLENX.out; simp only [List.length_append, List.length_cons, List.length_nil, putB_length, textB_len, magicB, rowB_len] at hlen ⊢; omega))
              go_wp2_with fail
              refine HCALL.out.mono ?_
              rintro e' W308 ⟨rfl, hw, hk⟩
              have HW308 := Lib.hid hw
              have HK308 := Lib.hid (HK307.out.trans hk)
              have HI308 := Lib.hid (hk.blk HI307.out hgi)
              clear hw hk HCALL HW307 HK307 HI307
              clear ci
              have ci := row_cell HI308.out 5 rfl
              go_wp2_with fail
              obtain ⟨e, he⟩ : ∃ e, e = (magicB ++ putB (u64V cn) 2 ++ cs.flatMap CW.bytes ++ putB (u64V mn) 2 ++ ms.flatMap MW.bytes ++ putB (u64V st) 2 ++ intsB ss ++ putB (u64V yn) 2 ++ ys.flatMap (fun s => textB s 1) ++ putB (u64V xn) 2) := ⟨_, rfl⟩
              obtain ⟨od, hod⟩ : ∃ o, o = (false || !roomB cn 2 || cs.any CW.odd || !roomB mn 2 || ms.any MW.odd || !roomB st 2 || intsO ss || !roomB yn 2 || ys.any (fun s => !roomB s.length 1) || !roomB xn 2) := ⟨_, rfl⟩
              rw [← he, ← hod] at HW308
              have HEE := Lib.hid he
              have HOD := Lib.hid hod
              clear he hod ci
              go_loopg [143] xn (fun gn i wr => ∃ j : Nat, j ≤ xn ∧ gn = xn - j ∧ i = .int .i64 j ∧ Hid (RWr (g + 1) wr g (e ++ (xs.take j).flatMap (fun s => textB s 2)) (od || (xs.take j).any (fun s => !roomB s.length 2))) ∧ Hid (Keep1 g w wr) ∧ Hid (wr.heap[w.heap.size]? = some (.cells #[.slice ca cn cc, .slice ma mn mc, .int .i64 st, .slice sa sn sc, .slice ya yn yc, .slice xa xn xc, .slice ka n kc, .int .i64 main] 30)))
              case atStart => exact ⟨0, by omega, by omega, by go_num, Lib.hid (by simpa using HW308.out), HK308, HI308⟩
              case round =>
                obtain ⟨j, hj, rfl, rfl, HWr, HKr, HIr⟩ := hrel
                have HBr := Lib.hid (HKr.out.below HB.out (Nat.le_refl _) hg0)
                by_cases hlt : j < xn
                · have hdummy : True := trivial
                  obtain ⟨b, off, v, rfl, hbl, hv, qq⟩ := (HX.out.tx.below HBr.out).get1 j hlt
                  replace hv : xs[j]? = some v := hv
                  have HFT := Lib.hid (show e ++ (xs.take (j + 1)).flatMap (fun s => textB s 2) = e ++ (xs.take j).flatMap (fun s => textB s 2) ++ (fun s => textB s 2) v by rw [flat_take (fun s => textB s 2) xs j v hv, List.append_assoc])
                  have HAT := Lib.hid (show (od || (xs.take (j + 1)).any (fun s => !roomB s.length 2)) = (od || (xs.take j).any (fun s => !roomB s.length 2) || (fun s => !roomB s.length 2) v) by rw [any_take (fun s => !roomB s.length 2) xs j v hv, Bool.or_assoc])
                  have HLEN := Lib.hid (show (e ++ (xs.take j).flatMap (fun s => textB s 2)).length + ((fun s => textB s 2) v).length + 16 ≤ 1048576 by have hlen := HLENX.out; have h1 := flat_len_take (fun s => textB s 2) xs j v hv; rw [List.length_append, HEE.out]; simp only [List.length_append, List.length_cons, List.length_nil, putB_length, textB_len, magicB, rowB_len] at hlen h1 ⊢; omega)
                  unfold encS at qq
                  clear hv
                  have HW328 := HWr
                  have HK328 := HKr
                  have HI328 := HIr
                  clear HWr HKr HIr HBr
                  generalize wr = W328 at *
                  have HCALL := Lib.hid (rtext1 W328 g _ _ HW328.out 2 (by omega) v (by have h0 := HLEN.out; simp only [textB_len] at h0; omega))
                  go_wp2_with fail
                  refine HCALL.out.mono ?_
                  rintro e' W329 ⟨rfl, hw, hk⟩
                  have HW329 := Lib.hid hw
                  have HK329 := Lib.hid (HK328.out.trans hk)
                  have HI329 := Lib.hid (hk.blk HI328.out hgi)
                  clear hw hk HCALL HW328 HK328 HI328
                  go_wp2_with fail
                  go_roundg (xn - (j + 1))
                  case measure => omega
                  case rel => exact ⟨j + 1, by omega, rfl, by go_num, Lib.hid (by rw [HFT.out, HAT.out]; exact HW329.out), HK329, HI329⟩
                · obtain rfl : xn = j := by omega
                  have HLL := Lib.hid (show xs.take xn = xs by rw [List.take_of_length_le (by rw [HLX.out]; exact Nat.le_refl _)])
                  rw [HLL.out] at HWr
                  generalize wr = W408 at *
                  have HW408 := HWr
                  have HK408 := HKr
                  have HI408 := HIr
                  clear HWr HKr HIr HBr HLL
                  rw [HEE.out, HOD.out] at HW408
                  clear HEE HOD
                  have ci := row_cell HI408.out 7 rfl
                  have HCALL := Lib.hid (rput1 W408 g _ _ HW408.out 2 (by omega) main HR.out.main (by have hlen := HLENX.out; simp only [List.length_append, List.length_cons, List.length_nil, putB_length, textB_len, magicB, rowB_len] at hlen ⊢; omega))
                  go_wp2_with fail
                  refine HCALL.out.mono ?_
                  rintro e' W409 ⟨rfl, hw, hk⟩
                  have HW409 := Lib.hid hw
                  have HK409 := Lib.hid (HK408.out.trans hk)
                  have HI409 := Lib.hid (hk.blk HI408.out hgi)
                  clear hw hk HCALL HW408 HK408 HI408
                  clear ci
                  have ci := row_cell HI409.out 6 rfl
                  go_wp2_with fail
                  obtain ⟨e, he⟩ : ∃ e, e = (magicB ++ putB (u64V cn) 2 ++ cs.flatMap CW.bytes ++ putB (u64V mn) 2 ++ ms.flatMap MW.bytes ++ putB (u64V st) 2 ++ intsB ss ++ putB (u64V yn) 2 ++ ys.flatMap (fun s => textB s 1) ++ putB (u64V xn) 2 ++ xs.flatMap (fun s => textB s 2) ++ putB (u64V main) 2) := ⟨_, rfl⟩
                  obtain ⟨od, hod⟩ : ∃ o, o = (false || !roomB cn 2 || cs.any CW.odd || !roomB mn 2 || ms.any MW.odd || !roomB st 2 || intsO ss || !roomB yn 2 || ys.any (fun s => !roomB s.length 1) || !roomB xn 2 || xs.any (fun s => !roomB s.length 2) || !roomB main 2) := ⟨_, rfl⟩
                  rw [← he, ← hod] at HW409
                  have HEE := Lib.hid he
                  have HOD := Lib.hid hod
                  clear he hod ci
                  have HLE9 := Lib.hid (show e.length + sizeK ks ≤ 1000000 by have hlen := HLENX.out; rw [HEE.out]; simp only [List.length_append, List.length_cons, List.length_nil, putB_length, textB_len, magicB, rowB_len] at hlen ⊢; omega)
                  have hpos0 : pos ≤ 1000000 := by have := HPOS.out; omega
                  go_loopg [159, 17] n (fun gn i v wr => ∃ j T : Nat, j ≤ n ∧ gn = n - j ∧ i = .int .i64 j ∧ v = .int .i64 T ∧ T ≤ 1000000 ∧ Hid (T = pos + lensL ((F.map (·.data)).take j)) ∧ Hid (RWr (g + 1) wr g (e ++ headsB pos ((ks.zip (F.map (·.data))).take j)) (od || headsO pos ((ks.zip (F.map (·.data))).take j))) ∧ Hid (Keep1 g w wr) ∧ Hid (wr.heap[w.heap.size]? = some (.cells #[.slice ca cn cc, .slice ma mn mc, .int .i64 st, .slice sa sn sc, .slice ya yn yc, .slice xa xn xc, .slice ka n kc, .int .i64 main] 30)))
                  case atStart => exact ⟨0, pos, by omega, by omega, by go_num, rfl, hpos0, Lib.hid (by simp [lensL]), Lib.hid (by simpa [headsB, headsO] using HW409.out), HK409, HI409⟩
                  case round =>
                    obtain ⟨j, T, hj, rfl, rfl, rfl, hT, HT, HWr, HKr, HIr⟩ := hrel
                    have HBr := Lib.hid (HKr.out.below HB.out (Nat.le_refl _) hg0)
                    by_cases hlt : j < n
                    · have hdummy : True := trivial
                      obtain ⟨b, off, k, rfl, hbl, hk0, q⟩ := (HX.out.k.below HBr.out).get1 j hlt
                      replace hk0 : ks[j]? = some k := hk0
                      obtain ⟨b2, off2, f, rfl, hb2l, hfj, cf⟩ := Sl.get1 HF.out j hlt
                      have hkr := (HX.out.kr k (List.mem_of_getElem? hk0)).t
                      have hkq := HR.out.k k (List.mem_of_getElem? hk0)
                      have hff := HFF.out f (List.mem_of_getElem? hfj)
                      have hlt3 : k.traps.all leastT = true := List.all_eq_true.1 HLE.out.2.2 k (List.mem_of_getElem? hk0)
                      have hdj : (F.map (·.data))[j]? = some f.data := by rw [List.getElem?_map, hfj]; rfl
                      have hz : (ks.zip (F.map (·.data)))[j]? = some (k, f.data) := by rw [List.getElem?_zip_eq_some]; exact ⟨hk0, hdj⟩
                      have hzm : ((ks.zip (F.map (·.data))).take j).map (·.2) = (F.map (·.data)).take j := by
                        rw [List.map_take, List.map_snd_zip]
                        rw [List.length_map, HLn.out, HLK.out]
                        exact Nat.le_refl _
                      have hzk : ((ks.zip (F.map (·.data))).take j).map (·.1) = ks.take j := by
                        rw [List.map_take, List.map_fst_zip]
                        rw [List.length_map, HLn.out, HLK.out]
                        exact Nat.le_refl _
                      have HHT := Lib.hid (show e ++ headsB pos ((ks.zip (F.map (·.data))).take (j + 1)) = e ++ headsB pos ((ks.zip (F.map (·.data))).take j) ++ codeB T k f.data by rw [take_snocX hz, headsB_snoc, hzm, HT.out, List.append_assoc]; norm_cast)
                      have HOT := Lib.hid (show (od || headsO pos ((ks.zip (F.map (·.data))).take (j + 1))) = (od || headsO pos ((ks.zip (F.map (·.data))).take j) || codeO T k f.data) by rw [take_snocX hz, headsO_snoc, hzm, HT.out, Bool.or_assoc]; norm_cast)
                      have hdl : f.data.length = f.dn := hff.1.1
                      have HDT := Lib.hid (show lensL ((F.map (·.data)).take (j + 1)) = lensL ((F.map (·.data)).take j) + f.dn by rw [take_snocX hdj, lensL_snoc, hdl])
                      have hle1 := lensL_take (F.map (·.data)) (j + 1)
                      have hle2 := sizeK_take ks (j + 1)
                      have hlj := hkr.1
                      have hT2 : T + f.dn ≤ 1000000 := by rw [HT.out]; rw [HDT.out] at hle1; have := HPOS.out; omega
                      rw [take_snocX hk0, sizeK_snoc, hlj] at hle2
                      have HEL := Lib.hid (show (e ++ headsB pos ((ks.zip (F.map (·.data))).take j)).length + (14 + 8 * k.tn) ≤ 1000000 by
                        rw [List.length_append, headsB_len, hzk]; have := HLE9.out; omega)
                      obtain ⟨fa, fn, fc, fd⟩ := f
                      obtain ⟨x0, x1, x2, x3, x4, ta, tn, tc, ts⟩ := k
                      obtain ⟨_, _, r2, r3, r4, r5⟩ := hkq
                      simp only at hdl hT2 HEL HHT HOT HDT r2 r3 r4 r5 hkr hlt3 hlj
                      unfold BV.enc at cf
                      simp only at cf
                      have hb2g : b2 ≠ g := by omega
                      have HTS := Lib.hid (hkr.below HB.out)
                      have HTOF := Lib.hid (Off1.oldS hkr hg0)
                      have HTN := Lib.hid hlj
                      have HL3 := Lib.hid hlt3
                      have HCF := Lib.hid (fun (W : World) (h : Keep1 g w W) => (show W.cell? ⟨b2, off2 + j, none⟩ = some (.slice fa fn fc) by rw [(h.below HB.out (Nat.le_refl _) hg0).cell hb2l]; exact cf))
                      have p0 := q 0 (by omega)
                      have p1 := q 1 (by omega)
                      have p2 := q 2 (by omega)
                      have p3 := q 3 (by omega)
                      have p4 := q 4 (by omega)
                      have p5 := q 5 (by omega)
                      simp only [KW.vals, List.getElem?_cons_zero, List.getElem?_cons_succ, Nat.add_zero] at p0 p1 p2 p3 p4 p5
                      clear q hk0 hkr hle1 hle2 hlj hff hfj hdj hz hzm hzk cf hlt3
                      generalize e ++ headsB pos ((ks.zip (F.map (·.data))).take j) = ej at *
                      generalize (od || headsO pos ((ks.zip (F.map (·.data))).take j)) = oj at *
                      go_upto_region 45 with fail
                      have hal : Below wr.heap.size wr (wr.alloc (.cells #[.int .i64 x0, .int .i64 x1, .int .i64 x2, .int .i64 x3, .int .i64 x4, .slice ta tn tc] 62)) := (Below.refl _ _).alloc (Nat.le_refl _) _
                      have HW429 := Lib.hid (HWr.out.below hal)
                      have HK429 := Lib.hid (HKr.out.trans (Keep1.of hal))
                      have HI429 := Lib.hid (row_below HIr.out hal)
                      have HC429 := Lib.hid (heap_alloc_last wr (.cells #[.int .i64 x0, .int .i64 x1, .int .i64 x2, .int .i64 x3, .int .i64 x4, .slice ta tn tc] 62))
                      have hcg : wr.heap.size ≠ g := Ne.symm (Nat.ne_of_lt HWr.out.lt)
                      clear hal HWr HKr HIr HBr p0 p1 p2 p3 p4 p5
                      generalize wr.alloc (.cells #[.int .i64 x0, .int .i64 x1, .int .i64 x2, .int .i64 x3, .int .i64 x4, .slice ta tn tc] 62) = W429 at *
                      generalize wr.heap.size = gc at *
                      by_cases hd0 : fn = 0
                      · subst hd0
                        have HHE := Lib.hid (show hereI T fd = 0 by unfold hereI; rw [if_pos hdl])
                        have HDL2 := Lib.hid (show (fd.length : Int) = 0 by rw [hdl]; rfl)
                        clear hdl
                        have cfx := HCF.out W429 HK429.out
                        have HCALL := Lib.hid (rput1 W429 g _ _ HW429.out 4 (by omega) 0 (by unfold IntR; omega) (by have h0 := HEL.out; (try simp only [List.length_append, putB_length] at h0 ⊢); omega))
                        go_wp2_with fail
                        refine HCALL.out.mono ?_
                        rintro e' W430 ⟨rfl, hw, hk⟩
                        have HW430 := Lib.hid hw
                        have HK430 := Lib.hid (HK429.out.trans hk)
                        have HI430 := Lib.hid (hk.blk HI429.out hgi)
                        have HC430 := Lib.hid (hk.blk HC429.out hcg)
                        clear hw hk HCALL HW429 HK429 HI429 HC429
                        clear cfx
                        have cfx := HCF.out W430 HK430.out
                        have HCALL := Lib.hid (rput1 W430 g _ _ HW430.out 2 (by omega) 0 (by unfold IntR; omega) (by have h0 := HEL.out; (try simp only [List.length_append, putB_length] at h0 ⊢); omega))
                        go_wp2_with fail
                        refine HCALL.out.mono ?_
                        rintro e' W431 ⟨rfl, hw, hk⟩
                        have HW431 := Lib.hid hw
                        have HK431 := Lib.hid (HK430.out.trans hk)
                        have HI431 := Lib.hid (hk.blk HI430.out hgi)
                        have HC431 := Lib.hid (hk.blk HC430.out hcg)
                        clear hw hk HCALL HW430 HK430 HI430 HC430
                        clear cfx
                        have cq := row_cell HC431.out 2 rfl
                        have HCALL := Lib.hid (rput1 W431 g _ _ HW431.out 2 (by omega) x2 r2 (by have h0 := HEL.out; (try simp only [List.length_append, putB_length] at h0 ⊢); omega))
                        go_wp2_with fail
                        refine HCALL.out.mono ?_
                        rintro e' W432 ⟨rfl, hw, hk⟩
                        have HW432 := Lib.hid hw
                        have HK432 := Lib.hid (HK431.out.trans hk)
                        have HI432 := Lib.hid (hk.blk HI431.out hgi)
                        have HC432 := Lib.hid (hk.blk HC431.out hcg)
                        clear hw hk HCALL HW431 HK431 HI431 HC431
                        clear cq
                        have cq := row_cell HC432.out 3 rfl
                        have HCALL := Lib.hid (rput1 W432 g _ _ HW432.out 2 (by omega) x3 r3 (by have h0 := HEL.out; (try simp only [List.length_append, putB_length] at h0 ⊢); omega))
                        go_wp2_with fail
                        refine HCALL.out.mono ?_
                        rintro e' W433 ⟨rfl, hw, hk⟩
                        have HW433 := Lib.hid hw
                        have HK433 := Lib.hid (HK432.out.trans hk)
                        have HI433 := Lib.hid (hk.blk HI432.out hgi)
                        have HC433 := Lib.hid (hk.blk HC432.out hcg)
                        clear hw hk HCALL HW432 HK432 HI432 HC432
                        clear cq
                        have cq := row_cell HC433.out 4 rfl
                        have HCALL := Lib.hid (rput1 W433 g _ _ HW433.out 2 (by omega) x4 r4 (by have h0 := HEL.out; (try simp only [List.length_append, putB_length] at h0 ⊢); omega))
                        go_wp2_with fail
                        refine HCALL.out.mono ?_
                        rintro e' W434 ⟨rfl, hw, hk⟩
                        have HW434 := Lib.hid hw
                        have HK434 := Lib.hid (HK433.out.trans hk)
                        have HI434 := Lib.hid (hk.blk HI433.out hgi)
                        have HC434 := Lib.hid (hk.blk HC433.out hcg)
                        clear hw hk HCALL HW433 HK433 HI433 HC433
                        clear cq
                        have cq := row_cell HC434.out 5 rfl
                        have HCALL := Lib.hid (rput1 W434 g _ _ HW434.out 2 (by omega) tn (by have := HEL.out; unfold IntR; omega) (by have h0 := HEL.out; (try simp only [List.length_append, putB_length] at h0 ⊢); omega))
                        go_wp2_with fail
                        refine HCALL.out.mono ?_
                        rintro e' W435 ⟨rfl, hw, hk⟩
                        have HW435 := Lib.hid hw
                        have HK435 := Lib.hid (HK434.out.trans hk)
                        have HI435 := Lib.hid (hk.blk HI434.out hgi)
                        have HC435 := Lib.hid (hk.blk HC434.out hcg)
                        clear hw hk HCALL HW434 HK434 HI434 HC434
                        clear cq
                        have cq := row_cell HC435.out 5 rfl
                        go_wp2_with fail
                        clear cq
                        obtain ⟨et, het⟩ : ∃ e, e = (ej ++ putB (u64V 0) 4 ++ putB (u64V 0) 2 ++ putB (u64V x2) 2 ++ putB (u64V x3) 2 ++ putB (u64V x4) 2 ++ putB (u64V tn) 2) := ⟨_, rfl⟩
                        obtain ⟨ot, hot⟩ : ∃ o, o = (oj || !roomB 0 4 || !roomB 0 2 || !roomB x2 2 || !roomB x3 2 || !roomB x4 2 || !roomB tn 2) := ⟨_, rfl⟩
                        rw [← het, ← hot] at HW435
                        have HET := Lib.hid het
                        have HOTT := Lib.hid hot
                        clear het hot
                        have HETL := Lib.hid (show et.length + 8 * tn ≤ 1000000 by rw [HET.out]; have h0 := HEL.out; simp only [List.length_append, putB_length]; omega)
                        have htn1 : tn ≤ 1000000 := by have := HETL.out; omega
                        go_loopg [201] tn (fun gn i wr => ∃ m : Nat, m ≤ tn ∧ gn = tn - m ∧ i = .int .i64 m ∧ Hid (RWr (g + 1) wr g (et ++ (ts.take m).flatMap TW.bytes) (ot || (ts.take m).any TW.odd)) ∧ Hid (Keep1 g w wr) ∧ Hid (wr.heap[w.heap.size]? = some (.cells #[.slice ca cn cc, .slice ma mn mc, .int .i64 st, .slice sa sn sc, .slice ya yn yc, .slice xa xn xc, .slice (some ⟨b, off, none⟩) n kc, .int .i64 main] 30)) ∧ Hid (wr.heap[gc]? = some (.cells #[.int .i64 x0, .int .i64 x1, .int .i64 x2, .int .i64 x3, .int .i64 x4, .slice ta tn tc] 62)))
                        case atStart => exact ⟨0, by omega, by omega, by go_num, Lib.hid (by simpa using HW435.out), HK435, HI435, HC435⟩
                        case round =>
                          obtain ⟨m, hm, rfl, rfl, HWr, HKr, HIr, HCr⟩ := hrel
                          have HBr := Lib.hid (HKr.out.below HB.out (Nat.le_refl _) hg0)
                          by_cases hlm : m < tn
                          · have hdummy2 : True := trivial
                            obtain ⟨b3, off3, t, rfl, hbl3, ht, q⟩ := (HTS.out.keep1 HKr.out HTOF.out).get1 m hlm
                            have HFT := Lib.hid (show et ++ (ts.take (m + 1)).flatMap TW.bytes = et ++ (ts.take m).flatMap TW.bytes ++ t.bytes by rw [flat_take TW.bytes ts m t ht, List.append_assoc])
                            have HAT := Lib.hid (show (ot || (ts.take (m + 1)).any TW.odd) = (ot || (ts.take m).any TW.odd || t.odd) by rw [any_take TW.odd ts m t ht, Bool.or_assoc])
                            have htr := r5 t (List.mem_of_getElem? ht)
                            have htl : t.cls ≤ 65534 := by have h := List.all_eq_true.1 HL3.out t (List.mem_of_getElem? ht); unfold leastT at h; simp at h; exact h
                            have HTL2 := Lib.hid (show (et ++ (ts.take m).flatMap TW.bytes).length + 8 ≤ 1000008 by
                              have h1 := trapsB_len (ts.take m)
                              rw [rowB_len, List.length_take] at h1
                              rw [List.length_append]
                              have h2 := HETL.out
                              have h3 := HTN.out
                              omega)
                            obtain ⟨y0, y1, y2, y3⟩ := t
                            obtain ⟨u0, u1, u2, u3⟩ := htr
                            simp only at u0 u1 u2 u3 htl
                            have hlo3 : -9223372036854775808 ≤ y3 := u3.1
                            have p0 := q 0 (by omega)
                            have p1 := q 1 (by omega)
                            have p2 := q 2 (by omega)
                            have p3 := q 3 (by omega)
                            simp only [TW.vals, List.getElem?_cons_zero, List.getElem?_cons_succ, Nat.add_zero] at p0 p1 p2 p3
                            clear q ht
                            generalize et ++ (ts.take m).flatMap TW.bytes = em at *
                            generalize (ot || (ts.take m).any TW.odd) = om at *
                            go_upto_region 57 with fail
                            have hal : Below wr.heap.size wr (wr.alloc (.cells #[.int .i64 y0, .int .i64 y1, .int .i64 y2, .int .i64 y3] 71)) := (Below.refl _ _).alloc (Nat.le_refl _) _
                            have HW455 := Lib.hid (HWr.out.below hal)
                            have HK455 := Lib.hid (HKr.out.trans (Keep1.of hal))
                            have HI455 := Lib.hid (row_below HIr.out hal)
                            have HC455 := Lib.hid (row_below HCr.out hal)
                            have HT455 := Lib.hid (heap_alloc_last wr (.cells #[.int .i64 y0, .int .i64 y1, .int .i64 y2, .int .i64 y3] 71))
                            have htg : wr.heap.size ≠ g := Ne.symm (Nat.ne_of_lt HWr.out.lt)
                            clear hal HWr HKr HIr HCr HBr p0 p1 p2 p3
                            generalize wr.alloc (.cells #[.int .i64 y0, .int .i64 y1, .int .i64 y2, .int .i64 y3] 71) = W455 at *
                            generalize wr.heap.size = gt at *
                            have cq := row_cell HT455.out 0 rfl
                            have HCALL := Lib.hid (rput1 W455 g _ _ HW455.out 2 (by omega) y0 u0 (by have h0 := HTL2.out; (try simp only [List.length_append, putB_length] at h0 ⊢); omega))
                            go_wp2_with fail
                            refine HCALL.out.mono ?_
                            rintro e' W456 ⟨rfl, hw, hk⟩
                            have HW456 := Lib.hid hw
                            have HK456 := Lib.hid (HK455.out.trans hk)
                            have HI456 := Lib.hid (hk.blk HI455.out hgi)
                            have HC456 := Lib.hid (hk.blk HC455.out hcg)
                            have HT456 := Lib.hid (hk.blk HT455.out htg)
                            clear hw hk HCALL HW455 HK455 HI455 HC455 HT455
                            clear cq
                            have cq := row_cell HT456.out 1 rfl
                            have HCALL := Lib.hid (rput1 W456 g _ _ HW456.out 2 (by omega) y1 u1 (by have h0 := HTL2.out; (try simp only [List.length_append, putB_length] at h0 ⊢); omega))
                            go_wp2_with fail
                            refine HCALL.out.mono ?_
                            rintro e' W457 ⟨rfl, hw, hk⟩
                            have HW457 := Lib.hid hw
                            have HK457 := Lib.hid (HK456.out.trans hk)
                            have HI457 := Lib.hid (hk.blk HI456.out hgi)
                            have HC457 := Lib.hid (hk.blk HC456.out hcg)
                            have HT457 := Lib.hid (hk.blk HT456.out htg)
                            clear hw hk HCALL HW456 HK456 HI456 HC456 HT456
                            clear cq
                            have cq := row_cell HT457.out 2 rfl
                            have HCALL := Lib.hid (rput1 W457 g _ _ HW457.out 2 (by omega) y2 u2 (by have h0 := HTL2.out; (try simp only [List.length_append, putB_length] at h0 ⊢); omega))
                            go_wp2_with fail
                            refine HCALL.out.mono ?_
                            rintro e' W458 ⟨rfl, hw, hk⟩
                            have HW458 := Lib.hid hw
                            have HK458 := Lib.hid (HK457.out.trans hk)
                            have HI458 := Lib.hid (hk.blk HI457.out hgi)
                            have HC458 := Lib.hid (hk.blk HC457.out hcg)
                            have HT458 := Lib.hid (hk.blk HT457.out htg)
                            clear hw hk HCALL HW457 HK457 HI457 HC457 HT457
                            clear cq
                            have cq := row_cell HT458.out 3 rfl
                            have HCALL := Lib.hid (rput1 W458 g _ _ HW458.out 2 (by omega) (y3 + 1) (sup_inc u3 htl) (by have h0 := HTL2.out; (try simp only [List.length_append, putB_length] at h0 ⊢); omega))
                            go_wp2_with fail
                            refine HCALL.out.mono ?_
                            rintro e' W459 ⟨rfl, hw, hk⟩
                            have HW459 := Lib.hid hw
                            have HK459 := Lib.hid (HK458.out.trans hk)
                            have HI459 := Lib.hid (hk.blk HI458.out hgi)
                            have HC459 := Lib.hid (hk.blk HC458.out hcg)
                            have HT459 := Lib.hid (hk.blk HT458.out htg)
                            clear hw hk HCALL HW458 HK458 HI458 HC458 HT458
                            clear cq
                            go_wp2_with fail
                            go_roundg (tn - (m + 1))
                            case measure => omega
                            case rel =>
                              refine ⟨m + 1, by omega, rfl, by go_num, Lib.hid ?_, HK459, HI459, HC459⟩
                              rw [HFT.out, HAT.out]
                              have hfin := HW459.out
                              simp only [TW.bytes, TW.odd, puts3, bad3, nexts1, badN1]
                              simpa only [List.append_assoc, Bool.or_assoc] using hfin
                          · obtain rfl : tn = m := by omega
                            have HLL := Lib.hid (show ts.take tn = ts by rw [List.take_of_length_le (by rw [HTN.out]; exact Nat.le_refl _)])
                            rw [HLL.out] at HWr
                            have cfx := HCF.out wr HKr.out
                            go_wp2_with fail
                            go_roundg (n - (j + 1))
                            case measure => omega
                            case rel =>
                              refine ⟨j + 1, T + 0, by omega, rfl, by go_num, by go_num, hT2, Lib.hid (by rw [HDT.out, HT.out]; omega), Lib.hid ?_, HKr, HIr⟩
                              rw [HHT.out, HOT.out]
                              have hfin := HWr.out
                              rw [HET.out, HOTT.out] at hfin
                              simp only [codeB, codeO, rowB, rowO, HHE.out, HDL2.out, HTN.out, puts4, bad4]
                              simpa only [List.append_assoc, Bool.or_assoc] using hfin
                      · have ez : ((fn : Int) == 0) = false := by simp; omega
                        have HHE := Lib.hid (show hereI T fd = T by unfold hereI; rw [if_neg (by omega)])
                        have HDL2 := Lib.hid (show (fd.length : Int) = (fn : Int) by rw [hdl])
                        clear hdl hd0
                        have cfx := HCF.out W429 HK429.out
                        have HCALL := Lib.hid (rput1 W429 g _ _ HW429.out 4 (by omega) T (by unfold IntR; omega) (by have h0 := HEL.out; (try simp only [List.length_append, putB_length] at h0 ⊢); omega))
                        go_wp2_with fail
                        refine HCALL.out.mono ?_
                        rintro e' W430 ⟨rfl, hw, hk⟩
                        have HW430 := Lib.hid hw
                        have HK430 := Lib.hid (HK429.out.trans hk)
                        have HI430 := Lib.hid (hk.blk HI429.out hgi)
                        have HC430 := Lib.hid (hk.blk HC429.out hcg)
                        clear hw hk HCALL HW429 HK429 HI429 HC429
                        clear cfx
                        have cfx := HCF.out W430 HK430.out
                        have HCALL := Lib.hid (rput1 W430 g _ _ HW430.out 2 (by omega) fn (by unfold IntR; omega) (by have h0 := HEL.out; (try simp only [List.length_append, putB_length] at h0 ⊢); omega))
                        go_wp2_with fail
                        refine HCALL.out.mono ?_
                        rintro e' W431 ⟨rfl, hw, hk⟩
                        have HW431 := Lib.hid hw
                        have HK431 := Lib.hid (HK430.out.trans hk)
                        have HI431 := Lib.hid (hk.blk HI430.out hgi)
                        have HC431 := Lib.hid (hk.blk HC430.out hcg)
                        clear hw hk HCALL HW430 HK430 HI430 HC430
                        clear cfx
                        have cq := row_cell HC431.out 2 rfl
                        have HCALL := Lib.hid (rput1 W431 g _ _ HW431.out 2 (by omega) x2 r2 (by have h0 := HEL.out; (try simp only [List.length_append, putB_length] at h0 ⊢); omega))
                        go_wp2_with fail
                        refine HCALL.out.mono ?_
                        rintro e' W432 ⟨rfl, hw, hk⟩
                        have HW432 := Lib.hid hw
                        have HK432 := Lib.hid (HK431.out.trans hk)
                        have HI432 := Lib.hid (hk.blk HI431.out hgi)
                        have HC432 := Lib.hid (hk.blk HC431.out hcg)
                        clear hw hk HCALL HW431 HK431 HI431 HC431
                        clear cq
                        have cq := row_cell HC432.out 3 rfl
                        have HCALL := Lib.hid (rput1 W432 g _ _ HW432.out 2 (by omega) x3 r3 (by have h0 := HEL.out; (try simp only [List.length_append, putB_length] at h0 ⊢); omega))
                        go_wp2_with fail
                        refine HCALL.out.mono ?_
                        rintro e' W433 ⟨rfl, hw, hk⟩
                        have HW433 := Lib.hid hw
                        have HK433 := Lib.hid (HK432.out.trans hk)
                        have HI433 := Lib.hid (hk.blk HI432.out hgi)
                        have HC433 := Lib.hid (hk.blk HC432.out hcg)
                        clear hw hk HCALL HW432 HK432 HI432 HC432
                        clear cq
                        have cq := row_cell HC433.out 4 rfl
                        have HCALL := Lib.hid (rput1 W433 g _ _ HW433.out 2 (by omega) x4 r4 (by have h0 := HEL.out; (try simp only [List.length_append, putB_length] at h0 ⊢); omega))
                        go_wp2_with fail
                        refine HCALL.out.mono ?_
                        rintro e' W434 ⟨rfl, hw, hk⟩
                        have HW434 := Lib.hid hw
                        have HK434 := Lib.hid (HK433.out.trans hk)
                        have HI434 := Lib.hid (hk.blk HI433.out hgi)
                        have HC434 := Lib.hid (hk.blk HC433.out hcg)
                        clear hw hk HCALL HW433 HK433 HI433 HC433
                        clear cq
                        have cq := row_cell HC434.out 5 rfl
                        have HCALL := Lib.hid (rput1 W434 g _ _ HW434.out 2 (by omega) tn (by have := HEL.out; unfold IntR; omega) (by have h0 := HEL.out; (try simp only [List.length_append, putB_length] at h0 ⊢); omega))
                        go_wp2_with fail
                        refine HCALL.out.mono ?_
                        rintro e' W435 ⟨rfl, hw, hk⟩
                        have HW435 := Lib.hid hw
                        have HK435 := Lib.hid (HK434.out.trans hk)
                        have HI435 := Lib.hid (hk.blk HI434.out hgi)
                        have HC435 := Lib.hid (hk.blk HC434.out hcg)
                        clear hw hk HCALL HW434 HK434 HI434 HC434
                        clear cq
                        have cq := row_cell HC435.out 5 rfl
                        go_wp2_with fail
                        clear cq
                        obtain ⟨et, het⟩ : ∃ e, e = (ej ++ putB (u64V T) 4 ++ putB (u64V fn) 2 ++ putB (u64V x2) 2 ++ putB (u64V x3) 2 ++ putB (u64V x4) 2 ++ putB (u64V tn) 2) := ⟨_, rfl⟩
                        obtain ⟨ot, hot⟩ : ∃ o, o = (oj || !roomB T 4 || !roomB fn 2 || !roomB x2 2 || !roomB x3 2 || !roomB x4 2 || !roomB tn 2) := ⟨_, rfl⟩
                        rw [← het, ← hot] at HW435
                        have HET := Lib.hid het
                        have HOTT := Lib.hid hot
                        clear het hot
                        have HETL := Lib.hid (show et.length + 8 * tn ≤ 1000000 by rw [HET.out]; have h0 := HEL.out; simp only [List.length_append, putB_length]; omega)
                        have htn1 : tn ≤ 1000000 := by have := HETL.out; omega
                        go_loopg [201] tn (fun gn i wr => ∃ m : Nat, m ≤ tn ∧ gn = tn - m ∧ i = .int .i64 m ∧ Hid (RWr (g + 1) wr g (et ++ (ts.take m).flatMap TW.bytes) (ot || (ts.take m).any TW.odd)) ∧ Hid (Keep1 g w wr) ∧ Hid (wr.heap[w.heap.size]? = some (.cells #[.slice ca cn cc, .slice ma mn mc, .int .i64 st, .slice sa sn sc, .slice ya yn yc, .slice xa xn xc, .slice (some ⟨b, off, none⟩) n kc, .int .i64 main] 30)) ∧ Hid (wr.heap[gc]? = some (.cells #[.int .i64 x0, .int .i64 x1, .int .i64 x2, .int .i64 x3, .int .i64 x4, .slice ta tn tc] 62)))
                        case atStart => exact ⟨0, by omega, by omega, by go_num, Lib.hid (by simpa using HW435.out), HK435, HI435, HC435⟩
                        case round =>
                          obtain ⟨m, hm, rfl, rfl, HWr, HKr, HIr, HCr⟩ := hrel
                          have HBr := Lib.hid (HKr.out.below HB.out (Nat.le_refl _) hg0)
                          by_cases hlm : m < tn
                          · have hdummy2 : True := trivial
                            obtain ⟨b3, off3, t, rfl, hbl3, ht, q⟩ := (HTS.out.keep1 HKr.out HTOF.out).get1 m hlm
                            have HFT := Lib.hid (show et ++ (ts.take (m + 1)).flatMap TW.bytes = et ++ (ts.take m).flatMap TW.bytes ++ t.bytes by rw [flat_take TW.bytes ts m t ht, List.append_assoc])
                            have HAT := Lib.hid (show (ot || (ts.take (m + 1)).any TW.odd) = (ot || (ts.take m).any TW.odd || t.odd) by rw [any_take TW.odd ts m t ht, Bool.or_assoc])
                            have htr := r5 t (List.mem_of_getElem? ht)
                            have htl : t.cls ≤ 65534 := by have h := List.all_eq_true.1 HL3.out t (List.mem_of_getElem? ht); unfold leastT at h; simp at h; exact h
                            have HTL2 := Lib.hid (show (et ++ (ts.take m).flatMap TW.bytes).length + 8 ≤ 1000008 by
                              have h1 := trapsB_len (ts.take m)
                              rw [rowB_len, List.length_take] at h1
                              rw [List.length_append]
                              have h2 := HETL.out
                              have h3 := HTN.out
                              omega)
                            obtain ⟨y0, y1, y2, y3⟩ := t
                            obtain ⟨u0, u1, u2, u3⟩ := htr
                            simp only at u0 u1 u2 u3 htl
                            have hlo3 : -9223372036854775808 ≤ y3 := u3.1
                            have p0 := q 0 (by omega)
                            have p1 := q 1 (by omega)
                            have p2 := q 2 (by omega)
                            have p3 := q 3 (by omega)
                            simp only [TW.vals, List.getElem?_cons_zero, List.getElem?_cons_succ, Nat.add_zero] at p0 p1 p2 p3
                            clear q ht
                            generalize et ++ (ts.take m).flatMap TW.bytes = em at *
                            generalize (ot || (ts.take m).any TW.odd) = om at *
                            go_upto_region 57 with fail
                            have hal : Below wr.heap.size wr (wr.alloc (.cells #[.int .i64 y0, .int .i64 y1, .int .i64 y2, .int .i64 y3] 71)) := (Below.refl _ _).alloc (Nat.le_refl _) _
                            have HW455 := Lib.hid (HWr.out.below hal)
                            have HK455 := Lib.hid (HKr.out.trans (Keep1.of hal))
                            have HI455 := Lib.hid (row_below HIr.out hal)
                            have HC455 := Lib.hid (row_below HCr.out hal)
                            have HT455 := Lib.hid (heap_alloc_last wr (.cells #[.int .i64 y0, .int .i64 y1, .int .i64 y2, .int .i64 y3] 71))
                            have htg : wr.heap.size ≠ g := Ne.symm (Nat.ne_of_lt HWr.out.lt)
                            clear hal HWr HKr HIr HCr HBr p0 p1 p2 p3
                            generalize wr.alloc (.cells #[.int .i64 y0, .int .i64 y1, .int .i64 y2, .int .i64 y3] 71) = W455 at *
                            generalize wr.heap.size = gt at *
                            have cq := row_cell HT455.out 0 rfl
                            have HCALL := Lib.hid (rput1 W455 g _ _ HW455.out 2 (by omega) y0 u0 (by have h0 := HTL2.out; (try simp only [List.length_append, putB_length] at h0 ⊢); omega))
                            go_wp2_with fail
                            refine HCALL.out.mono ?_
                            rintro e' W456 ⟨rfl, hw, hk⟩
                            have HW456 := Lib.hid hw
                            have HK456 := Lib.hid (HK455.out.trans hk)
                            have HI456 := Lib.hid (hk.blk HI455.out hgi)
                            have HC456 := Lib.hid (hk.blk HC455.out hcg)
                            have HT456 := Lib.hid (hk.blk HT455.out htg)
                            clear hw hk HCALL HW455 HK455 HI455 HC455 HT455
                            clear cq
                            have cq := row_cell HT456.out 1 rfl
                            have HCALL := Lib.hid (rput1 W456 g _ _ HW456.out 2 (by omega) y1 u1 (by have h0 := HTL2.out; (try simp only [List.length_append, putB_length] at h0 ⊢); omega))
                            go_wp2_with fail
                            refine HCALL.out.mono ?_
                            rintro e' W457 ⟨rfl, hw, hk⟩
                            have HW457 := Lib.hid hw
                            have HK457 := Lib.hid (HK456.out.trans hk)
                            have HI457 := Lib.hid (hk.blk HI456.out hgi)
                            have HC457 := Lib.hid (hk.blk HC456.out hcg)
                            have HT457 := Lib.hid (hk.blk HT456.out htg)
                            clear hw hk HCALL HW456 HK456 HI456 HC456 HT456
                            clear cq
                            have cq := row_cell HT457.out 2 rfl
                            have HCALL := Lib.hid (rput1 W457 g _ _ HW457.out 2 (by omega) y2 u2 (by have h0 := HTL2.out; (try simp only [List.length_append, putB_length] at h0 ⊢); omega))
                            go_wp2_with fail
                            refine HCALL.out.mono ?_
                            rintro e' W458 ⟨rfl, hw, hk⟩
                            have HW458 := Lib.hid hw
                            have HK458 := Lib.hid (HK457.out.trans hk)
                            have HI458 := Lib.hid (hk.blk HI457.out hgi)
                            have HC458 := Lib.hid (hk.blk HC457.out hcg)
                            have HT458 := Lib.hid (hk.blk HT457.out htg)
                            clear hw hk HCALL HW457 HK457 HI457 HC457 HT457
                            clear cq
                            have cq := row_cell HT458.out 3 rfl
                            have HCALL := Lib.hid (rput1 W458 g _ _ HW458.out 2 (by omega) (y3 + 1) (sup_inc u3 htl) (by have h0 := HTL2.out; (try simp only [List.length_append, putB_length] at h0 ⊢); omega))
                            go_wp2_with fail
                            refine HCALL.out.mono ?_
                            rintro e' W459 ⟨rfl, hw, hk⟩
                            have HW459 := Lib.hid hw
                            have HK459 := Lib.hid (HK458.out.trans hk)
                            have HI459 := Lib.hid (hk.blk HI458.out hgi)
                            have HC459 := Lib.hid (hk.blk HC458.out hcg)
                            have HT459 := Lib.hid (hk.blk HT458.out htg)
                            clear hw hk HCALL HW458 HK458 HI458 HC458 HT458
                            clear cq
                            go_wp2_with fail
                            go_roundg (tn - (m + 1))
                            case measure => omega
                            case rel =>
                              refine ⟨m + 1, by omega, rfl, by go_num, Lib.hid ?_, HK459, HI459, HC459⟩
                              rw [HFT.out, HAT.out]
                              have hfin := HW459.out
                              simp only [TW.bytes, TW.odd, puts3, bad3, nexts1, badN1]
                              simpa only [List.append_assoc, Bool.or_assoc] using hfin
                          · obtain rfl : tn = m := by omega
                            have HLL := Lib.hid (show ts.take tn = ts by rw [List.take_of_length_le (by rw [HTN.out]; exact Nat.le_refl _)])
                            rw [HLL.out] at HWr
                            have cfx := HCF.out wr HKr.out
                            go_wp2_with fail
                            go_roundg (n - (j + 1))
                            case measure => omega
                            case rel =>
                              refine ⟨j + 1, T + fn, by omega, rfl, by go_num, by go_num, hT2, Lib.hid (by rw [HDT.out, HT.out]; omega), Lib.hid ?_, HKr, HIr⟩
                              rw [HHT.out, HOT.out]
                              have hfin := HWr.out
                              rw [HET.out, HOTT.out] at hfin
                              simp only [codeB, codeO, rowB, rowO, HHE.out, HDL2.out, HTN.out, puts4, bad4]
                              simpa only [List.append_assoc, Bool.or_assoc] using hfin
                    · obtain rfl : n = j := by omega
                      have HZ1 := Lib.hid (show (ks.zip (F.map (·.data))).take n = ks.zip (F.map (·.data)) by rw [List.take_of_length_le (by rw [List.length_zip, HLK.out]; omega)])
                      rw [HZ1.out] at HWr
                      go_wp2_with fail
                      go_end0
                      refine ⟨rfl, ?_, HKr.out⟩
                      rw [HE.out, HEO.out]
                      have hfin := HWr.out
                      rw [HEE.out, HOD.out] at hfin
                      simp only [rowB, rowO, HLC.out, HLM.out, HLY.out, HLX.out]
                      simpa only [List.append_assoc, Bool.or_assoc, Bool.false_or] using hfin
end Go.Proofs.Ytbcldlbmbdfejaa
