/- page: the walk of PageVoids. No condition. -/
import Derived.Test.YtdnnodpchjnleaaVoidFn2
import Derived.Test.YtdnnodpchjnleaaPageLaw
import Derived.Test.YtdnnodpchjnleaaNorOpen
import Derived.StillTailTactics
namespace Go.Proofs.Ytdnnodpchjnleaa
open Go.ChangeShapes Go.WideShapes Go.ChangeAt Go.RowKit
theorem results_tmp_cell_row {P : Program} {fn : Func} {p u : Tmp} {ty : TypeId} (h : fn.results = #[.tmp u, .cell p ty]) (tmps : Array Value) (w : World) (g : Nat) (t : TypeId) (cs : Array Value) (fr : Nat × Nat) (d : TypeDesc)
    (hp : tmps.getD p undef = .pointer (some ⟨g, 0, none⟩)) (hg : w.heap[g]? = some (.cells cs t fr))
    (hu : P.underlying ty = some d) (hd : (match d with | .struct _ | .array _ _ => true | _ => false) = true) (hi : (P.info? ty).map (·.size) = some cs.size) :
    (results fn tmps).run P w = .ok (.tuple #[tmps.getD u undef, .agg cs]) w := by
  have hl := run_loadVar_row w g t ty cs fr d hg hu hd hi
  have hp' : tmps[p]?.getD undef = .pointer (some ⟨g, 0, none⟩) := by simpa using hp
  simp [results, h, hp', asAddr, hl, Result.andThen]
/-- A block of two cells. -/
def Duo (w : World) (g : Nat) (x y : Value) (t : TypeId) : Prop := w.heap[g]? = some (.cells #[x, y] t)
theorem Duo.below {w w' : World} {g : Nat} {x y : Value} {t : TypeId} (h : Duo w g x y t) (hb : Below w.heap.size w w') : Duo w' g x y t := by
  unfold Duo at *
  rw [hb.block g (Array.getElem?_eq_some_iff.1 h).1]; exact h
theorem Duo.cells {w : World} {g : Nat} {x y : Value} {t : TypeId} (h : Duo w g x y t) : w.cell? ⟨g, 0, none⟩ = some x ∧ w.cell? ⟨g, 1, none⟩ = some y ∧ g < w.heap.size := by
  refine ⟨?_, ?_, (Array.getElem?_eq_some_iff.1 h).1⟩
  · rw [cell_of_row w g 0 _ _ _ h]; rfl
  · rw [cell_of_row w g 1 _ _ _ h]; rfl
theorem Duo.kept {w w' : World} {k g gb gc : Nat} {x y : Value} {t : TypeId} (h : Duo w k x y t) (hk : Kept g gb gc w w') (hn : k ≠ g ∧ k ≠ gb ∧ k ≠ gc) : Duo w' k x y t := by
  unfold Duo at *
  rw [hk.block k (Array.getElem?_eq_some_iff.1 h).1 hn.1 hn.2.1 hn.2.2]; exact h
theorem Tri.kept {w w' : World} {k g gb gc : Nat} {x y z : Value} {t : TypeId} (h : Tri w k x y z t) (hk : Kept g gb gc w w') (hn : k ≠ g ∧ k ≠ gb ∧ k ≠ gc) : Tri w' k x y z t := by
  unfold Tri at *
  rw [hk.block k (Array.getElem?_eq_some_iff.1 h).1 hn.1 hn.2.1 hn.2.2]; exact h
/-- What made answers. -/
def MadeR (w : World) (e : Ending) (w' : World) : Prop := ∃ g gb gc cb cc, e = .returned (.tuple #[.pointer (some ⟨g, 0, none⟩), .agg #[.int .i64 2, .int .i64 84, .int .i64 9]]) ∧ FlAt w.heap.size w' g gb gc cb cc (Fl.mk0 2 84 9) ∧ Below w.heap.size w w'
set_option maxRecDepth 100000 in
set_option maxHeartbeats 4000000 in
theorem made_any (w : World) : Calls Try.prog 14 #[.int .u8 1, .int .u8 20] w (MadeR w) := by
  have K0 := Lib.hid (show Tri (w.alloc (.cells #[.int .i64 0, .int .i64 0, .int .i64 0] 43)) w.heap.size _ _ _ _ from heap_alloc_last w _)
  have H0 := Lib.hid ((Below.refl w.heap.size w).alloc (Nat.le_refl _) (.cells #[.int .i64 0, .int .i64 0, .int .i64 0] 43))
  go_enter Try.func14, Try.ntmps14
  go_upto_region 2 with fail
  have T1 := Lib.hid (show Tri ((w.alloc (.cells #[.int .i64 0, .int .i64 0, .int .i64 0] 43)).alloc (.cells #[.int .i64 2, .int .i64 84, .int .i64 9] 43)) (w.heap.size + 1) _ _ _ _ from by
    have := heap_alloc_last (w.alloc (.cells #[.int .i64 0, .int .i64 0, .int .i64 0] 43)) (.cells #[.int .i64 2, .int .i64 84, .int .i64 9] 43)
    rwa [show (w.alloc (.cells #[.int .i64 0, .int .i64 0, .int .i64 0] 43)).heap.size = w.heap.size + 1 by simp] at this)
  have K1 := Lib.hid (K0.out.alloc (.cells #[.int .i64 2, .int .i64 84, .int .i64 9] 43))
  have H1 := Lib.hid (H0.out.alloc H0.out.size (.cells #[.int .i64 2, .int .i64 84, .int .i64 9] 43))
  clear K0 H0
  generalize (w.alloc (.cells #[.int .i64 0, .int .i64 0, .int .i64 0] 43)).alloc (.cells #[.int .i64 2, .int .i64 84, .int .i64 9] 43) = W1 at *
  obtain ⟨⟨c0, c1, c2⟩, cf, clt⟩ := T1.out.cells
  clear cf
  go_wp2_with fail
  refine (show Calls Try.prog 32 #[.agg #[.int .i64 2, .int .i64 84, .int .i64 9]] W1 (NewMade W1 2 84 9) from New_made W1 2 84 9 (by decide)).mono ?_
  rintro e W2 ⟨g, gb, gc, cb, cc, rfl, hF, hb⟩
  have HF := Lib.hid (show FlAt w.heap.size W2 g gb gc cb cc (Fl.mk0 2 84 9) from ⟨hF.fl, Nat.le_trans H1.out.size hF.b1, Nat.le_trans H1.out.size hF.b2, Nat.le_trans H1.out.size hF.b3⟩)
  have HN := Lib.hid (show w.heap.size ≠ g ∧ w.heap.size ≠ gb ∧ w.heap.size ≠ gc by have := K1.out.cells.2.2; have := hF.b1; have := hF.b2; have := hF.b3; omega)
  have K2 := Lib.hid (K1.out.below hb)
  have T2 := Lib.hid (T1.out.below hb)
  have H2 := Lib.hid (H1.out.trans (hb.mono H1.out.size))
  clear hF hb c0 c1 c2 clt T1 K1 H1
  go_upto_region 3 with fail
  obtain ⟨⟨c0, c1, c2⟩, cf, clt⟩ := T2.out.cells
  obtain ⟨⟨d0, d1, d2⟩, df, dlt⟩ := K2.out.cells
  have f0 := df 0
  have f1 := df 1
  have f2 := df 2
  clear cf df
  have KE := Lib.hid ((K2.out.below (Below.refl _ _).drew).set (x' := .int .i64 2) (y' := .int .i64 84) (z' := .int .i64 9))
  have HE := Lib.hid (H2.out.drew.trans (keep3 w.heap.size W2.drew (.int .i64 2) (.int .i64 84) (.int .i64 9)))
  have HFE := Lib.hid (show FlAt w.heap.size (((W2.drew.setCell ⟨w.heap.size, 0, none⟩ (.int .i64 2)).setCell ⟨w.heap.size, 1, none⟩ (.int .i64 84)).setCell ⟨w.heap.size, 2, none⟩ (.int .i64 9)) g gb gc cb cc (Fl.mk0 2 84 9) from ⟨HF.out.fl.drew.eq
    (by rw [heap_setO HN.out.1.symm, heap_setO HN.out.1.symm, heap_setO HN.out.1.symm]) (by rw [heap_setO HN.out.2.1.symm, heap_setO HN.out.2.1.symm, heap_setO HN.out.2.1.symm]) (by rw [heap_setO HN.out.2.2.symm, heap_setO HN.out.2.2.symm, heap_setO HN.out.2.2.symm]), HF.out.b1, HF.out.b2, HF.out.b3⟩)
  clear HF HN H2 K2 T2
  go_still_tail 3, (by kernel_rfl)
  go_wp2_with fail
  exact bodyPost_ret (results_tmp_cell_row rfl _ _ w.heap.size _ _ _ _ rfl KE.out Try.underlying43 rfl infoGeo) rfl ⟨g, gb, gc, cb, cc, rfl, HFE.out, HE.out⟩
theorem blank_state : stateR (List.replicate 84 255) = (0, 0) := by kernel_rfl
set_option maxRecDepth 100000 in
set_option maxHeartbeats 8000000 in
theorem walk_PageVoids (q : Int) (a : Option Addr) (len cap : Nat) (z : List Int) (keep : Int) (mask : UInt8) (w : World) (hq : (Lit.int .u32 q).wf = true) (h0 : IsRow .u8 w a len cap z) (hk : (Lit.int .i64 keep).wf = true) :
    Calls Try.prog 5 #[.int .u32 q, .slice a len cap, .agg #[.int .i64 keep, .int .u8 (mask.toNat : Int)]] w fun e w' => e = .returned (.bool true) ∧ Below w.heap.size w w' := by
  obtain ⟨q1, q2⟩ := bounds_u32 hq
  obtain ⟨q, rfl⟩ : ∃ k : Nat, q = k := ⟨q.toNat, by omega⟩
  have hkr : IntR keep := bounds_i64 hk
  have hcap := Row.cap h0
  obtain ⟨bs, hbs, hln⟩ := Bs.ofRow h0
  unfold maxLen at hln
  have SB := Lib.hid hbs.sl
  have HL := Lib.hid hbs.1
  have hal : Below w.heap.size w (w.alloc (.cells #[.int .i64 keep, .int .u8 (mask.toNat : Int)] 40)) := (Below.refl _ _).alloc (Nat.le_refl _) _
  have HT := Lib.hid (show Duo (w.alloc (.cells #[.int .i64 keep, .int .u8 (mask.toNat : Int)] 40)) w.heap.size _ _ _ from heap_alloc_last w (.cells #[.int .i64 keep, .int .u8 (mask.toNat : Int)] 40))
  have HA := Lib.hid hal
  clear hal h0 hbs hq hk
  go_enter Try.func5, Try.ntmps5
  go_upto_region 1 with fail
  generalize w.alloc _ = W1 at *
  go_wp2_with fail
  with_reducible refine (fixed04_any _).mono ?_
  rintro e W2 ⟨rfl, hb⟩
  replace HT := Lib.hid (HT.out.below hb)
  replace HA := Lib.hid (HA.out.trans (hb.mono HA.out.size))
  clear hb
  by_cases hl : 50 < len
  · go_wp2_with fail
    go_ret
    exact ⟨rfl, HA.out⟩
  go_wp2_with fail
  with_reducible refine (made_any _).mono ?_
  rintro e W3 ⟨g, gb, gc, cb, cc, rfl, hF, hb⟩
  have HS2 := Lib.hid (SB.out.below HA.out)
  have HSZ := Lib.hid HA.out.size
  have hlw := (HT.out.below hb).cells.2.2
  have hltw : w.heap.size < W2.heap.size := HT.out.cells.2.2
  replace HT := Lib.hid (HT.out.below hb)
  have HS3 := Lib.hid (HS2.out.below hb)
  replace HA := Lib.hid (HA.out.trans (hb.mono HA.out.size))
  have HN := Lib.hid (And.intro hF.b1 (And.intro hF.b2 hF.b3))
  go_upto_region 6 with fail
  have G4 := Lib.hid (show Tri (W3.alloc (.cells #[.int .i64 2, .int .i64 84, .int .i64 9] 43)) W3.heap.size _ _ _ _ from heap_alloc_last W3 _)
  have hal : Below W3.heap.size W3 (W3.alloc (.cells #[.int .i64 2, .int .i64 84, .int .i64 9] 43)) := (Below.refl _ _).alloc (Nat.le_refl _) _
  have HF4 := Lib.hid (hF.fl.below hal)
  rw [pf_mk0] at HF4
  have hl3 := hF.fl.lt
  replace HT := Lib.hid (HT.out.below hal)
  have HS4 := Lib.hid (HS3.out.below hal)
  replace HA := Lib.hid (HA.out.trans (hal.mono HA.out.size))
  have HGN := Lib.hid (show W3.heap.size ≠ g ∧ W3.heap.size ≠ gb ∧ W3.heap.size ≠ gc by omega)
  have HTN := Lib.hid (show w.heap.size ≠ g ∧ w.heap.size ≠ gb ∧ w.heap.size ≠ gc by have := HN.out; omega)
  have Q1 := Lib.hid (HS2.out.notIn HN.out.1)
  have Q2 := Lib.hid (HS2.out.notIn HN.out.2.1)
  have Q3 := Lib.hid (HS2.out.notIn HN.out.2.2)
  have HNS := Lib.hid (show w.heap.size ≤ g ∧ w.heap.size ≤ gb ∧ w.heap.size ≤ gc by have := HN.out; omega)
  clear hal hF hb hl3 HS2 HS3 HN SB HSZ hltw hlw
  generalize W3.alloc (.cells #[.int .i64 2, .int .i64 84, .int .i64 9] 43) = W4 at *
  generalize W3.heap.size = g8 at *
  obtain ⟨A, hAd⟩ : ∃ A : List UInt8, A = List.replicate 84 255 := ⟨_, rfl⟩
  have hA : A.length = 84 := by rw [hAd]; simp
  have HB0 := Lib.hid (show stateR A = (0, 0) by rw [hAd]; exact blank_state)
  rw [← hAd] at HF4
  clear hAd
  have O1 := Lib.hid (Open_pf W4 g gb gc cb cc A A [0, 0] 0 0 HF4.out hA hA (by decide) (by rw [HB0.out]; decide) q (by omega))
  have HV := Lib.hid (pf_void A q bs hA (by have := HL.out; omega) [0, 0] 0 0)
  simp only at HV
  have HTT := Lib.hid (fun (T : List UInt8) (hT : T.length = 84) (h9 : T.getD 9 0 = 0) => pf_torn A T hA hT h9 keep mask)
  rw [HB0.out] at O1
  go_wp2_with fail
  refine O1.out.mono ?_
  rintro e W5 ⟨c', hc', rfl, hF5, hk5⟩
  obtain rfl : c' = [0, 0] := hc' rfl
  obtain ⟨v1, ⟨xs, v2, v3, v4⟩, v5, v6, v7⟩ := HV.out
  obtain ⟨w1, Y, w2, w3, w4⟩ := HTT.out _ v5 v7
  generalize headB q ++ ([0] ++ ([0] ++ (List.replicate 2 255 ++ (bs ++ List.replicate (72 - bs.length) 255)))) = T at *
  have V3 := Lib.hid v3
  have V4 := Lib.hid v4
  have V5 := Lib.hid v5
  have V6 := Lib.hid v6
  have E1 := Lib.hid w1
  have E2 := Lib.hid w2
  have E3 := Lib.hid w3
  have hy2 : ((stateR Y).1 != 2) = true := by simpa using w4
  have HY2 := Lib.hid w4
  obtain ⟨⟨c0, c1, c2⟩, cf, clt⟩ := (G4.out.kept hk5 HGN.out).cells
  have P7 := Lib.hid (Program_any W5 g gb gc cb cc _ hF5 96 a len cap bs (HS4.out.kept hk5 Q1.out Q2.out Q3.out) hcap (by unfold IntR; omega) (by unfold maxLen; omega) Q1.out Q2.out Q3.out)
  unfold Turned at P7
  rw [v1, v2] at P7
  have HK5 := Lib.hid hk5
  clear v1 v2 v3 v4 v5 v6 v7 w1 w2 w3 w4 HV HTT cf hF5 hk5 O1 HS4 G4
  go_wp2_with fail
  refine P7.out.mono ?_
  rintro e W6 ⟨rfl, hF6, hk6⟩
  have V8 := Lib.hid (Void_pf W6 g gb gc cb cc xs [0, 0] 0 0 hF6)
  unfold ActK at V8
  rw [V3.out, V4.out] at V8
  have HK6 := Lib.hid (HK5.out.trans hk6)
  clear hF6 hk6 HK5 P7 V3 V4 c0 c1 c2 clt
  go_wp2_with fail
  refine V8.out.mono ?_
  rintro e W7 ⟨rfl, hF7, hk7⟩
  have L9 := Lib.hid (Look_pf W7 g gb gc cb cc A T [0, 0] 0 0 hF7 hA V5.out 0 rfl)
  unfold LookR at L9
  rw [V6.out] at L9
  have HK7 := Lib.hid (HK6.out.trans hk7)
  have HF7 := Lib.hid hF7
  clear hF7 hk7 HK6 V8 V5 V6
  go_wp2_with fail
  refine L9.out.mono ?_
  rintro e W8 ⟨rfl, hb8⟩
  go_upto_region 10 with fail
  have G9 := Lib.hid (show Tri (W8.alloc (.cells #[.int .i64 1, .int .u32 0, .int .i64 0] 33)) W8.heap.size _ _ _ _ from heap_alloc_last W8 _)
  have hal := hb8.alloc hb8.size (.cells #[.int .i64 1, .int .u32 0, .int .i64 0] 33)
  have HF9 := Lib.hid (HF7.out.below hal)
  have hl8 := (HF7.out.below hb8).lt
  have HGN9 := Lib.hid (show W8.heap.size ≠ g ∧ W8.heap.size ≠ gb ∧ W8.heap.size ≠ gc by omega)
  have HK9 := Lib.hid (HK7.out.trans (Kept.ofBelow hal))
  have HT9 := Lib.hid (HT.out.kept HK9.out HTN.out)
  clear hal hb8 hl8 HF7 HK7 L9
  generalize W8.alloc (.cells #[.int .i64 1, .int .u32 0, .int .i64 0] 33) = W9 at *
  generalize W8.heap.size = g12 at *
  obtain ⟨d0, d1, dlt⟩ := HT9.out.cells
  have F10 := Lib.hid (Fuse_any W9 g gb gc cb cc _ HF9.out 0 keep mask (by unfold IntR; omega) hkr)
  unfold Turned at F10
  go_wp2_with fail
  refine F10.out.mono ?_
  rintro e W10 ⟨rfl, hF10, hk10⟩
  have HG10 := Lib.hid (G9.out.kept hk10 HGN9.out)
  have HK10 := Lib.hid (HK9.out.trans hk10)
  have X11 := Lib.hid (Erase_any W10 g gb gc cb cc _ hF10 1 (by unfold IntR; omega))
  unfold Turned at X11
  rw [E1.out] at X11
  clear hF10 hk10 d0 d1 dlt HT9 G9 HK9 F10 HF9 E1
  go_wp2_with fail
  refine X11.out.mono ?_
  rintro e W11 ⟨rfl, hF11, hk11⟩
  have HG11 := Lib.hid (HG10.out.kept hk11 HGN9.out)
  have HK11 := Lib.hid (HK10.out.trans hk11)
  have X12 := Lib.hid (Reset_any W11 g gb gc cb cc _ hF11)
  unfold Turned at X12
  rw [E2.out] at X12
  clear hF11 hk11 HG10 HK10 X11 E2
  go_wp2_with fail
  refine X12.out.mono ?_
  rintro e W12 ⟨rfl, hF12, hk12⟩
  have HG12 := Lib.hid (HG11.out.kept hk12 HGN9.out)
  have HK12 := Lib.hid (HK11.out.trans hk12)
  have L13 := Lib.hid (Look_pf W12 g gb gc cb cc A Y [0, 1] keep mask hF12 hA E3.out 1 rfl)
  unfold LookR at L13
  have HF12 := Lib.hid (show FlA W12 g gb gc cb cc (pf (A ++ Y) [0, 1] keep mask) from hF12)
  clear hF12 hk12 HG11 HK11 X12
  go_wp2_with fail
  refine L13.out.mono ?_
  rintro e W13 ⟨rfl, hb13⟩
  go_upto_region 14 with fail
  have G14 := Lib.hid (show Tri (W13.alloc (.cells #[.int .i64 (stateR Y).1, .int .u32 ((stateR Y).2 : Nat), .int .i64 1] 33)) W13.heap.size _ _ _ _ from heap_alloc_last W13 _)
  have hal := hb13.alloc hb13.size (.cells #[.int .i64 (stateR Y).1, .int .u32 ((stateR Y).2 : Nat), .int .i64 1] 33)
  have HF14 := Lib.hid (HF12.out.below hal)
  have HG14 := Lib.hid (HG12.out.below hal)
  have HK14 := Lib.hid (HK12.out.trans (Kept.ofBelow hal))
  have HV14 := Lib.hid (fun (w' : World) (h : FlA w' g gb gc cb cc (pf (A ++ Y) [0, 1] keep mask)) => Void_far w' g gb gc cb cc _ _ _ _ h)
  have HO14 := Lib.hid (fun (w' : World) (h : FlA w' g gb gc cb cc (pf (A ++ Y) [0, 1] keep mask)) => Open_pf w' g gb gc cb cc A Y [0, 1] keep mask h hA E3.out (by decide) HY2.out q (by omega))
  clear hal hb13 HF12 HG12 HK12 L13 HY2
  generalize W13.alloc (.cells #[.int .i64 (stateR Y).1, .int .u32 ((stateR Y).2 : Nat), .int .i64 1] 33) = W14 at *
  generalize W13.heap.size = g15 at *
  generalize (stateR Y).1 = sy at *
  generalize (stateR Y).2 = sq at *
  obtain ⟨⟨c0, c1, c2⟩, cf, clt⟩ := HG14.out.cells
  obtain ⟨⟨d0, d1, d2⟩, df, dlt⟩ := G14.out.cells
  clear cf df
  go_wp2_with fail
  refine (HV14.out _ HF14.out).mono ?_
  rintro e W15 ⟨rfl, hb15⟩
  have HF15 := Lib.hid (HF14.out.below hb15)
  have HK15 := Lib.hid (HK14.out.trans (Kept.ofBelow hb15))
  clear hb15 HF14 HK14 HV14 c0 c1 c2 clt d0 d1 d2 dlt HG14 G14
  go_wp2_with fail
  refine (HO14.out _ HF15.out).mono ?_
  rintro e W16 ⟨c'', hc'', rfl, hF16, hk16⟩
  have HK16 := Lib.hid (HK15.out.trans hk16)
  clear hF16 hk16 hc'' HK15 HO14 HF15
  go_wp2_with fail
  go_ret
  exact ⟨rfl, HK16.out.below HA.out (Nat.le_refl _) HNS.out.1 HNS.out.2.1 HNS.out.2.2⟩
end Go.Proofs.Ytdnnodpchjnleaa
