/- klass: KlassMore (printed by gen/kllaw.py). No condition. -/
import Derived.Test.YtnfhiakdbakpgaaQ32KlassMore
namespace Go.Proofs.Ytnfhiakdbakpgaa
open Go.ChangeShapes Go.WideShapes Go.ChangeAt Go.RowKit
theorem KV.one5 (c : KV) : ∀ u ∈ c.cells, u.oneCell' = true := KV.cells_one c
def moreF (f : KF) (a : Option Addr) (k c : Nat) (s : List UInt8) : KF := ⟨a, k, c, f.pool ++ [⟨1, 0, 0, 0, s⟩], f.th, f.su, f.fa, f.fn, f.fc, f.fields, f.ma, f.mn, f.mc, f.methods⟩
theorem own_emptyK (w : World) (base : Nat) (e : TypeId) (z : Nat) (hb : base ≤ w.heap.size) : (w.alloc (.cells #[] e)).ownsRow base e z (.slice (some ⟨w.heap.size, 0, none⟩) 0 0) 0 [] :=
  World.ownsRow_made w #[] 0 hb (by decide) (by simp)
set_option maxRecDepth 100000 in
set_option maxHeartbeats 32000000 in
theorem walk_KlassMoreX (f : KF) (s : List UInt8) (w : World) (h0 : IsFile w f) (hs9 : s.length ≤ 9223372036854775807) :
    Calls Try.prog 6 #[.agg f.vals, .string ⟨s.toArray⟩] w fun e w' => e = .returned (.bool true) ∧ Below w.heap.size w w' := by
  obtain ⟨hr, hbig, hnum, hfl, hmf⟩ := h0
  have HX := Lib.hid hr
  have HBG := Lib.hid hbig
  have HNM := Lib.hid hnum
  have HFL := Lib.hid hfl
  have HMF := Lib.hid hmf
  clear hr hbig hnum hfl hmf
  obtain ⟨pa, pn, pc, pool, th, su, fa, fn, fc, fields, ma, mn, mc, methods⟩ := f
  unfold KF.vals
  dsimp only
  have hal0 := below_1 w (.cells #[.slice pa pn pc, .int .i64 th, .int .i64 su, .slice fa fn fc, .slice ma mn mc] 26)
  have HT0 := Lib.hid (heap_alloc_last w (.cells #[.slice pa pn pc, .int .i64 th, .int .i64 su, .slice fa fn fc, .slice ma mn mc] 26))
  have HB0 := Lib.hid hal0
  clear hal0
  go_enter Try.func6, Try.ntmps6
  go_upto_region 1 with fail
  generalize w.alloc (.cells #[.slice pa pn pc, .int .i64 th, .int .i64 su, .slice fa fn fc, .slice ma mn mc] 26) = w0 at *
  obtain ⟨bf, hbf⟩ : ∃ b, b = w.heap.size := ⟨_, rfl⟩
  rw [← hbf] at HT0 ⊢
  clear hbf
  have HFX := Lib.hid (fixed14 w0)
  go_wp2_with fail
  refine HFX.out.mono ?_
  rintro e w1 ⟨rfl, hb1⟩
  have HB1 := Lib.hid (HB0.out.trans (hb1.mono HB0.out.size))
  have HT1 := Lib.hid (row_below HT0.out hb1)
  clear hb1 HFX HT0 HB0
  have k0 := row_cell HT1.out 0 rfl
  have k1 := row_cell HT1.out 1 rfl
  have k2 := row_cell HT1.out 2 rfl
  have k3 := row_cell HT1.out 3 rfl
  have k4 := row_cell HT1.out 4 rfl
  dsimp at k0 k1 k2 k3 k4
  have HFW := Lib.hid (kfew_any w1 _ (HX.out.below HB1.out) HBG.out)
  unfold KF.vals at HFW
  dsimp only at HFW
  go_wp2_with fail
  refine HFW.out.mono ?_
  rintro e w2 ⟨bw, rfl, hb2, hfw⟩
  have HB2 := Lib.hid (HB1.out.trans (hb2.mono HB1.out.size))
  have HT2 := Lib.hid (row_below HT1.out hb2)
  have HFEW := Lib.hid hfw
  clear hb2 hfw HFW HT1 HB1 k0 k1 k2 k3 k4
  cases bw with
  | false =>
    go_wp2_with fail
    go_ret
    exact ⟨rfl, HB2.out⟩
  | true =>
  have HFP := Lib.hid (HFEW.out rfl)
  have HFIT := Lib.hid (HFP.out.fit HX.out HFL.out HMF.out)
  have HSML := Lib.hid (HFP.out.sml HX.out)
  have HBND := Lib.hid (few_bound w _ HX.out (by have h1 := HFP.out.1; have h2 := HX.out.pool.1; dsimp only at h1 h2 ⊢; omega) HFP.out.2.2.2.1 HFP.out.2.1 HFP.out.2.2.1 HFP.out.2.2.2.2)
  clear HFEW
  have k0 := row_cell HT2.out 0 rfl
  have k1 := row_cell HT2.out 1 rfl
  have k2 := row_cell HT2.out 2 rfl
  have k3 := row_cell HT2.out 3 rfl
  have k4 := row_cell HT2.out 4 rfl
  dsimp at k0 k1 k2 k3 k4
  have HRI := rRight_any w2 _ (HX.out.below HB2.out) HFIT.out.pn HFIT.out.ps HBG.out
  obtain ⟨ck, hck⟩ : ∃ ck, ck = classOk (⟨pa, pn, pc, pool, th, su, fa, fn, fc, fields, ma, mn, mc, methods⟩ : KF) := ⟨_, rfl⟩
  rw [← hck] at HRI
  have HCK := Lib.hid hck.symm
  unfold KF.vals at HRI
  dsimp only at HRI
  replace HRI := Lib.hid HRI
  clear hck
  go_wp2_with fail
  refine HRI.out.mono ?_
  rintro e w3 ⟨rfl, hb3⟩
  have HB3 := Lib.hid (HB2.out.trans (hb3.mono HB2.out.size))
  have HT3 := Lib.hid (row_below HT2.out hb3)
  clear hb3 HRI HT2 HB2 k0 k1 k2 k3 k4
  have k0 := row_cell HT3.out 0 rfl
  have k1 := row_cell HT3.out 1 rfl
  have k2 := row_cell HT3.out 2 rfl
  have k3 := row_cell HT3.out 3 rfl
  have k4 := row_cell HT3.out 4 rfl
  dsimp at k0 k1 k2 k3 k4
  cases ck with
  | false =>
    go_wp2_with fail
    go_ret
    exact ⟨rfl, HB3.out⟩
  | true =>
  by_cases h1 : 100 < s.length
  · have e1 : decide ((100 : Int) < s.length) = true := by simp; omega
    go_wp2_with fail
    go_ret
    exact ⟨rfl, HB3.out⟩
  have e1 : decide ((100 : Int) < s.length) = false := by simp; omega
  have hs100 : s.length ≤ 100 := by omega
  have hpn : pn ≤ 120 := HFP.out.1
  have e2 : decide ((1024 : Int) ≤ pn) = false := by simp; omega
  clear h1
  go_upto_region 6 with fail
  have hal := below_1 w3 (.cells #[.slice pa pn pc, .int .i64 th, .int .i64 su, .slice fa fn fc, .slice ma mn mc] 26)
  have HB4 := Lib.hid (HB3.out.trans (hal.mono HB3.out.size))
  have HT4 := Lib.hid (row_below HT3.out hal)
  have HG4 := Lib.hid (heap_alloc_last w3 (.cells #[.slice pa pn pc, .int .i64 th, .int .i64 su, .slice fa fn fc, .slice ma mn mc] 26))
  have hgb : bf ≠ w3.heap.size := Nat.ne_of_lt (row_lt HT3.out)
  have hgw : w.heap.size ≤ w3.heap.size := HB3.out.size
  clear hal HB3 HT3 k0 k1 k2 k3 k4 e1 e2
  generalize w3.alloc (.cells #[.slice pa pn pc, .int .i64 th, .int .i64 su, .slice fa fn fc, .slice ma mn mc] 26) = w4 at *
  generalize w3.heap.size = bg at *
  have k0 := row_cell HT4.out 0 rfl
  have k1 := row_cell HT4.out 1 rfl
  have k2 := row_cell HT4.out 2 rfl
  have k3 := row_cell HT4.out 3 rfl
  have k4 := row_cell HT4.out 4 rfl
  dsimp at k0 k1 k2 k3 k4
  have HE0 := Lib.hid (own_emptyK w4 w4.heap.size 42 5 (Nat.le_refl _))
  have HBE := Lib.hid (below_1 w4 (.cells #[] 42))
  have HPK := Lib.hid (show Ks w4 pa pn pool from HX.out.pool.below HB4.out)
  have HTE := Lib.hid (row_below HT4.out HBE.out)
  have k0 := row_cell HTE.out 0 rfl
  dsimp at k0
  go_upto_region 7 with (at_builtin; first
    | (refine wpList_appS stKr rfl _ _ _ rfl w4.heap.size _ 0 _ rfl HE0.out _ pn _ rfl ((HPK.out.below HBE.out).src KV.cells_length (by omega) KV.one5 Try.underlying22 pc) (by omega) (by unfold maxLen; omega) HBE.out.size ?_; intro v7 w7 hown7 _ hb7; rw [List.nil_append, Nat.zero_add] at hown7; obtain ⟨a7, c7, rfl, _, _⟩ := Ss.ofOwn KV.cells_length (by decide) hown7; have HO7 := Lib.hid hown7; have HB7 := Lib.hid (HBE.out.trans hb7); have HG7 := Lib.hid (row_below HG4.out (HBE.out.trans hb7)); clear hown7 hb7 HE0 k0 HTE)
    | (refine wpList_appS_lit stKr rfl _ _ rfl w4.heap.size _ pn _ rfl HO7.out _ 1 _ _ rfl (by simp) rfl rfl (by omega) (by unfold maxLen; omega) HB7.out.size ?_; intro v8 w8 hown8 _ hb8; have hown9 : w8.ownsRow w4.heap.size 42 5 v8 (pn + 1) ((pool ++ [(⟨1, 0, 0, 0, s⟩ : KV)]).flatMap KV.cells) := (by rw [List.flatMap_append]; exact hown8); obtain ⟨a8, c8, rfl, _, _⟩ := Ss.ofOwn KV.cells_length (by decide) hown9; have HO8 := Lib.hid hown9; have HB8 := Lib.hid (HB7.out.trans hb8); have HG8 := Lib.hid (row_below HG4.out (HB7.out.trans hb8)); clear hown8 hown9 hb8; have f0 := row_melt HG8.out 0; have ltz := row_lt HG8.out; have g0 := row_cell HG8.out 0 rfl))
  have hbgW : w.heap.size ≤ bg := hgw
  have hs9 := (Keep1.refl bg w8).set 0 (.slice a8 (pn + 1) c8)
  have HBX := Lib.hid (HB4.out.trans (HB8.out.mono HB4.out.size))
  have HB9 := Lib.hid (HBX.out.setCell (p := ⟨bg, 0, none⟩) hbgW (.slice a8 (pn + 1) c8))
  have HG9 := Lib.hid (show (w8.setCell ⟨bg, 0, none⟩ (.slice a8 (pn + 1) c8)).heap[bg]? = some (.cells #[.slice a8 (pn + 1) c8, .int .i64 th, .int .i64 su, .slice fa fn fc, .slice ma mn mc] 26) by simpa using heap_set3 HG8.out 0 (.slice a8 (pn + 1) c8))
  have HT9 := Lib.hid (heap_other (row_below HT4.out HB8.out) hgb 0 (.slice a8 (pn + 1) c8))
  have hpl : Ss 5 KV.cells w8 a8 (pn + 1) (pool ++ [(⟨1, 0, 0, 0, s⟩ : KV)]) := by
    obtain ⟨a', c', e', hs', _⟩ := Ss.ofOwn KV.cells_length (by decide) HO8.out
    cases e'
    exact hs'
  have hbg4 : bg < w4.heap.size := row_lt HG4.out
  have HRG := Lib.hid (show (⟨a8, pn + 1, c8, pool ++ [⟨1, 0, 0, 0, s⟩], th, su, fa, fn, fc, fields, ma, mn, mc, methods⟩ : KF).Rd (w8.setCell ⟨bg, 0, none⟩ (.slice a8 (pn + 1) c8)) from
    ⟨Ss.keep1 hpl hs9 (Off1.ownS HO8.out hbg4), (HX.out.fields.below HB9.out), (HX.out.methods.below HB9.out), fun m hm => (HX.out.each m hm).below HB9.out⟩)
  have HFG := Lib.hid (show (⟨a8, pn + 1, c8, pool ++ [⟨1, 0, 0, 0, s⟩], th, su, fa, fn, fc, fields, ma, mn, mc, methods⟩ : KF).Fit from
    ⟨by show pn + 1 ≤ 65536; omega, fun i hi => by
      have hl : i < (pool ++ [(⟨1, 0, 0, 0, s⟩ : KV)]).length := by rw [hpl.1]; exact hi
      show (kAt (pool ++ [(⟨1, 0, 0, 0, s⟩ : KV)]) i).s.length ≤ 65536
      rw [kAt_get _ i hl]
      rcases List.mem_append.1 (List.getElem_mem hl) with h | h
      · exact Nat.le_trans (HFP.out.2.2.2.1 _ h) (by omega)
      · rw [List.mem_singleton.1 h]; show s.length ≤ _; omega, HFIT.out.fn, HFIT.out.mn, HFIT.out.fl, HFIT.out.each⟩)
  have HBD := Lib.hid (few_bound _ _ HRG.out (by rw [hpl.1]; omega) (fun c hc => by
      rcases List.mem_append.1 hc with h | h
      · exact HFP.out.2.2.2.1 _ h
      · rw [List.mem_singleton.1 h]; show s.length ≤ _; omega) HFP.out.2.1 HFP.out.2.2.1 HFP.out.2.2.2.2)
  have HNG := Lib.hid (show ∀ c ∈ pool ++ [(⟨1, 0, 0, 0, s⟩ : KV)], -9223372036854775808 ≤ c.n ∧ c.n ≤ 9223372036854775807 from fun c hc => by
      rcases List.mem_append.1 hc with h | h
      · exact HNM.out c h
      · rw [List.mem_singleton.1 h]; exact ⟨by show (-9223372036854775808 : Int) ≤ 0; omega, by show (0 : Int) ≤ _; omega⟩)
  clear hs9 hpl HB8 HB7 HBE HO7 HO8 HG7 HG8 HG4 HT4 HB4 HPK f0 ltz g0 HBX k1 k2 k3 k4
  generalize w8.setCell ⟨bg, 0, none⟩ (.slice a8 (pn + 1) c8) = w9 at *
  have k0 := row_cell HG9.out 0 rfl
  have k1 := row_cell HG9.out 1 rfl
  have k2 := row_cell HG9.out 2 rfl
  have k3 := row_cell HG9.out 3 rfl
  have k4 := row_cell HG9.out 4 rfl
  dsimp at k0 k1 k2 k3 k4
  have HBY := KBytes_any w9 _ HRG.out HFG.out (fun _ => by have := HBD.out; omega)
  dsimp only at HBY
  replace HBY := Lib.hid HBY
  go_wp2_with fail
  refine HBY.out.mono ?_
  rintro e w10 (⟨hno, rfl, hb10⟩ | ⟨hok, v10, m10, rfl, ho10, hb10⟩)
  · have HB10 := Lib.hid (HB9.out.trans (hb10.mono HB9.out.size))
    go_wp2_with fail
    go_ret
    exact ⟨rfl, HB10.out⟩
  obtain ⟨a10, c10, rfl, hs10, hc10⟩ := Sl.ofOwn ho10
  have hm10 : m10 ≤ 60000 := by have h1 := own_lenB ho10; have h2 := HBD.out; omega
  have HS10 := Lib.hid hs10
  have HB10 := Lib.hid (HB9.out.trans (hb10.mono HB9.out.size))
  have HT10 := Lib.hid (row_below HT9.out hb10)
  have HOKG := Lib.hid hok
  have HPS := Lib.hid (parseF_same _ hok (by have := HBD.out; omega) HNG.out)
  have HPA := KParse_any w10 a10 m10 c10 _ hs10 (by omega) hc10
  rw [HPS.out] at HPA
  replace HPA := Lib.hid HPA
  clear hs10 ho10 hb10 hok HBY HT9 HB9 HG9 HRG k0 k1 k2 k3 k4
  go_wp2_with fail
  refine HPA.out.mono ?_
  rintro e w11 ⟨x, hxp, rfl, hxr, hxf, hb11⟩
  dsimp only at hxp ⊢
  have hxok : classOk x = true := by rw [← classOk_p, hxp, classOk_p]; exact HOKG.out
  have HXS := Lib.hid (show x.Sml from (ok_fit hxok hxr).2.2)
  have HXP := Lib.hid hxp
  have HX11 := Lib.hid hxr
  have HB11 := Lib.hid (HB10.out.trans (hb11.mono HB10.out.size))
  have HT11 := Lib.hid (row_below HT10.out hb11)
  clear hxp hxr hxf hb11 hxok HPA HB10 HT10 HS10 HPS HOKG
  obtain ⟨xa, xn, xc, xpool, xth, xsu, xfa, xfn, xfc, xfields, xma, xmn, xmc, xmethods⟩ := x
  unfold KF.vals
  dsimp only
  go_upto_region 11 with fail
  have hal := below_1 w11 (.cells #[.slice xa xn xc, .int .i64 xth, .int .i64 xsu, .slice xfa xfn xfc, .slice xma xmn xmc] 26)
  have HBH := Lib.hid hal
  have HR12 := Lib.hid (heap_alloc_last w11 (.cells #[.slice xa xn xc, .int .i64 xth, .int .i64 xsu, .slice xfa xfn xfc, .slice xma xmn xmc] 26))
  have HB12 := Lib.hid (HB11.out.trans (hal.mono HB11.out.size))
  have HT12 := Lib.hid (row_below HT11.out hal)
  have hhw : w.heap.size ≤ w11.heap.size := HB11.out.size
  have hbh : bf ≠ w11.heap.size := Nat.ne_of_lt (row_lt HT11.out)
  have hhh : w11.heap.size ≤ w11.heap.size := Nat.le_refl _
  clear hal HB11 HT11
  generalize w11.alloc (.cells #[.slice xa xn xc, .int .i64 xth, .int .i64 xsu, .slice xfa xfn xfc, .slice xma xmn xmc] 26) = w12 at *
  generalize hbhe : w11.heap.size = bh at *
  have k0 := row_cell HT12.out 0 rfl
  dsimp at k0
  have f0 := row_melt HR12.out 0
  have ltz := row_lt HR12.out
  have g0 := row_cell HR12.out 0 rfl
  dsimp at g0
  go_upto_region 12 with fail
  have HBS := Lib.hid (show Below w11.heap.size w11 (w12.setCell ⟨bh, 0, none⟩ (.slice pa pn pc)) by
    rw [hbhe]; exact HBH.out.setCell (p := ⟨bh, 0, none⟩) hhh (.slice pa pn pc))
  have HB13 := Lib.hid (HB12.out.setCell (p := ⟨bh, 0, none⟩) hhw (.slice pa pn pc))
  have HR13 := Lib.hid (show (w12.setCell ⟨bh, 0, none⟩ (.slice pa pn pc)).heap[bh]? = some (.cells #[.slice pa pn pc, .int .i64 xth, .int .i64 xsu, .slice xfa xfn xfc, .slice xma xmn xmc] 26) by simpa using heap_set3 HR12.out 0 (.slice pa pn pc))
  have HT13 := Lib.hid (heap_other HT12.out hbh 0 (.slice pa pn pc))
  clear k0 f0 ltz g0 HB12 HR12 HT12 hhh hbhe HBH
  generalize w12.setCell ⟨bh, 0, none⟩ (.slice pa pn pc) = w13 at *
  have HSA := Lib.hid (Same_yes w13 (⟨pa, pn, pc, pool, xth, xsu, xfa, xfn, xfc, xfields, xma, xmn, xmc, xmethods⟩ : KF) (⟨pa, pn, pc, pool, th, su, fa, fn, fc, fields, ma, mn, mc, methods⟩ : KF)
    ⟨HX.out.pool.below HB13.out, HX11.out.fields.below HBS.out, HX11.out.methods.below HBS.out, fun m hm => (HX11.out.each m hm).below HBS.out⟩ (HX.out.below HB13.out) (by
      have h := HXP.out
      simp only [KF.p, KF.mk.injEq] at h ⊢
      obtain ⟨-, -, -, -, h1, h2, -, -, -, h3, -, -, -, h4⟩ := h
      exact ⟨trivial, trivial, trivial, trivial, h1, h2, trivial, trivial, trivial, h3, trivial, trivial, trivial, h4⟩) ⟨by show pn ≤ 65536; omega, HXS.out.fn, HXS.out.mn, HXS.out.each⟩)
  unfold KF.vals at HSA
  dsimp only at HSA
  have k0 := row_cell HR13.out 0 rfl
  have k1 := row_cell HR13.out 1 rfl
  have k2 := row_cell HR13.out 2 rfl
  have k3 := row_cell HR13.out 3 rfl
  have k4 := row_cell HR13.out 4 rfl
  dsimp at k0 k1 k2 k3 k4
  have j0 := row_cell HT13.out 0 rfl
  have j1 := row_cell HT13.out 1 rfl
  have j2 := row_cell HT13.out 2 rfl
  have j3 := row_cell HT13.out 3 rfl
  have j4 := row_cell HT13.out 4 rfl
  dsimp at j0 j1 j2 j3 j4
  go_wp2_with fail
  refine HSA.out.mono ?_
  rintro e w14 ⟨rfl, hb14⟩
  go_wp2_with fail
  go_ret
  exact ⟨rfl, HB13.out.trans (hb14.mono HB13.out.size)⟩
theorem walk_KlassMore (f : KF) (s : ByteArray) (w : World) (h0 : IsFile w f) (h1 : s.size ≤ maxLen) :
    Calls Try.prog 6 #[.agg f.vals, .string s] w fun e w' => e = .returned (.bool true) ∧ Below w.heap.size w w' := by
  obtain ⟨l, rfl⟩ : ∃ l : List UInt8, s = ⟨l.toArray⟩ := ⟨s.data.toList, by simp⟩
  exact walk_KlassMoreX f l w h0 (by have h2 : l.length ≤ maxLen := h1; unfold maxLen at h2; omega)
end Go.Proofs.Ytnfhiakdbakpgaa
