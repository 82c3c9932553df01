/- image: ImageBytes. No condition. -/
import Derived.Test.YtbcldlbmbdfejaaQ22ImageBytes
namespace Go.Proofs.Ytbcldlbmbdfejaa
open Go.ChangeShapes Go.WideShapes Go.ChangeAt Go.RowKit
theorem Sl.getB {w : World} {a : Option Addr} {n : Nat} {l : List BV} (h : Sl BV.enc w a n l) (j : Nat) (hj : j < n) : ∃ b off f, a = some ⟨b, off, none⟩ ∧ b < w.heap.size ∧ l[j]? = some f ∧ w.cell? ⟨b, off + j, none⟩ = some (.slice f.da f.dn f.dc) := h.get1 j hj
set_option maxRecDepth 100000 in
set_option maxHeartbeats 32000000 in
theorem walk_ImageBytesX (w : World) (x : XW) (hx : x.Rd w) (hr : x.Right) (hft : x.Fit) (a : Option Addr) (n cap : Nat) (hB : IsBss w a n cap) :
    Calls Try.prog 3 #[.agg x.vals, .slice a n cap] w fun e w' => e = .returned (.bool true) ∧ Below w.heap.size w w' := by
  obtain ⟨hcap, hmx, F, hF, hFF⟩ := hB
  have HF := Lib.hid hF
  have HFF := Lib.hid hFF
  have HFL := Lib.hid hF.1
  have hn9 : n ≤ 9223372036854775807 := by unfold maxLen at hmx; omega
  clear hF hFF hmx
  have HC := Lib.hid (fun (w1 : World) (h : Below w.heap.size w w1) => few25_any w1 x (hx.below h) hr hft)
  have HS := Lib.hid (fun (w1 : World) (h : Below w.heap.size w w1) => small_any w1 a n cap F (HF.out.below h) hn9 fun f hf => (HFF.out f hf).below h)
  have HBA := Lib.hid (fun (w1 : World) (h : Below w.heap.size w w1) (h1 : Few25P x) (h2 : SmallP F n) => Bytes_any w1 x (hx.below h) hr a n cap F (HF.out.below h) (fun f hf => (HFF.out f hf).below h) (few_bound hx h1 h2))
  have HBY := Lib.hid (fun (w1 : World) (h : Below w.heap.size w w1) (h1 : Few25P x) (h2 : SmallP F n) => refBytes_any w1 x (hx.below h) hr a n cap F (HF.out.below h) (fun f hf => (HFF.out f hf).below h) (few_bound hx h1 h2))
  have HSM := Lib.hid (fun (w1 : World) (h : Below w.heap.size w w1) (y : XW) (hy : y.Rd w1) (hs : SameX x y) => same25_any w1 x y (hx.below h) hy hs)
  have HFX := Lib.hid (fun w1 => fixed25 w1)
  unfold QuietRet at HFX
  obtain ⟨D, hD⟩ : ∃ D, D = F.map (·.data) := ⟨_, rfl⟩
  obtain ⟨R, hR⟩ : ∃ R, R = imgBytes x D := ⟨_, rfl⟩
  rw [← hD, ← hR] at HBA HBY
  have HOK := Lib.hid (fun (h : R.1 = 0) (h1 : Few25P x) => show ∃ P : XP, parseR R.2 = (P, 0) ∧ 0 < R.2.length ∧ R.2.length ≤ 262144 ∧ D.length = x.kn ∧ x.kn ≤ 300 ∧ ∀ (y : XW), y.p = P → SameX x y ∧ y.ks.map (fun k => codeAt R.2 k.p) = D ∧ (∀ k ∈ y.ks, codeIn R.2 k.p) ∧ y.ks.length = x.kn from by
    have h2 : imgBytes x D = (0, R.2) := by rw [← hR, ← h]
    obtain ⟨p1, p2, _, _, p5⟩ := parse_image h2
    refine ⟨_, p1, ?_, parse_small p1, by rw [p5]; exact hx.k.1, h1.2.2.2.1, fun y hy => ?_⟩
    · rw [p2, bytesX_body]
      simp only [List.length_append]
      have : magicB.length = 4 := rfl
      omega
    · obtain ⟨c1, c2, c3, c4⟩ := codes_of h2 hy
      exact ⟨sameX_of hx h1 h2 hy, c1, c2, by rw [c3]; exact hx.k.1⟩)
  have HD := Lib.hid hD
  obtain ⟨P1, hP1⟩ : ∃ P1, P1 = Few25P x := ⟨_, rfl⟩
  obtain ⟨P2, hP2⟩ : ∃ P2, P2 = SmallP F n := ⟨_, rfl⟩
  rw [← hP1, ← hP2] at HBY HBA
  rw [← hP1] at HC HOK
  rw [← hP2] at HS
  obtain ⟨SX, hSX⟩ : ∃ SX : XW → Prop, SX = SameX x := ⟨_, rfl⟩
  rw [← hSX] at HOK HSM
  obtain ⟨xk, hxk⟩ : ∃ k, k = x.kn := ⟨_, rfl⟩
  rw [← hxk] at HOK
  clear hP1 hP2 hR hx hr hft hD hSX hxk
  obtain ⟨ca, cn, cc, cs, ma, mn, mc, ms, st, sa, sn, sc, ss, ya, yn, yc, ys, xa, xn, xc, xs, ka, kn, kc, ks, main⟩ := x
  unfold XW.vals at HBA HBY HC ⊢
  simp only at HBA HBY HC HSM ⊢
  have hal0 : Below w.heap.size w (w.alloc (.cells #[.slice ca cn cc, .slice ma mn mc, .int .i64 st, .slice sa sn sc, .slice ya yn yc, .slice xa xn xc, .slice ka kn kc, .int .i64 main] 30)) := (Below.refl _ _).alloc (Nat.le_refl _) _
  have HIB := Lib.hid (heap_alloc_last w (.cells #[.slice ca cn cc, .slice ma mn mc, .int .i64 st, .slice sa sn sc, .slice ya yn yc, .slice xa xn xc, .slice ka kn kc, .int .i64 main] 30))
  have HB1 := Lib.hid hal0
  clear hal0
  go_enter Try.func3, Try.ntmps3
  go_upto_region 1 with fail
  generalize w.alloc _ = W1 at *
  go_wp2_with fail
  refine (HFX.out W1).mono ?_
  rintro e' W2 ⟨rfl, hb⟩
  have HB2 := Lib.hid (HB1.out.trans (hb.mono HB1.out.size))
  have HI2 := Lib.hid (row_below HIB.out hb)
  clear hb HIB HB1 HFX
  have c0 := row_cell HI2.out 0 rfl
  have c1 := row_cell HI2.out 1 rfl
  have c2 := row_cell HI2.out 2 rfl
  have c3 := row_cell HI2.out 3 rfl
  have c4 := row_cell HI2.out 4 rfl
  have c5 := row_cell HI2.out 5 rfl
  have c6 := row_cell HI2.out 6 rfl
  have c7 := row_cell HI2.out 7 rfl
  go_wp2_with fail
  refine (HC.out W2 HB2.out).mono ?_
  rintro e' W3 ⟨b, rfl, hb, hp⟩
  have HB3 := Lib.hid (HB2.out.trans (hb.mono HB2.out.size))
  have HI3 := Lib.hid (row_below HI2.out hb)
  have HP1 := Lib.hid hp
  clear hb hp c0 c1 c2 c3 c4 c5 c6 c7 HI2 HB2 HC
  cases b with
  | false =>
    go_wp2_with fail
    go_ret
    exact ⟨rfl, HB3.out⟩
  | true =>
  go_wp2_with fail
  refine (HS.out W3 HB3.out).mono ?_
  rintro e' W4 ⟨b, rfl, rfl, hp⟩
  have HP2 := Lib.hid hp
  clear hp HS
  cases b with
  | false =>
    go_wp2_with fail
    go_ret
    exact ⟨rfl, HB3.out⟩
  | true =>
  have HR0 := Lib.hid (HBA.out W3 HB3.out (HP1.out trivial) (HP2.out rfl))
  have c0 := row_cell HI3.out 0 rfl
  have c1 := row_cell HI3.out 1 rfl
  have c2 := row_cell HI3.out 2 rfl
  have c3 := row_cell HI3.out 3 rfl
  have c4 := row_cell HI3.out 4 rfl
  have c5 := row_cell HI3.out 5 rfl
  have c6 := row_cell HI3.out 6 rfl
  have c7 := row_cell HI3.out 7 rfl
  go_wp2_with fail
  refine HR0.out.mono ?_
  rintro e' W5 ⟨a0, m0, k0, rfl, hs0, hk0, hb⟩
  have HB5 := Lib.hid (HB3.out.trans (hb.mono HB3.out.size))
  have HI5 := Lib.hid (row_below HI3.out hb)
  have HS0 := Lib.hid hs0
  clear hb hs0 c0 c1 c2 c3 c4 c5 c6 c7 HI3 HB3 HR0 HBA
  have HR := Lib.hid (HBY.out W5 HB5.out (HP1.out trivial) (HP2.out trivial))
  have HP1' := Lib.hid (HP1.out trivial)
  clear HBY HP2 HP1
  have c0 := row_cell HI5.out 0 rfl
  have c1 := row_cell HI5.out 1 rfl
  have c2 := row_cell HI5.out 2 rfl
  have c3 := row_cell HI5.out 3 rfl
  have c4 := row_cell HI5.out 4 rfl
  have c5 := row_cell HI5.out 5 rfl
  have c6 := row_cell HI5.out 6 rfl
  have c7 := row_cell HI5.out 7 rfl
  go_wp2_with fail
  refine HR.out.mono ?_
  rintro e' W6 ⟨a1, m1, k1, rfl, hs1, hk1, hb⟩
  have HB6 := Lib.hid (HB5.out.trans (hb.mono HB5.out.size))
  have HI6 := Lib.hid (row_below HI5.out hb)
  have HS1 := Lib.hid hs1
  replace HS0 := Lib.hid (HS0.out.below hb)
  clear hb hs1 c0 c1 c2 c3 c4 c5 c6 c7 HI5 HB5 HR
  obtain ⟨er, bs⟩ := R
  simp only at HOK HS1 HS0
  have cv0 := run_conv HS0.out k0
  have cv1 := run_conv HS1.out k1
  by_cases her : er = 0
  case neg =>
    have ee : (er != 0) = true := by simpa using her
    clear her
    go_wp2_with fail
    go_ret
    exact ⟨rfl, HB6.out⟩
  subst her
  obtain ⟨PX, hpx, h0m, hm26, hDx, hx300, hyy⟩ := HOK.out rfl HP1'.out
  have HYY := Lib.hid hyy
  have HDX := Lib.hid hDx
  have hm0 := HS0.out.1
  have HPA := Lib.hid (Parse_any W6 a0 m0 k0 bs HS0.out hk0 (by omega))
  unfold ParseRet at HPA
  rw [hpx] at HPA
  simp only at HPA
  have hm0p : 0 < m0 := by omega
  have hm0l : m0 ≤ 1048500 := by omega
  clear hpx h0m hm26 hDx hyy HOK HP1' hm0
  go_wp2_with fail
  refine HPA.out.mono ?_
  rintro e' W7 ⟨y, rfl, hyp, hyr, hb⟩
  obtain ⟨hsx, hy1, hy2, hy3⟩ := HYY.out y hyp
  have HSX := Lib.hid hsx
  have HY1 := Lib.hid hy1
  have HY2 := Lib.hid hy2
  have HY3 := Lib.hid hy3
  have hyk := hyr.k.1
  have HYR := Lib.hid hyr
  have HB7 := Lib.hid (HB6.out.trans (hb.mono HB6.out.size))
  have HI7 := Lib.hid (row_below HI6.out hb)
  have HS7 := Lib.hid (HS0.out.below hb)
  have HCO := Lib.hid (fun (w1 : World) (h : Below W7.heap.size W7 w1) => codes_any w1 y (HYR.out.below h) a0 m0 k0 bs (HS7.out.below h) hk0 hm0p hm0l (by omega) HY2.out)
  unfold CodesRet at HCO
  have HSA := Lib.hid (fun (w1 : World) (h : Below w.heap.size w w1) (h7 : Below W7.heap.size W7 w1) => HSM.out w1 h y (HYR.out.below h7) HSX.out)
  have hyk2 : y.kn = xk := by omega
  clear cv0 cv1 hb hsx hy1 hy2 hy3 hyr hyp HPA HB6 HI6 HS0 HS1 HYY HSM HSX
  obtain ⟨ca1, cn1, cc1, cs1, ma1, mn1, mc1, ms1, st1, sa1, sn1, sc1, ss1, ya1, yn1, yc1, ys1, xa1, xn1, xc1, xs1, ka1, kn1, kc1, ks1, main1⟩ := y
  simp only at hyk hyk2 HY1 HY3 HCO
  subst hyk2
  unfold XW.vals at HCO HSA ⊢
  simp only at HCO HSA ⊢
  go_upto_region 12 with fail
  have HJ8 := Lib.hid (heap_alloc_last W7 (.cells #[.slice ca1 cn1 cc1, .slice ma1 mn1 mc1, .int .i64 st1, .slice sa1 sn1 sc1, .slice ya1 yn1 yc1, .slice xa1 xn1 xc1, .slice ka1 kn1 kc1, .int .i64 main1] 30))
  have hal : Below W7.heap.size W7 (W7.alloc (.cells #[.slice ca1 cn1 cc1, .slice ma1 mn1 mc1, .int .i64 st1, .slice sa1 sn1 sc1, .slice ya1 yn1 yc1, .slice xa1 xn1 xc1, .slice ka1 kn1 kc1, .int .i64 main1] 30)) := (Below.refl _ _).alloc (Nat.le_refl _) _
  have HB8 := Lib.hid (HB7.out.trans (hal.mono HB7.out.size))
  have HI8 := Lib.hid (row_below HI7.out hal)
  have HS8 := Lib.hid (HS7.out.below hal)
  have H78 := Lib.hid hal
  have hz78 := hal.size
  have HCC := Lib.hid (HCO.out _ hal)
  clear hal HB7 HI7 HCO
  generalize W7.alloc (.cells #[.slice ca1 cn1 cc1, .slice ma1 mn1 mc1, .int .i64 st1, .slice sa1 sn1 sc1, .slice ya1 yn1 yc1, .slice xa1 xn1 xc1, .slice ka1 kn1 kc1, .int .i64 main1] 30) = W8 at *
  generalize W7.heap.size = g9 at *
  have d0 := row_cell HJ8.out 0 rfl
  have d1 := row_cell HJ8.out 1 rfl
  have d2 := row_cell HJ8.out 2 rfl
  have d3 := row_cell HJ8.out 3 rfl
  have d4 := row_cell HJ8.out 4 rfl
  have d5 := row_cell HJ8.out 5 rfl
  have d6 := row_cell HJ8.out 6 rfl
  have d7 := row_cell HJ8.out 7 rfl
  go_wp2_with fail
  refine HCC.out.mono ?_
  rintro e' W9 ⟨v, G, rfl, hown, hG, hGF, hb⟩
  obtain ⟨ao, co, rfl, hso, hco⟩ := Sl.ofOwn hown
  have HSO := Lib.hid hso
  have HGD := Lib.hid (hG.trans HY1.out)
  have HGF := Lib.hid (fun f hf => (hGF f hf).below hb)
  have HB9 := Lib.hid (HB8.out.trans (hb.mono HB8.out.size))
  have HI9 := Lib.hid (row_below HI8.out hb)
  have HJ9 := Lib.hid (row_below HJ8.out hb)
  have H79 := Lib.hid (H78.out.trans (hb.mono hz78))
  clear hown hso hG hGF hb d0 d1 d2 d3 d4 d5 d6 d7 HJ8 HB8 HI8 HS8 H78 HCC HY1
  have c0 := row_cell HI9.out 0 rfl
  have c1 := row_cell HI9.out 1 rfl
  have c2 := row_cell HI9.out 2 rfl
  have c3 := row_cell HI9.out 3 rfl
  have c4 := row_cell HI9.out 4 rfl
  have c5 := row_cell HI9.out 5 rfl
  have c6 := row_cell HI9.out 6 rfl
  have c7 := row_cell HI9.out 7 rfl
  have d0 := row_cell HJ9.out 0 rfl
  have d1 := row_cell HJ9.out 1 rfl
  have d2 := row_cell HJ9.out 2 rfl
  have d3 := row_cell HJ9.out 3 rfl
  have d4 := row_cell HJ9.out 4 rfl
  have d5 := row_cell HJ9.out 5 rfl
  have d6 := row_cell HJ9.out 6 rfl
  have d7 := row_cell HJ9.out 7 rfl
  have hkn : n = kn1 := by have h1 := HDX.out; have h2 := HFL.out; rw [HD.out, List.length_map] at h1; omega
  go_wp2_with fail
  refine (HSA.out W9 HB9.out H79.out).mono ?_
  rintro e' WA ⟨rfl, hb⟩
  have HBA := Lib.hid (HB9.out.trans (hb.mono HB9.out.size))
  replace HSO := Lib.hid (HSO.out.below hb)
  replace HGF := Lib.hid (fun f hf => (HGF.out f hf).below hb)
  clear hb c0 c1 c2 c3 c4 c5 c6 c7 d0 d1 d2 d3 d4 d5 d6 d7 HI9 HJ9 HB9 H79 HSA
  subst hkn
  go_wp2_with fail
  go_loopg [80] n (fun gn i wr => ∃ j : Nat, j ≤ n ∧ gn = n - j ∧ i = .int .i64 j ∧ Hid (Below WA.heap.size WA wr))
  case atStart => exact ⟨0, by omega, by omega, by go_num, Lib.hid (Below.refl _ _)⟩
  case round =>
    obtain ⟨j, hj, rfl, rfl, HB⟩ := hrel
    by_cases hlt : j < n
    · obtain ⟨b1, off1, g, rfl, hb1, hgj, p0⟩ := (HSO.out.below HB.out).getB j hlt
      obtain ⟨b2, off2, f, rfl, hb2, hfj, q0⟩ := (HF.out.below (HBA.out.trans (HB.out.mono HBA.out.size))).getB j hlt
      have hgf := (HGF.out g (List.mem_of_getElem? hgj)).below HB.out
      have hff := (HFF.out f (List.mem_of_getElem? hfj)).below (HBA.out.trans (HB.out.mono HBA.out.size))
      have hdd : g.data = f.data := map_at (HGD.out.trans HD.out) hgj hfj
      obtain ⟨ga, gn', gc, gd⟩ := g
      obtain ⟨fa, fn', fc, fd⟩ := f
      simp only at hdd p0 q0
      subst hdd
      have hgs := hgf.1
      have hfs := hff.1
      simp only at hgs hfs
      go_upto_region 18 with fail
      have hEQ : EqW wr.drew wr.drew := rfl
      have l0 := fun u (h : EqW wr.drew u) => eqw_cell h p0
      have k0 := fun u (h : EqW wr.drew u) => eqw_cell h q0
      have lc := fun u (h : EqW wr.drew u) => (show (convert 35 9 (.slice ga gn' gc)).run Try.prog u = .ok (.string ⟨gd.toArray⟩) u by rw [show u = wr.drew from h]; exact run_conv (hgs.below (Below.refl wr.heap.size wr).drew) gc)
      have kc := fun u (h : EqW wr.drew u) => (show (convert 35 9 (.slice fa fn' fc)).run Try.prog u = .ok (.string ⟨gd.toArray⟩) u by rw [show u = wr.drew from h]; exact run_conv (hfs.below (Below.refl wr.heap.size wr).drew) fc)
      clear p0 q0 hgf hff hgs hfs hgj hfj
      refine wp_region_lexS (EqW wr.drew) (.stir [(0, true), (1, true), (2, true), (3, true), (4, true), (5, true), (6, true), (7, true), (8, true), (9, true), (10, true)]) (by kernel_rfl) (by kernel_rfl) (fun c a d v w h => by cases d <;> exact h) ?_
      refine lexS_stir (EqW wr.drew) (fun y hy => hy) rfl ?_
      iterate 11
        refine stir_step (fun K hK => ?_)
        simp only [stirOp, List.getElem?_toArray, List.getElem?_cons_succ, List.getElem?_cons_zero]
        rw [if_pos (by rfl)]
        apply Exists.intro
        refine ⟨fun w' hS' => ?_, ?_⟩
        · first | (go_simp <;> with_reducible rfl) | (go_simp; go_bits; with_reducible rfl)
        go_simp
        try go_bits
        refine hK _ ?_
        clear hK K
      refine stir_nil (fun u hu => ?_)
      obtain rfl : u = wr.drew := hu
      clear l0 k0 lc kc
      go_wp2_with fail
      go_roundg (n - (j + 1))
      case measure => omega
      case rel => exact ⟨j + 1, by omega, rfl, by go_num, Lib.hid HB.out.drew⟩
    · obtain rfl : n = j := by omega
      go_wp2_with fail
      go_ret
      exact ⟨rfl, HBA.out.trans (HB.out.mono HBA.out.size)⟩
theorem walk_ImageBytes (x : XW) (a : Option Addr) (n cap : Nat) (w : World) (h0 : IsImg w x) (h1 : IsBss w a n cap) :
    Calls Try.prog 3 #[.agg x.vals, .slice a n cap] w fun e w' => e = .returned (.bool true) ∧ Below w.heap.size w w' :=
  walk_ImageBytesX w x h0.1 h0.2.1 h0.2.2 a n cap h1
end Go.Proofs.Ytbcldlbmbdfejaa
