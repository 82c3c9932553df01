/- image: the reference's Bytes. No condition. -/
import Derived.Test.YtbcldlbmbdfejaaQ18ImageBytes
namespace Go.Proofs.Ytbcldlbmbdfejaa
open Go.ChangeShapes Go.WideShapes Go.ChangeAt Go.RowKit
theorem any_of {α : Type} {F G : α → Bool} {l : List α} (h : l.all F = false) (hFG : ∀ v, F v = false → G v = true) : l.any G = true := by
  rw [List.all_eq_false] at h
  obtain ⟨v, hv, h1⟩ := h
  rw [List.any_eq_true]
  exact ⟨v, hv, hFG v (by simpa using h1)⟩
theorem least_oddC (c : CW) (h : leastC c = false) : c.odd = true := by
  unfold leastC at h
  unfold CW.odd badN oddN
  simp at h ⊢
  omega
theorem least_oddM (c : MW) (h : leastM c = false) : c.odd = true := by
  unfold leastM at h
  unfold MW.odd badN oddN
  simp at h ⊢
  by_cases h1 : 65534 < c.slot
  · simp [h1]
  · simp [h (by omega)]
theorem least_oddT (c : TW) (h : leastT c = false) : c.odd = true := by
  unfold leastT at h
  unfold TW.odd badN oddN
  simp at h ⊢
  omega
theorem heads_odd (P : List (KW × List UInt8)) (pos : Int) (h : (P.map (·.1)).all (fun k => k.traps.all leastT) = false) : headsO pos P = true := by
  induction P generalizing pos with
  | nil => simp at h
  | cons p P ih =>
    rw [List.map_cons, List.all_cons, Bool.and_eq_false_iff] at h
    rw [headsO, Bool.or_eq_true]
    rcases h with h | h
    · left
      unfold codeO rowO
      rw [any_of h least_oddT]
      simp
    · exact .inr (ih _ h)
theorem least_odd (x : XW) (D : List (List UInt8)) (hD : D.length = x.ks.length) (h : leastX x = false) : oddX x D = true := by
  unfold leastX at h
  rw [Bool.and_eq_false_iff, Bool.and_eq_false_iff] at h
  unfold oddX
  rw [Bool.or_eq_true]
  rcases h with (h | h) | h
  · left
    unfold tabO rowO
    rw [any_of h least_oddC]
    simp
  · left
    unfold tabO rowO
    rw [any_of h least_oddM]
    simp
  · right
    refine heads_odd _ _ ?_
    rw [List.map_fst_zip (by omega)]
    exact h
/-- What the region ahead of the second head reads. -/
def RbS (gi g1 : Nat) (C : Array Value) (a : Option Addr) (n c : Nat) (w : World) : Prop := w.heap[gi]? = some (.cells C 30) ∧ w.cell? ⟨g1, 0, none⟩ = some (.slice a n c)
set_option maxRecDepth 100000 in
set_option maxHeartbeats 32000000 in
theorem refBytes_any (w : World) (x : XW) (hx : x.Rd w) (hr : x.Right) (a : Option Addr) (n cap : Nat) (F : List BV) (hF : Sl BV.enc w a n F) (hf : ∀ f ∈ F, BVf w f) (hlen : x.ks.length = x.ms.length → F.length = x.ks.length → startX x + lensL (F.map (·.data)) ≤ 1000000) :
    Calls Try.prog 11 #[.agg x.vals, .slice a n cap] w (BytesRet (imgBytes x (F.map (·.data))) w) := by
  obtain ⟨R, hR⟩ : ∃ R, R = imgBytes x (F.map (·.data)) := ⟨_, rfl⟩
  rw [← hR]
  have HR := Lib.hid hR
  have HX := Lib.hid hx
  have HRR := Lib.hid hr
  have HF := Lib.hid hF
  have HFF := Lib.hid hf
  have HLn := Lib.hid hF.1
  have HLK := Lib.hid hx.k.1
  have HLM := Lib.hid hx.m.1
  have hlen' := hlen
  rw [hx.k.1, hx.m.1, hF.1] at hlen'
  clear hR hx hr hF hf hlen
  have HIB := Lib.hid (heap_alloc_last w (.cells x.vals 30))
  have hal : Below w.heap.size w (w.alloc (.cells x.vals 30)) := (Below.refl _ _).alloc (Nat.le_refl _) _
  have HB1 := Lib.hid hal
  clear hal
  by_cases hm : x.kn = x.mn
  case neg =>
    have HQ := Lib.hid (show R = (8, []) by rw [HR.out]; unfold imgBytes; rw [if_pos (.inl (by rw [HLK.out, HLM.out]; exact hm))])
    obtain ⟨ca, cn, cc, cs, ma, mn, mc, ms, st, sa, sn, sc, ss, ya, yn, yc, ys, xa, xn, xc, xs, ka, kn, kc, ks, main⟩ := x
    simp only at hm
    have e1 : ((kn : Int) != (mn : Int)) = true := by simp; omega
    clear hm
    unfold XW.vals at *
    simp only at *
    go_enter Try.func11, Try.ntmps11
    go_upto_region 1 with fail
    generalize w.alloc _ = W1 at *
    have c0 := row_cell HIB.out 6 rfl
    have c1 := row_cell HIB.out 1 rfl
    go_wp2_with fail
    go_ret2
    exact BytesRet.err HQ.out HB1.out
  by_cases hn : n = x.kn
  case neg =>
    have HQ := Lib.hid (show R = (8, []) by rw [HR.out]; unfold imgBytes; rw [if_pos (.inr (by rw [List.length_map, HLK.out, HLn.out]; exact hn))])
    obtain ⟨ca, cn, cc, cs, ma, mn, mc, ms, st, sa, sn, sc, ss, ya, yn, yc, ys, xa, xn, xc, xs, ka, kn, kc, ks, main⟩ := x
    simp only at hm hn
    have e1 : ((kn : Int) != (mn : Int)) = false := by simp; omega
    have e2 : ((n : Int) != (kn : Int)) = true := by simp; omega
    clear hm hn
    unfold XW.vals at *
    simp only at *
    go_enter Try.func11, Try.ntmps11
    go_upto_region 1 with fail
    generalize w.alloc _ = W1 at *
    have c0 := row_cell HIB.out 6 rfl
    have c1 := row_cell HIB.out 1 rfl
    go_wp2_with fail
    go_ret2
    exact BytesRet.err HQ.out HB1.out
  have hlen := hlen' hm hn
  have HDK := Lib.hid (show (F.map (·.data)).length = x.ks.length by rw [List.length_map, HLn.out, HLK.out]; exact hn)
  have HQ0 := Lib.hid (show R = if oddX x (F.map (·.data)) = true then (8, []) else if 262144 < (bytesX x (F.map (·.data))).length then (9, []) else (0, bytesX x (F.map (·.data))) by
    rw [HR.out]; unfold imgBytes; rw [if_neg (by rw [HLK.out, HLM.out, List.length_map, HLn.out]; omega)])
  have HLA := Lib.hid (fun (w' : World) (h : Below w.heap.size w w') => least_any w' x (show x.Rd w' from ⟨HX.out.c.below h, fun c hc => (HX.out.cr c hc).below h, HX.out.m.below h, HX.out.s.below h, HX.out.y.below h, HX.out.tx.below h, HX.out.k.below h, fun k hk => ⟨(HX.out.kr k hk).t.below h, (HX.out.kr k hk).tc⟩⟩) HRR.out)
  have HLO := Lib.hid (fun h => least_odd x (F.map (·.data)) HDK.out h)
  have HDL := Lib.hid (show (bytesX x (F.map (·.data))).length = startX x + lensL (F.map (·.data)) from bytesX_len x _ HDK.out)
  have HTL := Lib.hid (show (tabB x).length + sizeK x.ks + lensL (F.map (·.data)) ≤ 1000000 from hlen)
  have HHD := Lib.hid (fun (hle : leastX x = true) (w' : World) (g : Nat) (pos : Nat) (hb : Below w.heap.size w w') (hg : w.heap.size ≤ g) (hW : Blk2 w' g (.slice none 0 0) (.bool false) 75) (hpos : pos + lensL (F.map (·.data)) ≤ 1000000) =>
    head_any w w' g x HX.out HRR.out hle a n cap F HF.out HFF.out hn pos hb hg hW (by have := HTL.out; omega) hpos)
  have HH0 := Lib.hid (show ∀ p, (headX x (F.map (·.data)) p).length = startX x from fun p => by
    unfold headX startX
    rw [List.length_append, headsB_len, List.map_fst_zip (by rw [HDK.out]; exact Nat.le_refl _)])
  have HBX := Lib.hid (show bytesX x (F.map (·.data)) = headX x (F.map (·.data)) (startX x : Nat) ++ (F.map (·.data)).flatten from rfl)
  have HOX := Lib.hid (show oddX x (F.map (·.data)) = headO x (F.map (·.data)) (startX x : Nat) from rfl)
  have HPB := Lib.hid (show startX x + lensL (F.map (·.data)) ≤ 1000000 from hlen)
  have hn6 : n ≤ 1000000 := by
    have h1 := HTL.out
    have h2 : x.ks.length ≤ sizeK x.ks := by
      unfold sizeK
      generalize x.ks = L
      induction L with
      | nil => simp
      | cons k L ih => simp only [List.length_cons, List.map_cons, List.sum_cons]; omega
    have h3 := HLK.out
    omega
  clear hlen' hlen HR
  generalize leastX x = lx at *
  generalize headX x (F.map (·.data)) = hX at *
  generalize headO x (F.map (·.data)) = hO at *
  generalize startX x = P at *
  generalize oddX x (F.map (·.data)) = oX at *
  generalize bytesX x (F.map (·.data)) = bX at *
  clear HX HRR HDK HTL
  obtain ⟨ca, cn, cc, cs, ma, mn, mc, ms, st, sa, sn, sc, ss, ya, yn, yc, ys, xa, xn, xc, xs, ka, kn, kc, ks, main⟩ := x
  simp only at hm hn
  subst hm hn
  have e1 : ((n : Int) != (n : Int)) = false := by simp
  unfold XW.vals at *
  simp only at *
  go_enter Try.func11, Try.ntmps11
  go_upto_region 1 with fail
  generalize w.alloc _ = W1 at *
  have c0 := row_cell HIB.out 0 rfl
  have c1 := row_cell HIB.out 1 rfl
  have c2 := row_cell HIB.out 2 rfl
  have c3 := row_cell HIB.out 3 rfl
  have c4 := row_cell HIB.out 4 rfl
  have c5 := row_cell HIB.out 5 rfl
  have c6 := row_cell HIB.out 6 rfl
  have c7 := row_cell HIB.out 7 rfl
  go_wp2_with fail
  refine (HLA.out W1 HB1.out).mono ?_
  rintro e' W2 ⟨rfl, hb2⟩
  have HI2 := Lib.hid (row_below HIB.out hb2)
  have HB2 := Lib.hid (HB1.out.trans (hb2.mono HB1.out.size))
  clear hb2 c0 c1 c2 c3 c4 c5 c6 c7 HIB HB1 HLA
  cases lx with
  | false =>
    have HQ := Lib.hid (show R = (8, []) by rw [HQ0.out, HLO.out rfl]; rfl)
    clear HQ0 HLO
    go_wp2_with fail
    go_ret2
    exact BytesRet.err HQ.out HB2.out
  | true =>
  clear HLO
  go_upto_region 4 with fail
  have h23 : Below W2.heap.size W2 (W2.alloc (.cells #[.slice none 0 0, .bool false] 75)) := (Below.refl _ _).alloc (Nat.le_refl _) _
  have HG3 := Lib.hid (show Blk2 (W2.alloc (.cells #[.slice none 0 0, .bool false] 75)) W2.heap.size (.slice none 0 0) (.bool false) 75 from heap_alloc_last W2 _)
  have HI3 := Lib.hid (row_below HI2.out h23)
  have HB3 := Lib.hid (HB2.out.trans (h23.mono HB2.out.size))
  have hgw : w.heap.size < W2.heap.size := row_lt HI2.out
  clear h23 HI2 HB2
  generalize W2.alloc (.cells #[.slice none 0 0, .bool false] 75) = W3 at *
  generalize W2.heap.size = g1 at *
  have HC1 := HHD.out trivial W3 g1 0 HB3.out (by omega) HG3.out (by have := HPB.out; omega)
  rw [Int.natCast_zero] at HC1
  have HC1' := Lib.hid HC1
  clear HC1
  have c0 := row_cell HI3.out 0 rfl
  have c1 := row_cell HI3.out 1 rfl
  have c2 := row_cell HI3.out 2 rfl
  have c3 := row_cell HI3.out 3 rfl
  have c4 := row_cell HI3.out 4 rfl
  have c5 := row_cell HI3.out 5 rfl
  have c6 := row_cell HI3.out 6 rfl
  have c7 := row_cell HI3.out 7 rfl
  go_wp2_with fail
  refine HC1'.out.mono ?_
  rintro e' W4 ⟨rfl, hw4, hk4⟩
  have HI4 := Lib.hid (hk4.blk HI3.out (by omega))
  have HB4 := Lib.hid (hk4.below HB3.out (Nat.le_refl _) (by omega))
  obtain ⟨a4, n4, k4, hk4', hs4, _, _, _⟩ := hw4
  have hn4 : n4 = P := by rw [← hs4.1, HH0.out]
  subst hn4
  have HG4 := Lib.hid hk4'
  clear hk4 hk4' hs4 HI3 HB3 HC1' c0 c1 c2 c3 c4 c5 c6 c7 HG3
  go_upto_region 6 with fail
  have h45 : Below W4.heap.size W4 (W4.alloc (.cells #[.slice none 0 0, .bool false] 75)) := (Below.refl _ _).alloc (Nat.le_refl _) _
  have HG5 := Lib.hid (show Blk2 (W4.alloc (.cells #[.slice none 0 0, .bool false] 75)) W4.heap.size (.slice none 0 0) (.bool false) 75 from heap_alloc_last W4 _)
  have HI5 := Lib.hid (row_below HI4.out h45)
  have HF5 := Lib.hid (HG4.out.below h45)
  have HB5 := Lib.hid (HB4.out.trans (h45.mono HB4.out.size))
  have hg12 : g1 < W4.heap.size := HG4.out.box.lt
  clear h45 HI4 HB4 HG4
  generalize W4.alloc (.cells #[.slice none 0 0, .bool false] 75) = W5 at *
  generalize W4.heap.size = g2 at *
  have hSw : RbS w.heap.size g1 #[.slice ca cn cc, .slice ma n mc, .int .i64 st, .slice sa sn sc, .slice ya yn yc, .slice xa xn xc, .slice ka n kc, .int .i64 main] a4 n4 k4 W5.drew := ⟨row_below HI5.out (Below.refl _ _).drew, HF5.out.box.c0⟩
  have l0 := fun z (h : RbS w.heap.size g1 #[.slice ca cn cc, .slice ma n mc, .int .i64 st, .slice sa sn sc, .slice ya yn yc, .slice xa xn xc, .slice ka n kc, .int .i64 main] a4 n4 k4 z) => row_cell h.1 0 rfl
  have l1 := fun z (h : RbS w.heap.size g1 #[.slice ca cn cc, .slice ma n mc, .int .i64 st, .slice sa sn sc, .slice ya yn yc, .slice xa xn xc, .slice ka n kc, .int .i64 main] a4 n4 k4 z) => row_cell h.1 1 rfl
  have l2 := fun z (h : RbS w.heap.size g1 #[.slice ca cn cc, .slice ma n mc, .int .i64 st, .slice sa sn sc, .slice ya yn yc, .slice xa xn xc, .slice ka n kc, .int .i64 main] a4 n4 k4 z) => row_cell h.1 2 rfl
  have l3 := fun z (h : RbS w.heap.size g1 #[.slice ca cn cc, .slice ma n mc, .int .i64 st, .slice sa sn sc, .slice ya yn yc, .slice xa xn xc, .slice ka n kc, .int .i64 main] a4 n4 k4 z) => row_cell h.1 3 rfl
  have l4 := fun z (h : RbS w.heap.size g1 #[.slice ca cn cc, .slice ma n mc, .int .i64 st, .slice sa sn sc, .slice ya yn yc, .slice xa xn xc, .slice ka n kc, .int .i64 main] a4 n4 k4 z) => row_cell h.1 4 rfl
  have l5 := fun z (h : RbS w.heap.size g1 #[.slice ca cn cc, .slice ma n mc, .int .i64 st, .slice sa sn sc, .slice ya yn yc, .slice xa xn xc, .slice ka n kc, .int .i64 main] a4 n4 k4 z) => row_cell h.1 5 rfl
  have l6 := fun z (h : RbS w.heap.size g1 #[.slice ca cn cc, .slice ma n mc, .int .i64 st, .slice sa sn sc, .slice ya yn yc, .slice xa xn xc, .slice ka n kc, .int .i64 main] a4 n4 k4 z) => row_cell h.1 6 rfl
  have l7 := fun z (h : RbS w.heap.size g1 #[.slice ca cn cc, .slice ma n mc, .int .i64 st, .slice sa sn sc, .slice ya yn yc, .slice xa xn xc, .slice ka n kc, .int .i64 main] a4 n4 k4 z) => row_cell h.1 7 rfl
  have l8 := fun z (h : RbS w.heap.size g1 #[.slice ca cn cc, .slice ma n mc, .int .i64 st, .slice sa sn sc, .slice ya yn yc, .slice xa xn xc, .slice ka n kc, .int .i64 main] a4 n4 k4 z) => h.2
  refine wp_region_lexS (RbS w.heap.size g1 #[.slice ca cn cc, .slice ma n mc, .int .i64 st, .slice sa sn sc, .slice ya yn yc, .slice xa xn xc, .slice ka n kc, .int .i64 main] a4 n4 k4) (.of [(0, true), (1, true), (2, true), (3, true), (4, true), (5, true), (6, true), (7, true), (8, false)] (.stir [])) (by kernel_rfl) (by kernel_rfl) (fun c a d v w h => by cases d <;> exact h) ?_
  iterate 8
    refine lexS_step (fun K hK => ?_)
    simp only [lexOp, List.getElem?_toArray, List.getElem?_cons_succ, List.getElem?_cons_zero]
    rw [if_pos (by rfl)]
    apply Exists.intro
    refine ⟨fun w' hS' => ?_, hSw, ?_⟩
    · first | (go_simp <;> with_reducible rfl) | (go_simp; go_bits; with_reducible rfl)
    go_simp
    try go_bits
    refine hK _ _ ?_
    clear hK K
  refine lexS_step (fun K hK => ?_)
  simp only [lexOp, List.getElem?_toArray, List.getElem?_cons_succ, List.getElem?_cons_zero]
  rw [if_pos (by rfl)]
  go_step
  refine (HHD.out trivial W5.drew g2 n4 (HB5.out.drew) (by omega) (HG5.out.below (Below.refl _ _).drew) HPB.out).mono ?_
  rintro e' W6 ⟨rfl, hw6, hk6⟩
  have HW6 := Lib.hid hw6
  have HB6 := Lib.hid (hk6.below HB5.out.drew (Nat.le_refl _) (by omega))
  have hSw6 : RbS w.heap.size g1 #[.slice ca cn cc, .slice ma n mc, .int .i64 st, .slice sa sn sc, .slice ya yn yc, .slice xa xn xc, .slice ka n kc, .int .i64 main] a4 n4 k4 W6 := ⟨hk6.blk hSw.1 (by omega), by rw [hk6.cell (show g1 < W5.drew.heap.size from HF5.out.box.lt) (by omega)]; exact hSw.2⟩
  refine ⟨hSw6, ?_⟩
  go_simp
  refine hK _ _ ?_
  clear hK K hw6 hk6 l0 l1 l2 l3 l4 l5 l6 l7 l8 HI5 HF5 HB5 HG5 hSw HHD
  refine lexS_stir (fun y => y = W6) (fun y hy => hy ▸ hSw6) rfl ?_
  refine stir_nil (fun y hy => ?_)
  obtain rfl : W6 = y := hy.symm
  clear hy hSw6
  have HL5 := Lib.hid (show (hX n4).length + lensL (F.map (·.data)) ≤ 1000000 by rw [HH0.out]; exact HPB.out)
  have HBX2 := Lib.hid (show bX = hX n4 ++ (F.map (·.data)).flatten from HBX.out)
  have HOX2 := Lib.hid (show oX = hO n4 from HOX.out)
  clear HBX HOX HH0
  generalize hX n4 = e at *
  generalize hO n4 = od at *
  obtain ⟨a5, n5, c5, hk5, hs5, hc5, ho5, hw5⟩ := HW6.out
  have HK5 := Lib.hid hk5
  obtain ⟨q0, q1, r0, r1, lt5⟩ := HK5.out.box
  clear hk5 hs5 hc5 ho5 hw5
  cases od with
  | true =>
    have HQ := Lib.hid (show R = (8, []) by rw [HQ0.out, HOX2.out]; rfl)
    clear HQ0
    go_wp2_with fail
    go_ret2
    exact BytesRet.err HQ.out HB6.out
  | false =>
  go_wp2_with fail
  clear q0 q1 r0 r1 lt5 HK5
  go_loopg [54] n (fun gn i wr => ∃ j : Nat, j ≤ n ∧ gn = n - j ∧ i = .int .i64 j ∧ Hid (RWr (g2 + 1) wr g2 (e ++ ((F.map (·.data)).take j).flatten) false) ∧ Hid (Below w.heap.size w wr))
  case atStart => exact ⟨0, by omega, by omega, by go_num, Lib.hid (by simpa using HW6.out), HB6⟩
  case round =>
    obtain ⟨j, hj, rfl, rfl, HW, HB⟩ := hrel
    by_cases hlt : j < n
    · obtain ⟨b2, off2, f, rfl, hb2l, hfj, cf⟩ := Sl.get1 (HF.out.below HB.out) j hlt
      have hff := HFF.out f (List.mem_of_getElem? hfj)
      have hdj : (F.map (·.data))[j]? = some f.data := by rw [List.getElem?_map, hfj]; rfl
      have HFT := Lib.hid (show e ++ ((F.map (·.data)).take (j + 1)).flatten = e ++ ((F.map (·.data)).take j).flatten ++ f.data by rw [take_snocX hdj, List.flatten_append, List.append_assoc]; simp)
      have hle := lensL_take (F.map (·.data)) (j + 1)
      have hlf : lensL ((F.map (·.data)).take (j + 1)) = lensL ((F.map (·.data)).take j) + f.data.length := by rw [take_snocX hdj, lensL_snoc]
      have hdl : f.data.length = f.dn := hff.1.1
      have HEL := Lib.hid (show (e ++ ((F.map (·.data)).take j).flatten).length + f.dn ≤ 1000000 by rw [List.length_append, flatten_len]; have := HL5.out; omega)
      obtain ⟨fa, fn, fc, fd⟩ := f
      simp only at hdl HEL HFT hff
      unfold BV.enc at cf
      simp only at cf
      have HSD := Lib.hid (hff.1.below HB.out)
      clear hfj hdj hle hlf hff
      generalize e ++ ((F.map (·.data)).take j).flatten = ej at *
      obtain ⟨a5, n5, c5, hk5, hs5, hc5, ho5, hw5⟩ := HW.out
      have hn5 : n5 + fn ≤ 1000000 := by have := HEL.out; rw [hs5.1] at this; exact this
      have HK5 := Lib.hid hk5
      have HO5 := Lib.hid hw5
      have hlt5 := hk5.box.lt
      clear hk5 hs5 hc5 ho5 hw5 HW hdl
      obtain ⟨q0, q1, r0, r1, lt5⟩ := HK5.out.box
      go_wp2_with (at_builtin; refine wpList_app1 oneN rfl _ _ _ rfl (g2 + 1) _ n5 _ rfl HO5.out _ fn (fd.map encB) rfl (HSD.out.src encB_cell Try.underlying35 fc) (by omega) (by unfold maxLen; omega) (by omega) ?_; intro v6 W7 hown6 hg6 hb6; rw [← List.map_append] at hown6; have hq6 := KeptT.app0 HO5.out hg6; have HK6 := Lib.hid (show Blk2 W7 g2 (.slice a5 n5 c5) (.bool false) 75 from hq6.2 _ _ _ _ HK5.out (by decide)); obtain ⟨a6, k6, rfl, hs6, hc6⟩ := Sl.ofOwn hown6; have HS6 := Lib.hid hs6; have HB7 := Lib.hid (HB.out.trans (hb6.mono (by omega))); have HO6 := Lib.hid hown6; clear q0 q1 r0 r1 lt5 hown6 hg6 hq6 hb6 hs6; obtain ⟨q0, q1, r0, r1, lt5⟩ := HK6.out.box)
      go_roundg (n - (j + 1))
      case measure => omega
      case rel =>
        refine ⟨j + 1, by omega, rfl, by go_num, Lib.hid ?_, Lib.hid (HB7.out.setCell (by show w.heap.size ≤ g2; omega) _)⟩
        rw [HFT.out]
        exact ⟨a6, _, k6, HK6.out.set0, HS6.out.keep1 ((Keep1.refl g2 W7).set 0 _) (Off1.own HO6.out (by omega)), hc6, Off1.own HO6.out (by omega), own_keep1 HO6.out ((Keep1.refl g2 W7).set 0 _) (by omega)⟩
    · obtain rfl : n = j := by omega
      have HZ1 := Lib.hid (show (F.map (·.data)).take n = F.map (·.data) by rw [List.take_of_length_le (by rw [List.length_map, HLn.out]; exact Nat.le_refl _)])
      rw [HZ1.out, ← HBX2.out] at HW
      obtain ⟨a5, n5, c5, hk5, hs5, hc5, ho5, hw5⟩ := HW.out
      have HK5 := Lib.hid hk5
      have HS5 := Lib.hid hs5
      rw [hs5.1] at HQ0 HDL
      have hn5 : n5 ≤ 1000000 := by have := HDL.out; have := HPB.out; omega
      obtain ⟨q0, q1, r0, r1, lt5⟩ := hk5.box
      clear hk5 hs5 ho5 hw5 HW HDL
      by_cases h9 : 262144 < n5
      · have HQ := Lib.hid (show R = (9, []) by rw [HQ0.out, HOX2.out, if_neg (by decide), if_pos h9])
        have ed : decide ((262144 : Int) < n5) = true := by simp; omega
        clear HQ0
        go_wp2_with fail
        go_ret2
        exact BytesRet.err HQ.out HB.out
      · have HQ := Lib.hid (show R = (0, bX) by rw [HQ0.out, HOX2.out, if_neg (by decide), if_neg h9])
        have ed : decide ((262144 : Int) < n5) = false := by simp; omega
        clear HQ0
        go_wp2_with fail
        go_ret2
        exact ⟨a5, n5, c5, by rw [HQ.out]; rfl, by rw [HQ.out]; exact HS5.out, hc5, HB.out⟩
end Go.Proofs.Ytbcldlbmbdfejaa
/- image: is it small enough to be asked about? No condition. -/
namespace Go.Proofs.Ytbcldlbmbdfejaa
open Go.ChangeShapes Go.WideShapes Go.ChangeAt Go.RowKit
/-- An answer that, where it is yes, tells something. -/
def AskR (P : Prop) (w : World) (e : Ending) (w' : World) : Prop := ∃ b : Bool, e = .returned (.bool b) ∧ w = w' ∧ (b = true → P)
theorem AskR.no {P : Prop} {w : World} {e : Ending} (h : e = .returned (.bool false)) : AskR P w e w := ⟨false, h, rfl, fun h => by simp at h⟩
theorem AskR.yes {P : Prop} {w : World} {e : Ending} (h : e = .returned (.bool true)) (hp : P) : AskR P w e w := ⟨true, h, rfl, fun _ => hp⟩
def SmallP (F : List BV) (n : Nat) : Prop := lensL (F.map (·.data)) ≤ 420000 ∧ n ≤ 300
set_option maxRecDepth 100000 in
set_option maxHeartbeats 8000000 in
theorem small_any (w : World) (a : Option Addr) (n cap : Nat) (F : List BV) (hF : Sl BV.enc w a n F) (hn9 : n ≤ 9223372036854775807) (hf : ∀ f ∈ F, BVf w f) :
    Calls Try.prog 9 #[.slice a n cap] w (AskR (SmallP F n) w) := by
  have HF := Lib.hid hF
  have HFF := Lib.hid hf
  have HLn := Lib.hid hF.1
  clear hF hf
  go_enter Try.func9, Try.ntmps9
  go_wp2_with fail
  go_loopg [8, 3] n (fun gn i v wr => ∃ j T : Nat, j ≤ n ∧ gn = n - j ∧ i = .int .i64 j ∧ v = .int .i64 T ∧ T ≤ 420000 ∧ (6 < n → T ≤ 5000) ∧ T ≤ 70000 * j ∧ Hid (T = lensL ((F.map (·.data)).take j)) ∧ w = wr)
  case atStart => exact ⟨0, 0, by omega, by omega, by go_num, rfl, by omega, by omega, by omega, Lib.hid (by simp [lensL]), rfl⟩
  case round =>
    obtain ⟨j, T, hj, rfl, rfl, rfl, hT, hT6, hTj, HT, rfl⟩ := hrel
    by_cases hlt : j < n
    · obtain ⟨b2, off2, f, rfl, hb2l, hfj, cf⟩ := HF.out.get1 j hlt
      have hff := HFF.out f (List.mem_of_getElem? hfj)
      have hdj : (F.map (·.data))[j]? = some f.data := by rw [List.getElem?_map, hfj]; rfl
      have HST := Lib.hid (show lensL ((F.map (·.data)).take (j + 1)) = lensL ((F.map (·.data)).take j) + f.dn by rw [take_snocX hdj, lensL_snoc, hff.1.1])
      obtain ⟨fa, fn, fc, fd⟩ := f
      simp only at HST
      unfold BV.enc at cf
      simp only at cf
      clear hfj hdj hff
      by_cases h7 : 70000 < fn
      · have ed : decide ((70000 : Int) < fn) = true := by simp; omega
        go_wp2_with fail
        go_ret
        exact AskR.no rfl
      · have ed : decide ((70000 : Int) < fn) = false := by simp; omega
        obtain ⟨T2, hT2⟩ : ∃ T2, T + fn = T2 := ⟨_, rfl⟩
        have HT2 := Lib.hid hT2
        have eT : (T : Int) + fn = (T2 : Int) := by omega
        have hTb : T2 ≤ 500000 := by omega
        clear hT2
        by_cases h5 : 5000 < T2
        · have e5 : decide ((5000 : Int) < T2) = true := by simp; omega
          by_cases h6 : 6 < n
          · have e6 : decide ((6 : Int) < n) = true := by simp; omega
            go_wp2_with fail
            go_ret
            exact AskR.no rfl
          · have e6 : decide ((6 : Int) < n) = false := by simp; omega
            go_wp2_with fail
            go_roundg (n - (j + 1))
            case measure => omega
            case rel => exact ⟨j + 1, T2, by omega, rfl, by go_num, rfl, by have := HT2.out; omega, by omega, by have := HT2.out; omega, Lib.hid (by rw [HST.out, ← HT.out]; exact HT2.out.symm), rfl⟩
        · have e5 : decide ((5000 : Int) < T2) = false := by simp; omega
          go_wp2_with fail
          go_roundg (n - (j + 1))
          case measure => omega
          case rel => exact ⟨j + 1, T2, by omega, rfl, by go_num, rfl, by omega, by omega, by have := HT2.out; omega, Lib.hid (by rw [HST.out, ← HT.out]; exact HT2.out.symm), rfl⟩
    · obtain rfl : n = j := by omega
      have HLE := Lib.hid (show (F.map (·.data)).take n = F.map (·.data) by rw [List.take_of_length_le (by rw [List.length_map, HLn.out]; exact Nat.le_refl _)])
      rw [HLE.out] at HT
      by_cases h3 : n ≤ 300
      · have e3 : decide ((n : Int) ≤ 300) = true := by simp; omega
        go_wp2_with fail
        go_ret
        exact AskR.yes rfl ⟨by rw [← HT.out]; exact hT, h3⟩
      · have e3 : decide ((n : Int) ≤ 300) = false := by simp; omega
        go_wp2_with fail
        go_ret
        exact AskR.no rfl
end Go.Proofs.Ytbcldlbmbdfejaa
/- image: is a layout small enough? No condition. -/
namespace Go.Proofs.Ytbcldlbmbdfejaa
open Go.ChangeShapes Go.WideShapes Go.ChangeAt Go.RowKit
def AskB (P : Prop) (w : World) (e : Ending) (w' : World) : Prop := ∃ b : Bool, e = .returned (.bool b) ∧ Below w.heap.size w w' ∧ (b = true → P)
theorem AskB.no {P : Prop} {w w' : World} {e : Ending} (h : e = .returned (.bool false)) (hb : Below w.heap.size w w') : AskB P w e w' := ⟨false, h, hb, fun h => by simp at h⟩
theorem AskB.yes {P : Prop} {w w' : World} {e : Ending} (h : e = .returned (.bool true)) (hb : Below w.heap.size w w') (hp : P) : AskB P w e w' := ⟨true, h, hb, fun _ => hp⟩
/-- What memory can hold. -/
structure XW.Fit (x : XW) : Prop where
  cn : x.cn ≤ 140737488355328
  mn : x.mn ≤ 140737488355328
  sn : x.sn ≤ 140737488355328
  c : ∀ c ∈ x.cs, c.rn ≤ 140737488355328 ∧ c.tn ≤ 140737488355328 ∧ c.name.length ≤ 140737488355328
  m : ∀ m ∈ x.ms, m.name.length ≤ 140737488355328 ∧ m.desc.length ≤ 140737488355328
def costC (l : List CW) : Nat := (l.map fun c => c.rn + c.tn + c.name.length / 50).sum
def costM (l : List MW) : Nat := (l.map fun m => m.name.length / 50 + m.desc.length / 50).sum
theorem costC_snoc (l : List CW) (c : CW) : costC (l ++ [c]) = costC l + (c.rn + c.tn + c.name.length / 50) := by unfold costC; simp
theorem costM_snoc (l : List MW) (m : MW) : costM (l ++ [m]) = costM l + (m.name.length / 50 + m.desc.length / 50) := by unfold costM; simp
def FewP (x : XW) : Prop := x.mn ≤ 600 → x.sn + x.mn + x.cn + costC x.cs + costM x.ms ≤ 600
theorem wrap_i64 (x : Int) : IntR (IntKind.i64.wrap x) := by
  have := IntKind.wrap_i64 x
  unfold IntR
  omega
theorem wrap_same {x : Int} (h : IntR x) : IntKind.i64.wrap x = x := by
  have := IntKind.wrap_i64 x
  unfold IntR at h
  omega
set_option maxRecDepth 100000 in
set_option maxHeartbeats 16000000 in
theorem few24_any (w : World) (x : XW) (hx : x.Rd w) (hft : x.Fit) :
    Calls Try.prog 20 #[.agg #[.slice x.ca x.cn x.cc, .slice x.ma x.mn x.mc, .int .i64 x.st, .slice x.sa x.sn x.sc]] w (AskB (FewP x) w) := by
  have HX := Lib.hid hx
  have HFT := Lib.hid hft
  have HLC := Lib.hid hx.c.1
  have HLM := Lib.hid hx.m.1
  have hcn := hft.cn
  have hmn := hft.mn
  have hsn := hft.sn
  clear hx hft
  obtain ⟨ca, cn, cc, cs, ma, mn, mc, ms, st, sa, sn, sc, ss, ya, yn, yc, ys, xa, xn, xc, xs, ka, kn, kc, ks, main⟩ := x
  obtain ⟨P, hP⟩ : ∃ P, P = FewP ⟨ca, cn, cc, cs, ma, mn, mc, ms, st, sa, sn, sc, ss, ya, yn, yc, ys, xa, xn, xc, xs, ka, kn, kc, ks, main⟩ := ⟨_, rfl⟩
  rw [← hP]
  have HP := Lib.hid (show P = (mn ≤ 600 → sn + mn + cn + costC cs + costM ms ≤ 600) from hP)
  clear hP
  simp only at hcn hmn hsn HLC HLM
  have HIB := Lib.hid (heap_alloc_last w (.cells #[.slice ca cn cc, .slice ma mn mc, .int .i64 st, .slice sa sn sc] 26))
  have hal : Below w.heap.size w (w.alloc (.cells #[.slice ca cn cc, .slice ma mn mc, .int .i64 st, .slice sa sn sc] 26)) := (Below.refl _ _).alloc (Nat.le_refl _) _
  have HB1 := Lib.hid hal
  clear hal
  go_enter Try.func20, Try.ntmps20
  go_upto_region 1 with fail
  generalize w.alloc _ = W1 at *
  have c0 := row_cell HIB.out 0 rfl
  have c1 := row_cell HIB.out 1 rfl
  have c3 := row_cell HIB.out 3 rfl
  obtain ⟨T0, hT0⟩ : ∃ T0 : Int, T0 = 600 - (sn : Int) - mn - cn := ⟨_, rfl⟩
  have e0 : (600 : Int) - sn - mn - cn = T0 := hT0.symm
  have HT0 := Lib.hid hT0
  have hb0 : -1125899906842624 ≤ T0 ∧ T0 ≤ 600 := by omega
  clear hT0
  go_wp2_with fail
  go_loopg [23, 3] cn (fun gn i v wr => ∃ (j : Nat) (T : Int), j ≤ cn ∧ gn = cn - j ∧ i = .int .i64 j ∧ v = .int .i64 T ∧ -1125899906842624 ≤ T ∧ T ≤ 600 ∧ Hid (T = T0 - (costC (cs.take j) : Nat)) ∧ Hid (Below w.heap.size w wr) ∧ Hid (Below W1.heap.size W1 wr))
  case atStart => exact ⟨0, T0, by omega, by omega, by go_num, by simp [HT0.out], hb0.1, hb0.2, Lib.hid (by simp [costC]), HB1, Lib.hid (Below.refl _ _)⟩
  case round =>
    obtain ⟨j, T, hj, rfl, rfl, rfl, hT1, hT2, HT, HB, HB2⟩ := hrel
    by_cases hlt : j < cn
    · obtain ⟨b2, off2, c, rfl, hb2l, hcj, q⟩ := (HX.out.c.below HB.out).get1 j hlt
      have hfc := HFT.out.c c (List.mem_of_getElem? hcj)
      have HST := Lib.hid (show costC (cs.take (j + 1)) = costC (cs.take j) + (c.rn + c.tn + c.name.length / 50) by rw [take_snocX hcj, costC_snoc])
      obtain ⟨nm, sup, cells, ra, rn, rc, refs, ta, tn, tc, table⟩ := c
      simp only at HST hfc
      have q0 := q 0 (by omega)
      have q1 := q 1 (by omega)
      have q2 := q 2 (by omega)
      have q3 := q 3 (by omega)
      have q4 := q 4 (by omega)
      simp only [CW.vals, List.getElem?_cons_zero, List.getElem?_cons_succ, Nat.add_zero] at q0 q1 q2 q3 q4
      obtain ⟨hf1, hf2, hf3⟩ := hfc
      obtain ⟨m5, hm5⟩ : ∃ m5, m5 = nm.length / 50 := ⟨_, rfl⟩
      rw [← hm5] at HST
      have e5 : ((nm.length : Nat) : Int).tdiv 50 = (m5 : Int) := by rw [hm5]; rfl
      have hm6 : m5 ≤ 140737488355328 := by omega
      clear q hcj hm5
      go_upto_region 5 with fail
      have hal : Below wr.heap.size wr (wr.alloc (.cells #[.string ⟨nm.toArray⟩, .int .i64 sup, .int .i64 cells, .slice ra rn rc, .slice ta tn tc] 82)) := (Below.refl _ _).alloc (Nat.le_refl _) _
      have HBA := Lib.hid (HB.out.trans (hal.mono HB.out.size))
      have HBA2 := Lib.hid (HB2.out.trans (hal.mono HB2.out.size))
      have HRA := heap_alloc_last wr (.cells #[.string ⟨nm.toArray⟩, .int .i64 sup, .int .i64 cells, .slice ra rn rc, .slice ta tn tc] 82)
      clear hal HB HB2 q0 q1 q2 q3 q4
      generalize wr.alloc (.cells #[.string ⟨nm.toArray⟩, .int .i64 sup, .int .i64 cells, .slice ra rn rc, .slice ta tn tc] 82) = WA at *
      generalize wr.heap.size = gb at *
      have d0 := row_cell HRA 0 rfl
      have d3 := row_cell HRA 3 rfl
      have d4 := row_cell HRA 4 rfl
      clear HRA
      by_cases hneg : T < 0
      · have ed : decide (T < 0) = true := by simpa using hneg
        go_wp2_with fail
        go_ret
        exact AskB.no rfl HBA.out
      · have ed : decide (T < 0) = false := by simpa using hneg
        obtain ⟨T2, hTT⟩ : ∃ T2 : Int, T2 = T - rn - tn - m5 := ⟨_, rfl⟩
        have et : T - (rn : Int) - tn - m5 = T2 := hTT.symm
        have HTT := Lib.hid hTT
        have hb2 : -1125899906842624 ≤ T2 ∧ T2 ≤ 600 := by omega
        clear hTT
        go_wp2_with fail
        go_roundg (cn - (j + 1))
        case measure => omega
        case rel => exact ⟨j + 1, T2, by omega, rfl, by go_num, by simp [HTT.out], hb2.1, hb2.2, Lib.hid (by rw [HTT.out, HST.out, HT.out]; omega), HBA, HBA2⟩
    · obtain rfl : cn = j := by omega
      have HLE := Lib.hid (show cs.take cn = cs by rw [List.take_of_length_le (by rw [HLC.out]; exact Nat.le_refl _)])
      rw [HLE.out] at HT
      have HI4 := Lib.hid (row_below HIB.out HB2.out)
      clear HB2 HLE
      generalize wr = W4 at *
      have b1 := row_cell HI4.out 1 rfl
      clear c0 c1 c3
      go_wp2_with fail
      go_loopg [47, 3] mn (fun gn i v wr => ∃ (j : Nat) (U : Int), j ≤ mn ∧ gn = mn - j ∧ i = .int .i64 j ∧ v = .int .i64 U ∧ -9223372036854775808 ≤ U ∧ U ≤ 9223372036854775807 ∧ Hid (mn ≤ 600 → U = T - (costM (ms.take j) : Nat) ∧ -1125899906842624 - 281474976710656 * (j : Int) ≤ U) ∧ Hid (Below w.heap.size w wr))
      case atStart => exact ⟨0, T, by omega, by omega, by go_num, rfl, by omega, by omega, Lib.hid (fun _ => ⟨by simp [costM], by omega⟩), HB⟩
      case round =>
        obtain ⟨j, U, hj, rfl, rfl, rfl, hU1, hU2, HU, HBm⟩ := hrel
        by_cases hlt2 : j < mn
        · obtain ⟨b2, off2, m, rfl, hb2l, hmj, q⟩ := (HX.out.m.below HBm.out).get1 j hlt2
          have hfm := HFT.out.m m (List.mem_of_getElem? hmj)
          have HST := Lib.hid (show costM (ms.take (j + 1)) = costM (ms.take j) + (m.name.length / 50 + m.desc.length / 50) by rw [take_snocX hmj, costM_snoc])
          obtain ⟨cls, nm, ds, stat, slot, nat⟩ := m
          simp only at HST hfm
          have q0 := q 0 (by omega)
          have q1 := q 1 (by omega)
          have q2 := q 2 (by omega)
          have q3 := q 3 (by omega)
          have q4 := q 4 (by omega)
          have q5 := q 5 (by omega)
          simp only [MW.vals, List.getElem?_cons_zero, List.getElem?_cons_succ, Nat.add_zero] at q0 q1 q2 q3 q4 q5
          obtain ⟨hf1, hf2⟩ := hfm
          obtain ⟨m5, hm5⟩ : ∃ m5, m5 = nm.length / 50 := ⟨_, rfl⟩
          obtain ⟨m6, hm6⟩ : ∃ m6, m6 = ds.length / 50 := ⟨_, rfl⟩
          rw [← hm5, ← hm6] at HST
          have e5 : ((nm.length : Nat) : Int).tdiv 50 = (m5 : Int) := by rw [hm5]; rfl
          have e6 : ((ds.length : Nat) : Int).tdiv 50 = (m6 : Int) := by rw [hm6]; rfl
          have hl5 : m5 ≤ 140737488355328 := by omega
          have hl6 : m6 ≤ 140737488355328 := by omega
          clear q hmj hm5 hm6
          go_upto_region 12 with fail
          have hal : Below wr.heap.size wr (wr.alloc (.cells #[.int .i64 cls, .string ⟨nm.toArray⟩, .string ⟨ds.toArray⟩, .bool stat, .int .i64 slot, .int .i64 nat] 87)) := (Below.refl _ _).alloc (Nat.le_refl _) _
          have HBA := Lib.hid (HBm.out.trans (hal.mono HBm.out.size))
          have HRA := heap_alloc_last wr (.cells #[.int .i64 cls, .string ⟨nm.toArray⟩, .string ⟨ds.toArray⟩, .bool stat, .int .i64 slot, .int .i64 nat] 87)
          clear hal HBm q0 q1 q2 q3 q4 q5 b1
          generalize wr.alloc (.cells #[.int .i64 cls, .string ⟨nm.toArray⟩, .string ⟨ds.toArray⟩, .bool stat, .int .i64 slot, .int .i64 nat] 87) = WA at *
          generalize wr.heap.size = gb at *
          have d1 := row_cell HRA 1 rfl
          have d2 := row_cell HRA 2 rfl
          clear HRA
          obtain ⟨U1, hU1e⟩ : ∃ U1 : Int, IntKind.i64.wrap (U - m5) = U1 := ⟨_, rfl⟩
          obtain ⟨U2, hU2e⟩ : ∃ U2 : Int, IntKind.i64.wrap (U1 - m6) = U2 := ⟨_, rfl⟩
          have hr1 := wrap_i64 (U - m5)
          have hr2 := wrap_i64 (U1 - m6)
          rw [hU1e] at hr1
          rw [hU2e] at hr2
          obtain ⟨hr1a, hr1b⟩ := hr1
          obtain ⟨hr2a, hr2b⟩ := hr2
          have HU2 := Lib.hid (show mn ≤ 600 → U2 = T - (costM (ms.take (j + 1)) : Nat) ∧ -1125899906842624 - 281474976710656 * ((j + 1 : Nat) : Int) ≤ U2 from fun h => by
            obtain ⟨e1, e2⟩ := HU.out h
            have w1 : U - (m5 : Int) = U1 := by rw [← hU1e]; exact (wrap_same ⟨by omega, by omega⟩).symm
            have w2 : U1 - (m6 : Int) = U2 := by rw [← hU2e]; exact (wrap_same ⟨by omega, by omega⟩).symm
            rw [HST.out]
            omega)
          go_wp2_with fail
          go_roundg (mn - (j + 1))
          case measure => omega
          case rel => exact ⟨j + 1, U2, by omega, rfl, by go_num, by first | rfl | simp [hU1e, hU2e], hr2a, hr2b, HU2, HBA⟩
        · obtain rfl : mn = j := by omega
          have HLE2 := Lib.hid (show ms.take mn = ms by rw [List.take_of_length_le (by rw [HLM.out]; exact Nat.le_refl _)])
          rw [HLE2.out] at HU
          by_cases hneg : 0 ≤ U
          · have ed : decide (0 ≤ U) = true := by simpa using hneg
            have hPP := Lib.hid (show P by
              rw [HP.out]
              intro h
              have h1 := (HU.out h).1
              have h2 := HT.out
              have h3 := HT0.out
              omega)
            go_wp2_with fail
            go_ret
            exact AskB.yes rfl HBm.out hPP.out
          · have ed : decide (0 ≤ U) = false := by simpa using hneg
            go_wp2_with fail
            go_ret
            exact AskB.no rfl HBm.out
end Go.Proofs.Ytbcldlbmbdfejaa
/- image: is an image small enough? No condition. -/
namespace Go.Proofs.Ytbcldlbmbdfejaa
open Go.ChangeShapes Go.WideShapes Go.ChangeAt Go.RowKit
def Few25P (x : XW) : Prop := FewP x ∧ x.yn ≤ 60 ∧ x.xn ≤ 60 ∧ x.kn ≤ 300 ∧ (∀ t ∈ x.ys, t.length ≤ 300) ∧ (∀ t ∈ x.xs, t.length ≤ 300) ∧ (∀ k ∈ x.ks, k.tn ≤ 60)
theorem all_snoc {α : Type} {p : α → Prop} {L : List α} {j : Nat} {v : α} (h : L[j]? = some v) (h1 : ∀ t ∈ L.take j, p t) (h2 : p v) : ∀ t ∈ L.take (j + 1), p t := by
  rw [take_snocX h]
  intro t ht
  rcases List.mem_append.1 ht with h3 | h3
  · exact h1 t h3
  · rw [List.mem_singleton.1 h3]; exact h2
set_option maxRecDepth 100000 in
set_option maxHeartbeats 16000000 in
theorem few25_any (w : World) (x : XW) (hx : x.Rd w) (hr : x.Right) (hft : x.Fit) :
    Calls Try.prog 8 #[.agg x.vals] w (AskB (Few25P x) w) := by
  have HX := Lib.hid hx
  have HFT := Lib.hid hft
  have HLY := Lib.hid hx.y.1
  have HLX := Lib.hid hx.tx.1
  have HLK := Lib.hid hx.k.1
  have hyn := hr.yn
  have hxn := hr.xn
  have hkn := hr.kn
  clear hr
  have hal0 : Below w.heap.size w (w.alloc (.cells x.vals 30)) := (Below.refl _ _).alloc (Nat.le_refl _) _
  have HC := Lib.hid (few24_any (w.alloc (.cells x.vals 30)) x ⟨hx.c.below hal0, fun c hc => (hx.cr c hc).below hal0, hx.m.below hal0, hx.s.below hal0, hx.y.below hal0, hx.tx.below hal0, hx.k.below hal0, fun k hk => ⟨(hx.kr k hk).t.below hal0, (hx.kr k hk).tc⟩⟩ hft)
  clear hx hft
  obtain ⟨Q, hQ⟩ : ∃ Q, Q = FewP x := ⟨_, rfl⟩
  obtain ⟨P, hP⟩ : ∃ P, P = Few25P x := ⟨_, rfl⟩
  rw [← hP]
  rw [← hQ] at HC
  have HP := Lib.hid (show P = (Q ∧ x.yn ≤ 60 ∧ x.xn ≤ 60 ∧ x.kn ≤ 300 ∧ (∀ t ∈ x.ys, t.length ≤ 300) ∧ (∀ t ∈ x.xs, t.length ≤ 300) ∧ (∀ k ∈ x.ks, k.tn ≤ 60)) by rw [hP, hQ]; rfl)
  clear hP hQ HFT
  obtain ⟨ca, cn, cc, cs, ma, mn, mc, ms, st, sa, sn, sc, ss, ya, yn, yc, ys, xa, xn, xc, xs, ka, kn, kc, ks, main⟩ := x
  simp only at HC HP HLY HLX HLK hyn hxn hkn
  unfold XW.vals at *
  simp only at *
  have HIB := Lib.hid (heap_alloc_last w (.cells #[.slice ca cn cc, .slice ma mn mc, .int .i64 st, .slice sa sn sc, .slice ya yn yc, .slice xa xn xc, .slice ka kn kc, .int .i64 main] 30))
  have HB1 := Lib.hid hal0
  clear hal0
  go_enter Try.func8, Try.ntmps8
  go_upto_region 1 with fail
  generalize w.alloc _ = W1 at *
  have c0 := row_cell HIB.out 0 rfl
  have c1 := row_cell HIB.out 1 rfl
  have c2 := row_cell HIB.out 2 rfl
  have c3 := row_cell HIB.out 3 rfl
  go_wp2_with fail
  refine HC.out.mono ?_
  rintro e' W2 ⟨b, rfl, hb, hp⟩
  have HB2 := Lib.hid (HB1.out.trans (hb.mono HB1.out.size))
  have HI2 := Lib.hid (row_below HIB.out hb)
  have HPP := Lib.hid hp
  clear hp hb c0 c1 c2 c3 HIB HB1 HC
  have c0 := row_cell HI2.out 0 rfl
  have c4 := row_cell HI2.out 4 rfl
  have c5 := row_cell HI2.out 5 rfl
  have c6 := row_cell HI2.out 6 rfl
  cases b with
  | false =>
    go_wp2_with fail
    go_ret
    exact AskB.no rfl HB2.out
  | true =>
  have HQ := Lib.hid (HPP.out rfl)
  clear HPP
  by_cases hy : 60 < yn
  · have ed : decide ((60 : Int) < yn) = true := by simp; omega
    go_wp2_with fail
    go_ret
    exact AskB.no rfl HB2.out
  have ed : decide ((60 : Int) < yn) = false := by simp; omega
  by_cases hxx : 60 < xn
  · have ed2 : decide ((60 : Int) < xn) = true := by simp; omega
    go_wp2_with fail
    go_ret
    exact AskB.no rfl HB2.out
  have ed2 : decide ((60 : Int) < xn) = false := by simp; omega
  by_cases hk : 300 < kn
  · have ed3 : decide ((300 : Int) < kn) = true := by simp; omega
    go_wp2_with fail
    go_ret
    exact AskB.no rfl HB2.out
  have ed3 : decide ((300 : Int) < kn) = false := by simp; omega
  go_wp2_with fail
  go_loopg [34] yn (fun gn i wr => ∃ j : Nat, j ≤ yn ∧ gn = yn - j ∧ i = .int .i64 j ∧ Hid (∀ t ∈ ys.take j, t.length ≤ 300) ∧ W2 = wr)
  case atStart => exact ⟨0, by omega, by omega, by go_num, Lib.hid (by simp), rfl⟩
  case round =>
    obtain ⟨j, hj, rfl, rfl, HA, rfl⟩ := hrel
    by_cases hlt : j < yn
    · obtain ⟨b2, off2, s, rfl, hb2l, hsj, cf⟩ := (HX.out.y.below HB2.out).get1 j hlt
      unfold encS at cf
      have HSJ := Lib.hid hsj
      clear hsj
      by_cases h3 : 300 < s.length
      · have eh : decide ((300 : Int) < s.length) = true := by simp; omega
        go_wp2_with fail
        go_ret
        exact AskB.no rfl HB2.out
      · have eh : decide ((300 : Int) < s.length) = false := by simp; omega
        go_wp2_with fail
        go_roundg (yn - (j + 1))
        case measure => omega
        case rel => exact ⟨j + 1, by omega, rfl, by go_num, Lib.hid (all_snoc HSJ.out HA.out (by omega)), rfl⟩
    · obtain rfl : yn = j := by omega
      have HA1 := Lib.hid (show ∀ t ∈ ys, t.length ≤ 300 by have h := HA.out; rwa [List.take_of_length_le (by rw [HLY.out]; exact Nat.le_refl _)] at h)
      clear HA
      go_wp2_with fail
      go_loopg [45] xn (fun gn i wr => ∃ j : Nat, j ≤ xn ∧ gn = xn - j ∧ i = .int .i64 j ∧ Hid (∀ t ∈ xs.take j, t.length ≤ 300) ∧ W2 = wr)
      case atStart => exact ⟨0, by omega, by omega, by go_num, Lib.hid (by simp), rfl⟩
      case round =>
        obtain ⟨j, hj, rfl, rfl, HA, rfl⟩ := hrel
        by_cases hlt : j < xn
        · obtain ⟨b2, off2, s, rfl, hb2l, hsj, cf⟩ := (HX.out.tx.below HB2.out).get1 j hlt
          unfold encS at cf
          have HSJ := Lib.hid hsj
          clear hsj
          by_cases h3 : 300 < s.length
          · have eh : decide ((300 : Int) < s.length) = true := by simp; omega
            go_wp2_with fail
            go_ret
            exact AskB.no rfl HB2.out
          · have eh : decide ((300 : Int) < s.length) = false := by simp; omega
            go_wp2_with fail
            go_roundg (xn - (j + 1))
            case measure => omega
            case rel => exact ⟨j + 1, by omega, rfl, by go_num, Lib.hid (all_snoc HSJ.out HA.out (by omega)), rfl⟩
        · obtain rfl : xn = j := by omega
          have HA2 := Lib.hid (show ∀ t ∈ xs, t.length ≤ 300 by have h := HA.out; rwa [List.take_of_length_le (by rw [HLX.out]; exact Nat.le_refl _)] at h)
          clear HA
          go_wp2_with fail
          go_loopg [56] kn (fun gn i wr => ∃ j : Nat, j ≤ kn ∧ gn = kn - j ∧ i = .int .i64 j ∧ Hid (∀ k ∈ ks.take j, k.tn ≤ 60) ∧ Hid (Below w.heap.size w wr))
          case atStart => exact ⟨0, by omega, by omega, by go_num, Lib.hid (by simp), HB2⟩
          case round =>
            obtain ⟨j, hj, rfl, rfl, HA, HB⟩ := hrel
            by_cases hlt : j < kn
            · obtain ⟨b2, off2, k, rfl, hb2l, hkj, q⟩ := (HX.out.k.below HB.out).get1 j hlt
              have HSN := Lib.hid (fun (h : k.tn ≤ 60) => all_snoc (p := fun k : KW => k.tn ≤ 60) hkj HA.out h)
              obtain ⟨x0, x1, x2, x3, x4, ta, tn, tc, ts⟩ := k
              simp only at HSN
              have p0 := q 0 (by omega)
              have p1 := q 1 (by omega)
              have p2 := q 2 (by omega)
              have p3 := q 3 (by omega)
              have p4 := q 4 (by omega)
              have p5 := q 5 (by omega)
              simp only [KW.vals, List.getElem?_cons_zero, List.getElem?_cons_succ, Nat.add_zero] at p0 p1 p2 p3 p4 p5
              clear q hkj c0 c4 c5 c6
              go_upto_region 18 with fail
              have hal : Below wr.heap.size wr (wr.alloc (.cells #[.int .i64 x0, .int .i64 x1, .int .i64 x2, .int .i64 x3, .int .i64 x4, .slice ta tn tc] 62)) := (Below.refl _ _).alloc (Nat.le_refl _) _
              have HBA := Lib.hid (HB.out.trans (hal.mono HB.out.size))
              have HRA := heap_alloc_last wr (.cells #[.int .i64 x0, .int .i64 x1, .int .i64 x2, .int .i64 x3, .int .i64 x4, .slice ta tn tc] 62)
              clear hal HB p0 p1 p2 p3 p4 p5
              generalize wr.alloc (.cells #[.int .i64 x0, .int .i64 x1, .int .i64 x2, .int .i64 x3, .int .i64 x4, .slice ta tn tc] 62) = WA at *
              generalize wr.heap.size = gb at *
              have d5 := row_cell HRA 5 rfl
              clear HRA
              by_cases h6 : 60 < tn
              · have eh : decide ((60 : Int) < tn) = true := by simp; omega
                go_wp2_with fail
                go_ret
                exact AskB.no rfl HBA.out
              · have eh : decide ((60 : Int) < tn) = false := by simp; omega
                go_wp2_with fail
                go_roundg (kn - (j + 1))
                case measure => omega
                case rel => exact ⟨j + 1, by omega, rfl, by go_num, Lib.hid (HSN.out (by omega)), HBA⟩
            · obtain rfl : kn = j := by omega
              have HA3 := Lib.hid (show ∀ k ∈ ks, k.tn ≤ 60 by have h := HA.out; rwa [List.take_of_length_le (by rw [HLK.out]; exact Nat.le_refl _)] at h)
              have HF := Lib.hid (show P by rw [HP.out]; exact ⟨HQ.out, by omega, by omega, by omega, HA1.out, HA2.out, HA3.out⟩)
              clear HA
              go_wp2_with fail
              go_ret
              exact AskB.yes rfl HB.out HF.out
end Go.Proofs.Ytbcldlbmbdfejaa
