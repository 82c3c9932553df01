/- image: Link, the reference's. No condition. -/
import Derived.Test.YtbcldlbmbdfejaaImgLink
namespace Go.Proofs.Ytbcldlbmbdfejaa
open Go.ChangeShapes Go.WideShapes Go.ChangeAt Go.RowKit
/-- The block of an instruction. -/
def XB4 (g : Nat) (o : Nat) (x y z : Int) (w : World) : Prop := Blk4 w g (.int .u8 (o : Nat)) (.int .i64 x) (.int .i64 y) (.int .i64 z) 54
/-- What One answers. -/
def OneRet (r : LK) (w : World) (e : Ending) (w' : World) : Prop :=
  (r.ok = true ∧ ∃ v, e = .returned (.tuple #[v, .bool true]) ∧ OwnOr w' w.heap.size v r.bytes.length r.bytes ∧ Below w.heap.size w w') ∨
  (r.ok = false ∧ e = .returned (.tuple #[.slice none 0 0, .bool false]) ∧ Below w.heap.size w w')
set_option maxRecDepth 100000 in
set_option maxHeartbeats 16000000 in
theorem One_any (w : World) (r : LK) (hr : r.right) : Calls Try.prog 46 #[LinkV r.op r.a r.b r.n] w (OneRet r w) := by
  obtain ⟨o, x, y, z⟩ := r
  obtain ⟨ho, hx, hy, hz⟩ := hr
  simp only at ho hx hy hz
  obtain ⟨wa, wb, wn, ok, hq⟩ : ∃ wa wb wn ok, imgW o = (wa, wb, wn, ok) := ⟨_, _, _, _, rfl⟩
  have hsm := imgW_small ⟨o, ho⟩
  simp only [hq] at hsm
  obtain ⟨ha2, hb1, hn8⟩ := hsm
  have HROK := Lib.hid (show LK.ok ⟨o, x, y, z⟩ = (ok && roomB x wa && roomB y wb && sgnB z wn) by unfold LK.ok; simp only [hq])
  have HRBY := Lib.hid (show LK.bytes ⟨o, x, y, z⟩ = [UInt8.ofNat o] ++ putB (u64V x) wa ++ putB (u64V y) wb ++ putB (u64V z) wn by unfold LK.bytes; simp only [hq])
  have HWD := Lib.hid (fun w' => refWidths_any w' o ho)
  unfold refWV at HWD
  rw [hq] at HWD
  simp only at HWD
  have HFA := Lib.hid (fun w' => refFits_any w' x wa hx (by omega))
  have HFB := Lib.hid (fun w' => refFits_any w' y wb hy (by omega))
  have HFN := Lib.hid (fun w' => refSigned_any w' z wn hz hn8)
  clear hq
  generalize roomB x wa = fa at *
  generalize roomB y wb = fb at *
  generalize sgnB z wn = fn at *
  unfold LinkV
  simp only
  go_enter Try.func46, Try.ntmps46
  go_upto_region 1 with fail
  have HX3 := Lib.hid (show Blk4 (w.alloc (.cells #[.int .u8 (o : Nat), .int .i64 x, .int .i64 y, .int .i64 z] 54)) w.heap.size (.int .u8 (o : Nat)) (.int .i64 x) (.int .i64 y) (.int .i64 z) 54 from heap_alloc_last w _)
  have HB3 := Lib.hid ((Below.refl w.heap.size w).alloc (Nat.le_refl _) (.cells #[.int .u8 (o : Nat), .int .i64 x, .int .i64 y, .int .i64 z] 54))
  generalize w.alloc (.cells #[.int .u8 (o : Nat), .int .i64 x, .int .i64 y, .int .i64 z] 54) = W3 at *
  obtain ⟨c0, c1, c2, c3, f0, f1, f2, f3, lt4⟩ := HX3.out.box
  go_wp2_with fail
  refine (HWD.out W3).mono ?_
  rintro e' w' ⟨rfl, rfl⟩
  cases ok with
  | false =>
    have HE := Lib.hid (show LK.ok ⟨o, x, y, z⟩ = false by rw [HROK.out]; rfl)
    clear HROK
    go_wp2_with fail
    go_ret2
    exact .inr ⟨HE.out, rfl, HB3.out⟩
  | true =>
  go_wp2_with fail
  refine (HFA.out w').mono ?_
  rintro e' W3 ⟨rfl, rfl⟩
  cases fa with
  | false =>
    have HE := Lib.hid (show LK.ok ⟨o, x, y, z⟩ = false by rw [HROK.out]; rfl)
    clear HROK
    go_wp2_with fail
    go_ret2
    exact .inr ⟨HE.out, rfl, HB3.out⟩
  | true =>
  go_wp2_with fail
  refine (HFB.out w').mono ?_
  rintro e' W3 ⟨rfl, rfl⟩
  cases fb with
  | false =>
    have HE := Lib.hid (show LK.ok ⟨o, x, y, z⟩ = false by rw [HROK.out]; rfl)
    clear HROK
    go_wp2_with fail
    go_ret2
    exact .inr ⟨HE.out, rfl, HB3.out⟩
  | true =>
  go_wp2_with fail
  refine (HFN.out w').mono ?_
  rintro e' W3 ⟨rfl, rfl⟩
  cases fn with
  | false =>
    have HE := Lib.hid (show LK.ok ⟨o, x, y, z⟩ = false by rw [HROK.out]; rfl)
    clear HROK
    go_wp2_with fail
    go_ret2
    exact .inr ⟨HE.out, rfl, HB3.out⟩
  | true =>
  have HG := Lib.hid (show LK.ok ⟨o, x, y, z⟩ = true by rw [HROK.out]; rfl)
  have hux := u64V_wrap x
  have huy := u64V_wrap y
  have huz := u64V_wrap z
  have HLX := Lib.hid (u64V_lt x)
  have HLY := Lib.hid (u64V_lt y)
  have HLZ := Lib.hid (u64V_lt z)
  generalize u64V x = ux at *
  generalize u64V y = uy at *
  generalize u64V z = uz at *
  have HEB := Lib.hid (encB_natI o ho)
  clear HROK HFA HFB HFN
  have hal : Below w'.heap.size w' (w'.alloc (.cells #[.int .u8 (o : Nat)] 5)) := (Below.refl _ _).alloc (Nat.le_refl _) _
  have HOL := Lib.hid (show OwnOr (w'.alloc (.cells #[.int .u8 (o : Nat)] 5)) w.heap.size (.slice (some ⟨w'.heap.size, 0, none⟩) 1 1) 1 [UInt8.ofNat o] from .inl (by
    have h := own_litP w' w.heap.size #[.int .u8 (o : Nat)] 5 1 HB3.out.size rfl (by decide)
    rw [HEB.out] at h
    rw [HEB.out]
    exact h))
  go_wp2_with fail
  refine (refPutX (w'.alloc (.cells #[.int .u8 (o : Nat)] 5)) w.heap.size _ 1 _ ux wa HOL.out (Nat.le_trans HB3.out.size hal.size) (by omega) HLX.out (by omega)).mono ?_
  rintro e' W5 ⟨v5, rfl, ho5, hb5⟩
  have hb35 := hal.trans (hb5.mono hal.size)
  have HX5 := Lib.hid (HX3.out.below hb35)
  have HB5 := Lib.hid (HB3.out.trans (hb35.mono HB3.out.size))
  obtain ⟨a5, c5, rfl, _, _⟩ := ho5.sl
  have HO5 := Lib.hid ho5
  clear ho5 hb5 hal hb35 HOL HB3 HX3 c0 c1 c2 c3 f0 f1 f2 f3 lt4
  go_upto_region 5 with fail
  have hSw : XB4 w.heap.size o x y z W5.drew := HX5.out.below (Below.refl _ _).drew
  have l2 := fun z' (h : XB4 w.heap.size o x y z z') => (show Blk4 z' w.heap.size (.int .u8 (o : Nat)) (.int .i64 x) (.int .i64 y) (.int .i64 z) 54 from h).box.c2
  have l3 := fun z' (h : XB4 w.heap.size o x y z z') => (show Blk4 z' w.heap.size (.int .u8 (o : Nat)) (.int .i64 x) (.int .i64 y) (.int .i64 z) 54 from h).box.c3
  refine wp_region_lexS (XB4 w.heap.size o x y z) (.of [(0, true), (1, true), (2, true), (3, true), (4, true), (6, true), (7, true), (8, true), (9, true), (5, false), (10, false)] (.stir [(11, true), (12, true)])) (by kernel_rfl) (by kernel_rfl) (fun c a d v w h => by cases d <;> exact h) ?_
  iterate 9
    refine lexS_step (fun K hK => ?_)
    simp only [lexOp, List.getElem?_toArray, List.getElem?_cons_succ, List.getElem?_cons_zero]
    rw [if_pos (by rfl)]
    apply Exists.intro
    refine ⟨fun w' hS' => ?_, hSw, ?_⟩
    · first | (go_simp <;> with_reducible rfl) | (go_simp; go_bits; with_reducible rfl)
    go_simp
    try go_bits
    refine hK _ _ ?_
    clear hK K
  refine lexS_step (fun K hK => ?_)
  simp only [lexOp, List.getElem?_toArray, List.getElem?_cons_succ, List.getElem?_cons_zero]
  rw [if_pos (by rfl)]
  go_step
  refine (refPutX W5.drew w.heap.size _ (1 + wa) _ uy wb (HO5.out.below (Below.refl _ _).drew) HB5.out.size (by omega) HLY.out (by omega)).mono ?_
  rintro e' W6 ⟨v6, rfl, ho6, hb6⟩
  have hb56 : Below W5.heap.size W5 W6 := ((Below.refl _ _).drew).trans hb6
  replace hSw : XB4 w.heap.size o x y z W6 := HX5.out.below hb56
  have HB6 := Lib.hid (HB5.out.trans (hb56.mono HB5.out.size))
  obtain ⟨a6, c6, rfl, _, _⟩ := ho6.sl
  have HO6 := Lib.hid ho6
  refine ⟨hSw, ?_⟩
  go_simp
  refine hK _ _ ?_
  clear hK K ho6 hb6 hb56 HO5 HB5
  refine lexS_step (fun K hK => ?_)
  simp only [lexOp, List.getElem?_toArray, List.getElem?_cons_succ, List.getElem?_cons_zero]
  rw [if_pos (by rfl)]
  go_step
  refine (refPutX W6 w.heap.size _ (1 + wa + wb) _ uz wn HO6.out HB6.out.size (by omega) HLZ.out (by omega)).mono ?_
  rintro e' W7 ⟨v7, rfl, ho7, hb7⟩
  replace hSw : XB4 w.heap.size o x y z W7 := Blk4.below hSw hb7
  have HB7 := Lib.hid (HB6.out.trans (hb7.mono HB6.out.size))
  obtain ⟨a7, c7, rfl, _, _⟩ := ho7.sl
  have HO7 := Lib.hid ho7
  refine ⟨hSw, ?_⟩
  go_simp
  refine hK _ _ ?_
  clear hK K ho7 hb7 HO6 HB6
  refine lexS_stir (fun y' => y' = W7) (fun y' hy => hy ▸ hSw) rfl ?_
  iterate 2
    refine stir_step (fun K hK => ?_)
    simp only [stirOp, List.getElem?_toArray, List.getElem?_cons_succ, List.getElem?_cons_zero]
    rw [if_pos (by rfl)]
    apply Exists.intro
    refine ⟨fun w' hS' => ?_, ?_⟩
    · first | (go_simp <;> with_reducible rfl) | (go_simp; go_bits; with_reducible rfl)
    go_simp
    try go_bits
    refine hK _ ?_
    clear hK K
  refine stir_nil (fun y' hy => ?_)
  obtain rfl : W7 = y' := hy.symm
  rw [← HRBY.out] at HO7
  have HLR := Lib.hid HO7.out.len
  go_wp2_with fail
  go_ret2
  refine .inl ⟨HG.out, _, rfl, ?_, HB7.out⟩
  rw [HLR.out]
  exact HO7.out
set_option maxRecDepth 100000 in
set_option maxHeartbeats 16000000 in
theorem refLink_any (w : World) (a : Option Addr) (n cap : Nat) (L : List LK) (hs : Ls w a n L) (hn : n ≤ 200) (hw : ∀ r ∈ L, r.right) : Calls Try.prog 16 #[.slice a n cap] w (LinkRet (.bool true) (.bool false) L w) := by
  have HS := Lib.hid hs
  have HLn := Lib.hid hs.1
  have HW := Lib.hid hw
  clear hs hw
  go_enter Try.func16, Try.ntmps16
  go_upto_region 3 with fail
  have HP0 := Lib.hid (own_litP w w.heap.size #[.int .i64 0] 3 1 (Nat.le_refl _) rfl (by decide))
  have HB0 := Lib.hid ((Below.refl w.heap.size w).alloc (Nat.le_refl _) (.cells #[.int .i64 0] 3))
  generalize w.alloc (.cells #[.int .i64 0] 3) = w1 at *
  go_wp2_with fail
  go_loopg [14, 5, 6] n (fun gn i vb vp wr => ∃ j m : Nat, j ≤ n ∧ gn = n - j ∧ i = .int .i64 j ∧ m ≤ 12 * j ∧ Hid (lkOk (L.take j) = true) ∧ Hid (wr.ownsRow w.heap.size 5 1 vb m ((lkB (L.take j)).map encB)) ∧ Hid (wr.ownsRow w.heap.size 3 1 vp (j + 1) ((placesL (L.take j)).map encP)) ∧ Hid (Below w.heap.size w wr))
  case atStart => exact ⟨0, 0, by omega, by omega, by go_num, by omega, Lib.hid rfl, Lib.hid (World.ownsRow_nil _ _ _ _), HP0, HB0⟩
  case round =>
    obtain ⟨j, m, hj, rfl, rfl, hm, HK, HO, HP, HB⟩ := hrel
    by_cases hlt : j < n
    · obtain ⟨b, off, r, rfl, _, hr, q⟩ := Ls.at (Ss.below HS.out HB.out) j hlt
      obtain ⟨q0, q1, q2, q3⟩ := q
      have hwr := HW.out r (List.mem_of_getElem? hr)
      have HKT := Lib.hid (lkOk_take L j r hr)
      have HBT := Lib.hid (lkB_take L j r hr)
      have HPT := Lib.hid (placesL_take L j (List.getElem?_eq_some_iff.1 hr).1)
      have HBAD := Lib.hid (fun h => lkOk_bad hr h)
      have HBL := Lib.hid (LK.bytes_len hwr.1)
      have HONE := Lib.hid (fun w' => One_any w' r hwr)
      unfold LinkV at HONE
      unfold OneRet at HONE
      obtain ⟨o, x, y, z⟩ := r
      simp only at q0 q1 q2 q3 HONE
      have HLB := Lib.hid (show (lkB (L.take j)).length = m by have := HO.out.1; simpa using this)
      generalize LK.ok ⟨o, x, y, z⟩ = ok at *
      generalize LK.bytes ⟨o, x, y, z⟩ = t at *
      clear hr hwr
      generalize lkB (L.take j) = e at *
      go_upto_region 6 with fail
      have hal : Below wr.heap.size wr (wr.alloc (.cells #[.int .u8 (o : Nat), .int .i64 x, .int .i64 y, .int .i64 z] 54)) := (Below.refl _ _).alloc (Nat.le_refl _) _
      have HX1 := Lib.hid (show Blk4 (wr.alloc (.cells #[.int .u8 (o : Nat), .int .i64 x, .int .i64 y, .int .i64 z] 54)) wr.heap.size (.int .u8 (o : Nat)) (.int .i64 x) (.int .i64 y) (.int .i64 z) 54 from heap_alloc_last wr _)
      have HB1 := Lib.hid (HB.out.trans (hal.mono HB.out.size))
      have HO1 := Lib.hid (own_below HO.out hal)
      have HP1 := Lib.hid (own_below HP.out hal)
      clear hal q0 q1 q2 q3 HB HO HP
      generalize wr.alloc (.cells #[.int .u8 (o : Nat), .int .i64 x, .int .i64 y, .int .i64 z] 54) = W1 at *
      generalize wr.heap.size = gx at *
      obtain ⟨c0, c1, c2, c3, f0, f1, f2, f3, lt4⟩ := HX1.out.box
      go_wp2_with fail
      refine (HONE.out W1).mono ?_
      rintro e' W2 (⟨hok, v2, rfl, ho2, hb2⟩ | ⟨hok, rfl, hb2⟩)
      · subst hok
        have HG := Lib.hid (show lkOk (L.take (j + 1)) = true by rw [HKT.out, HK.out]; rfl)
        have HB2 := Lib.hid (HB1.out.trans (hb2.mono HB1.out.size))
        have HO2 := Lib.hid (own_below HO1.out hb2)
        have HP2 := Lib.hid (own_below HP1.out hb2)
        obtain ⟨a2, k2, rfl, hs2, hc2⟩ := ho2.sl
        have HS2 := Lib.hid hs2
        have HLT := HBL.out
        generalize htl : t.length = tl at *
        clear htl hb2 ho2 hs2 HX1 HB1 HO1 HP1 c0 c1 c2 c3 f0 f1 f2 f3 lt4 HBAD HKT HONE HBL
        go_wp2_with (at_builtin; first
          | (refine wpList_app1 oneN rfl _ _ _ rfl w.heap.size _ m _ rfl HO2.out _ tl _ rfl (HS2.out.src encB_cell Try.underlying35 k2) (by omega) (by unfold maxLen; omega) HB2.out.size ?_; intro v3 W3 hown3 hg3 hb3; rw [← List.map_append] at hown3; have hk3 : KeptT 5 W2 W3 := KeptT.app0 HO2.out hg3; have HP3 := Lib.hid (own_keptT HP2.out hk3 (by decide)); have HB3 := Lib.hid (HB2.out.trans hb3); obtain ⟨a3, c3, rfl, _, _⟩ := Sl.ofOwn hown3; have HO3 := Lib.hid hown3; clear hown3 hg3 hb3 hk3 HO2 HP2 HB2)
          | (refine wpList_app_lit2 oneI rfl _ _ rfl w.heap.size _ (j + 1) _ rfl HP3.out _ 1 _ _ rfl (by simp) rfl rfl (by omega) (by unfold maxLen; omega) HB3.out.size ?_; intro v8 W8 hown8 hg8 hb8; have hk8 : KeptT 3 W3 W8 := KeptT.app HP3.out hg8; have HO8 := Lib.hid (own_keptT HO3.out hk8 (by decide)); have HB8 := Lib.hid (HB3.out.trans hb8); have HP8 := Lib.hid hown8; clear hown8 hg8 hb8 hk8))
        go_roundg (n - (j + 1))
        case measure => omega
        case rel =>
          refine ⟨j + 1, m + tl, by omega, rfl, by go_num, by omega, HG, ?_, ?_, HB8⟩
          · refine Lib.hid ?_
            rw [HBT.out]
            exact HO8.out
          · refine Lib.hid ?_
            have hl : (lkB (L.take (j + 1))).length = m + tl := by rw [HBT.out]; have := HO8.out.1; simpa using this
            rw [HPT.out, hl, List.map_append]
            exact HP8.out
      · have HE := Lib.hid (HBAD.out hok)
        subst hok
        have HB2 := Lib.hid (HB1.out.trans (hb2.mono HB1.out.size))
        clear hb2 HX1 HB1 HO1 HP1 HBAD HKT HONE
        go_wp2_with fail
        go_ret3
        exact .inr ⟨HE.out, rfl, HB2.out⟩
    · obtain rfl : j = n := by omega
      have HLE := Lib.hid (show L.take j = L by rw [List.take_of_length_le (by rw [HLn.out]; exact Nat.le_refl _)])
      rw [HLE.out] at HO HK HP
      go_wp2_with fail
      go_ret3
      refine .inl ⟨HK.out, _, m, _, rfl, .inl HO.out, ?_, HB.out⟩
      rw [HLn.out]
      exact HP.out
end Go.Proofs.Ytbcldlbmbdfejaa
