/- image: Link, the reference's. No condition. -/
import Derived.Test.YtbcldlbmbdfejaaQ06ImageBytes
import Derived.Test.YtbcldlbmbdfejaaQ03ImageBytes
namespace Go.Proofs.Ytbcldlbmbdfejaa
open Go.ChangeShapes Go.WideShapes Go.ChangeAt Go.RowKit
/-- The block of an instruction. -/
def XB4 (g : Nat) (o : Nat) (x y z : Int) (w : World) : Prop := Blk4 w g (.int .u8 (o : Nat)) (.int .i64 x) (.int .i64 y) (.int .i64 z) 54
/-- What One answers. -/
def OneRet (r : LK) (w : World) (e : Ending) (w' : World) : Prop :=
  (r.ok = true ∧ ∃ v, e = .returned (.tuple #[v, .bool true]) ∧ OwnOr w' w.heap.size v r.bytes.length r.bytes ∧ Below w.heap.size w w') ∨
  (r.ok = false ∧ e = .returned (.tuple #[.slice none 0 0, .bool false]) ∧ Below w.heap.size w w')
set_option maxRecDepth 100000 in
set_option maxHeartbeats 16000000 in
theorem One_any (w : World) (r : LK) (hr : r.right) : Calls Try.prog 46 #[LinkV r.op r.a r.b r.n] w (OneRet r w) := by
  obtain ⟨o, x, y, z⟩ := r
  obtain ⟨ho, hx, hy, hz⟩ := hr
  simp only at ho hx hy hz
  obtain ⟨wa, wb, wn, ok, hq⟩ : ∃ wa wb wn ok, imgW o = (wa, wb, wn, ok) := ⟨_, _, _, _, rfl⟩
  have hsm := imgW_small ⟨o, ho⟩
  simp only [hq] at hsm
  obtain ⟨ha2, hb1, hn8⟩ := hsm
  have HROK := Lib.hid (show LK.ok ⟨o, x, y, z⟩ = (ok && roomB x wa && roomB y wb && sgnB z wn) by unfold LK.ok; simp only [hq])
  have HRBY := Lib.hid (show LK.bytes ⟨o, x, y, z⟩ = [UInt8.ofNat o] ++ putB (u64V x) wa ++ putB (u64V y) wb ++ putB (u64V z) wn by unfold LK.bytes; simp only [hq])
  have HWD := Lib.hid (fun w' => refWidths_any w' o ho)
  unfold refWV at HWD
  rw [hq] at HWD
  simp only at HWD
  have HFA := Lib.hid (fun w' => refFits_any w' x wa hx (by omega))
  have HFB := Lib.hid (fun w' => refFits_any w' y wb hy (by omega))
  have HFN := Lib.hid (fun w' => refSigned_any w' z wn hz hn8)
  clear hq
  generalize roomB x wa = fa at *
  generalize roomB y wb = fb at *
  generalize sgnB z wn = fn at *
  unfold LinkV
  simp only
  go_enter Try.func46, Try.ntmps46
  go_upto_region 1 with fail
  have HX3 := Lib.hid (show Blk4 (w.alloc (.cells #[.int .u8 (o : Nat), .int .i64 x, .int .i64 y, .int .i64 z] 54)) w.heap.size (.int .u8 (o : Nat)) (.int .i64 x) (.int .i64 y) (.int .i64 z) 54 from heap_alloc_last w _)
  have HB3 := Lib.hid ((Below.refl w.heap.size w).alloc (Nat.le_refl _) (.cells #[.int .u8 (o : Nat), .int .i64 x, .int .i64 y, .int .i64 z] 54))
  generalize w.alloc (.cells #[.int .u8 (o : Nat), .int .i64 x, .int .i64 y, .int .i64 z] 54) = W3 at *
  obtain ⟨c0, c1, c2, c3, f0, f1, f2, f3, lt4⟩ := HX3.out.box
  go_wp2_with fail
  refine (HWD.out W3).mono ?_
  rintro e' w' ⟨rfl, rfl⟩
  cases ok with
  | false =>
    have HE := Lib.hid (show LK.ok ⟨o, x, y, z⟩ = false by rw [HROK.out]; rfl)
    clear HROK
    go_wp2_with fail
    go_ret2
    exact .inr ⟨HE.out, rfl, HB3.out⟩
  | true =>
  go_wp2_with fail
  refine (HFA.out w').mono ?_
  rintro e' W3 ⟨rfl, rfl⟩
  cases fa with
  | false =>
    have HE := Lib.hid (show LK.ok ⟨o, x, y, z⟩ = false by rw [HROK.out]; rfl)
    clear HROK
    go_wp2_with fail
    go_ret2
    exact .inr ⟨HE.out, rfl, HB3.out⟩
  | true =>
  go_wp2_with fail
  refine (HFB.out w').mono ?_
  rintro e' W3 ⟨rfl, rfl⟩
  cases fb with
  | false =>
    have HE := Lib.hid (show LK.ok ⟨o, x, y, z⟩ = false by rw [HROK.out]; rfl)
    clear HROK
    go_wp2_with fail
    go_ret2
    exact .inr ⟨HE.out, rfl, HB3.out⟩
  | true =>
  go_wp2_with fail
  refine (HFN.out w').mono ?_
  rintro e' W3 ⟨rfl, rfl⟩
  cases fn with
  | false =>
    have HE := Lib.hid (show LK.ok ⟨o, x, y, z⟩ = false by rw [HROK.out]; rfl)
    clear HROK
    go_wp2_with fail
    go_ret2
    exact .inr ⟨HE.out, rfl, HB3.out⟩
  | true =>
  have HG := Lib.hid (show LK.ok ⟨o, x, y, z⟩ = true by rw [HROK.out]; rfl)
  have hux := u64V_wrap x
  have huy := u64V_wrap y
  have huz := u64V_wrap z
  have HLX := Lib.hid (u64V_lt x)
  have HLY := Lib.hid (u64V_lt y)
  have HLZ := Lib.hid (u64V_lt z)
  generalize u64V x = ux at *
  generalize u64V y = uy at *
  generalize u64V z = uz at *
  have HEB := Lib.hid (encB_natI o ho)
  clear HROK HFA HFB HFN
  have hal : Below w'.heap.size w' (w'.alloc (.cells #[.int .u8 (o : Nat)] 5)) := (Below.refl _ _).alloc (Nat.le_refl _) _
  have HOL := Lib.hid (show OwnOr (w'.alloc (.cells #[.int .u8 (o : Nat)] 5)) w.heap.size (.slice (some ⟨w'.heap.size, 0, none⟩) 1 1) 1 [UInt8.ofNat o] from .inl (by
    have h := own_litP w' w.heap.size #[.int .u8 (o : Nat)] 5 1 HB3.out.size rfl (by decide)
    rw [HEB.out] at h
    rw [HEB.out]
    exact h))
  go_wp2_with fail
  refine (refPutX (w'.alloc (.cells #[.int .u8 (o : Nat)] 5)) w.heap.size _ 1 _ ux wa HOL.out (Nat.le_trans HB3.out.size hal.size) (by omega) HLX.out (by omega)).mono ?_
  rintro e' W5 ⟨v5, rfl, ho5, hb5⟩
  have hb35 := hal.trans (hb5.mono hal.size)
  have HX5 := Lib.hid (HX3.out.below hb35)
  have HB5 := Lib.hid (HB3.out.trans (hb35.mono HB3.out.size))
  obtain ⟨a5, c5, rfl, _, _⟩ := ho5.sl
  have HO5 := Lib.hid ho5
  clear ho5 hb5 hal hb35 HOL HB3 HX3 c0 c1 c2 c3 f0 f1 f2 f3 lt4
  go_upto_region 5 with fail
  have hSw : XB4 w.heap.size o x y z W5.drew := HX5.out.below (Below.refl _ _).drew
  have l2 := fun z' (h : XB4 w.heap.size o x y z z') => (show Blk4 z' w.heap.size (.int .u8 (o : Nat)) (.int .i64 x) (.int .i64 y) (.int .i64 z) 54 from h).box.c2
  have l3 := fun z' (h : XB4 w.heap.size o x y z z') => (show Blk4 z' w.heap.size (.int .u8 (o : Nat)) (.int .i64 x) (.int .i64 y) (.int .i64 z) 54 from h).box.c3
  refine wp_region_lexS (XB4 w.heap.size o x y z) (.of [(0, true), (1, true), (2, true), (3, true), (4, true), (6, true), (7, true), (8, true), (9, true), (5, false), (10, false)] (.stir [(11, true), (12, true)])) (by kernel_rfl) (by kernel_rfl) (fun c a d v w h => by cases d <;> exact h) ?_
  iterate 9
    refine lexS_step (fun K hK => ?_)
    simp only [lexOp, List.getElem?_toArray, List.getElem?_cons_succ, List.getElem?_cons_zero]
    rw [if_pos (by rfl)]
    apply Exists.intro
    refine ⟨fun w' hS' => ?_, hSw, ?_⟩
    · first | (go_simp <;> with_reducible rfl) | (go_simp; go_bits; with_reducible rfl)
    go_simp
    try go_bits
    refine hK _ _ ?_
    clear hK K
  refine lexS_step (fun K hK => ?_)
  simp only [lexOp, List.getElem?_toArray, List.getElem?_cons_succ, List.getElem?_cons_zero]
  rw [if_pos (by rfl)]
  go_step
  refine (refPutX W5.drew w.heap.size _ (1 + wa) _ uy wb (HO5.out.below (Below.refl _ _).drew) HB5.out.size (by omega) HLY.out (by omega)).mono ?_
  rintro e' W6 ⟨v6, rfl, ho6, hb6⟩
  have hb56 : Below W5.heap.size W5 W6 := ((Below.refl _ _).drew).trans hb6
  replace hSw : XB4 w.heap.size o x y z W6 := HX5.out.below hb56
  have HB6 := Lib.hid (HB5.out.trans (hb56.mono HB5.out.size))
  obtain ⟨a6, c6, rfl, _, _⟩ := ho6.sl
  have HO6 := Lib.hid ho6
  refine ⟨hSw, ?_⟩
  go_simp
  refine hK _ _ ?_
  clear hK K ho6 hb6 hb56 HO5 HB5
  refine lexS_step (fun K hK => ?_)
  simp only [lexOp, List.getElem?_toArray, List.getElem?_cons_succ, List.getElem?_cons_zero]
  rw [if_pos (by rfl)]
  go_step
  refine (refPutX W6 w.heap.size _ (1 + wa + wb) _ uz wn HO6.out HB6.out.size (by omega) HLZ.out (by omega)).mono ?_
  rintro e' W7 ⟨v7, rfl, ho7, hb7⟩
  replace hSw : XB4 w.heap.size o x y z W7 := Blk4.below hSw hb7
  have HB7 := Lib.hid (HB6.out.trans (hb7.mono HB6.out.size))
  obtain ⟨a7, c7, rfl, _, _⟩ := ho7.sl
  have HO7 := Lib.hid ho7
  refine ⟨hSw, ?_⟩
  go_simp
  refine hK _ _ ?_
  clear hK K ho7 hb7 HO6 HB6
  refine lexS_stir (fun y' => y' = W7) (fun y' hy => hy ▸ hSw) rfl ?_
  iterate 2
    refine stir_step (fun K hK => ?_)
    simp only [stirOp, List.getElem?_toArray, List.getElem?_cons_succ, List.getElem?_cons_zero]
    rw [if_pos (by rfl)]
    apply Exists.intro
    refine ⟨fun w' hS' => ?_, ?_⟩
    · first | (go_simp <;> with_reducible rfl) | (go_simp; go_bits; with_reducible rfl)
    go_simp
    try go_bits
    refine hK _ ?_
    clear hK K
  refine stir_nil (fun y' hy => ?_)
  obtain rfl : W7 = y' := hy.symm
  rw [← HRBY.out] at HO7
  have HLR := Lib.hid HO7.out.len
  go_wp2_with fail
  go_ret2
  refine .inl ⟨HG.out, _, rfl, ?_, HB7.out⟩
  rw [HLR.out]
  exact HO7.out
set_option maxRecDepth 100000 in
set_option maxHeartbeats 16000000 in
theorem refLink_any (w : World) (a : Option Addr) (n cap : Nat) (L : List LK) (hs : Ls w a n L) (hn : n ≤ 200) (hw : ∀ r ∈ L, r.right) : Calls Try.prog 16 #[.slice a n cap] w (LinkRet (.bool true) (.bool false) L w) := by
  have HS := Lib.hid hs
  have HLn := Lib.hid hs.1
  have HW := Lib.hid hw
  clear hs hw
  go_enter Try.func16, Try.ntmps16
  go_upto_region 3 with fail
  have HP0 := Lib.hid (own_litP w w.heap.size #[.int .i64 0] 3 1 (Nat.le_refl _) rfl (by decide))
  have HB0 := Lib.hid ((Below.refl w.heap.size w).alloc (Nat.le_refl _) (.cells #[.int .i64 0] 3))
  generalize w.alloc (.cells #[.int .i64 0] 3) = w1 at *
  go_wp2_with fail
  go_loopg [14, 5, 6] n (fun gn i vb vp wr => ∃ j m : Nat, j ≤ n ∧ gn = n - j ∧ i = .int .i64 j ∧ m ≤ 12 * j ∧ Hid (lkOk (L.take j) = true) ∧ Hid (wr.ownsRow w.heap.size 5 1 vb m ((lkB (L.take j)).map encB)) ∧ Hid (wr.ownsRow w.heap.size 3 1 vp (j + 1) ((placesL (L.take j)).map encP)) ∧ Hid (Below w.heap.size w wr))
  case atStart => exact ⟨0, 0, by omega, by omega, by go_num, by omega, Lib.hid rfl, Lib.hid (World.ownsRow_nil _ _ _ _), HP0, HB0⟩
  case round =>
    obtain ⟨j, m, hj, rfl, rfl, hm, HK, HO, HP, HB⟩ := hrel
    by_cases hlt : j < n
    · obtain ⟨b, off, r, rfl, _, hr, q⟩ := Ls.at (Ss.below HS.out HB.out) j hlt
      obtain ⟨q0, q1, q2, q3⟩ := q
      have hwr := HW.out r (List.mem_of_getElem? hr)
      have HKT := Lib.hid (lkOk_take L j r hr)
      have HBT := Lib.hid (lkB_take L j r hr)
      have HPT := Lib.hid (placesL_take L j (List.getElem?_eq_some_iff.1 hr).1)
      have HBAD := Lib.hid (fun h => lkOk_bad hr h)
      have HBL := Lib.hid (LK.bytes_len hwr.1)
      have HONE := Lib.hid (fun w' => One_any w' r hwr)
      unfold LinkV at HONE
      unfold OneRet at HONE
      obtain ⟨o, x, y, z⟩ := r
      simp only at q0 q1 q2 q3 HONE
      have HLB := Lib.hid (show (lkB (L.take j)).length = m by have := HO.out.1; simpa using this)
      generalize LK.ok ⟨o, x, y, z⟩ = ok at *
      generalize LK.bytes ⟨o, x, y, z⟩ = t at *
      clear hr hwr
      generalize lkB (L.take j) = e at *
      go_upto_region 6 with fail
      have hal : Below wr.heap.size wr (wr.alloc (.cells #[.int .u8 (o : Nat), .int .i64 x, .int .i64 y, .int .i64 z] 54)) := (Below.refl _ _).alloc (Nat.le_refl _) _
      have HX1 := Lib.hid (show Blk4 (wr.alloc (.cells #[.int .u8 (o : Nat), .int .i64 x, .int .i64 y, .int .i64 z] 54)) wr.heap.size (.int .u8 (o : Nat)) (.int .i64 x) (.int .i64 y) (.int .i64 z) 54 from heap_alloc_last wr _)
      have HB1 := Lib.hid (HB.out.trans (hal.mono HB.out.size))
      have HO1 := Lib.hid (own_below HO.out hal)
      have HP1 := Lib.hid (own_below HP.out hal)
      clear hal q0 q1 q2 q3 HB HO HP
      generalize wr.alloc (.cells #[.int .u8 (o : Nat), .int .i64 x, .int .i64 y, .int .i64 z] 54) = W1 at *
      generalize wr.heap.size = gx at *
      obtain ⟨c0, c1, c2, c3, f0, f1, f2, f3, lt4⟩ := HX1.out.box
      go_wp2_with fail
      refine (HONE.out W1).mono ?_
      rintro e' W2 (⟨hok, v2, rfl, ho2, hb2⟩ | ⟨hok, rfl, hb2⟩)
      · subst hok
        have HG := Lib.hid (show lkOk (L.take (j + 1)) = true by rw [HKT.out, HK.out]; rfl)
        have HB2 := Lib.hid (HB1.out.trans (hb2.mono HB1.out.size))
        have HO2 := Lib.hid (own_below HO1.out hb2)
        have HP2 := Lib.hid (own_below HP1.out hb2)
        obtain ⟨a2, k2, rfl, hs2, hc2⟩ := ho2.sl
        have HS2 := Lib.hid hs2
        have HLT := HBL.out
        generalize htl : t.length = tl at *
        clear htl hb2 ho2 hs2 HX1 HB1 HO1 HP1 c0 c1 c2 c3 f0 f1 f2 f3 lt4 HBAD HKT HONE HBL
        go_wp2_with (at_builtin; first
          | (refine wpList_app1 oneN rfl _ _ _ rfl w.heap.size _ m _ rfl HO2.out _ tl _ rfl (HS2.out.src encB_cell Try.underlying35 k2) (by omega) (by unfold maxLen; omega) HB2.out.size ?_; intro v3 W3 hown3 hg3 hb3; rw [← List.map_append] at hown3; have hk3 : KeptT 5 W2 W3 := KeptT.app0 HO2.out hg3; have HP3 := Lib.hid (own_keptT HP2.out hk3 (by decide)); have HB3 := Lib.hid (HB2.out.trans hb3); obtain ⟨a3, c3, rfl, _, _⟩ := Sl.ofOwn hown3; have HO3 := Lib.hid hown3; clear hown3 hg3 hb3 hk3 HO2 HP2 HB2)
          | (refine wpList_app_lit2 oneI rfl _ _ rfl w.heap.size _ (j + 1) _ rfl HP3.out _ 1 _ _ rfl (by simp) rfl rfl (by omega) (by unfold maxLen; omega) HB3.out.size ?_; intro v8 W8 hown8 hg8 hb8; have hk8 : KeptT 3 W3 W8 := KeptT.app HP3.out hg8; have HO8 := Lib.hid (own_keptT HO3.out hk8 (by decide)); have HB8 := Lib.hid (HB3.out.trans hb8); have HP8 := Lib.hid hown8; clear hown8 hg8 hb8 hk8))
        go_roundg (n - (j + 1))
        case measure => omega
        case rel =>
          refine ⟨j + 1, m + tl, by omega, rfl, by go_num, by omega, HG, ?_, ?_, HB8⟩
          · refine Lib.hid ?_
            rw [HBT.out]
            exact HO8.out
          · refine Lib.hid ?_
            have hl : (lkB (L.take (j + 1))).length = m + tl := by rw [HBT.out]; have := HO8.out.1; simpa using this
            rw [HPT.out, hl, List.map_append]
            exact HP8.out
      · have HE := Lib.hid (HBAD.out hok)
        subst hok
        have HB2 := Lib.hid (HB1.out.trans (hb2.mono HB1.out.size))
        clear hb2 HX1 HB1 HO1 HP1 HBAD HKT HONE
        go_wp2_with fail
        go_ret3
        exact .inr ⟨HE.out, rfl, HB2.out⟩
    · obtain rfl : j = n := by omega
      have HLE := Lib.hid (show L.take j = L by rw [List.take_of_length_le (by rw [HLn.out]; exact Nat.le_refl _)])
      rw [HLE.out] at HO HK HP
      go_wp2_with fail
      go_ret3
      refine .inl ⟨HK.out, _, m, _, rfl, .inl HO.out, ?_, HB.out⟩
      rw [HLn.out]
      exact HP.out
end Go.Proofs.Ytbcldlbmbdfejaa
/- Blocks of two cells; what keeps all but one block. Over any program. -/
namespace Go.Proofs.Ytbcldlbmbdfejaa
open Go.ChangeShapes Go.WideShapes Go.ChangeAt Go.RowKit
structure Box2 (w : World) (g : Nat) (x y : Value) : Prop where
  c0 : w.cell? ⟨g, 0, none⟩ = some x
  c1 : w.cell? ⟨g, 1, none⟩ = some y
  f0 : w.frozen? ⟨g, 0, none⟩ = false
  f1 : w.frozen? ⟨g, 1, none⟩ = false
  lt : g < w.heap.size
def Blk2 (w : World) (g : Nat) (x y : Value) (t : TypeId) : Prop := w.heap[g]? = some (.cells #[x, y] t)
theorem Blk2.box {w : World} {g : Nat} {x y : Value} {t : TypeId} (h : Blk2 w g x y t) : Box2 w g x y := by
  unfold Blk2 at h
  refine ⟨?_, ?_, ?_, ?_, (Array.getElem?_eq_some_iff.1 h).1⟩
  · rw [cell_of_row w _ 0 _ _ _ h]; rfl
  · rw [cell_of_row w _ 1 _ _ _ h]; rfl
  all_goals (unfold World.frozen?; rw [h]; rfl)
theorem Blk2.belowB {w w1 : World} {B g : Nat} {x y : Value} {t : TypeId} (h : Blk2 w g x y t) (hb : Below B w w1) (hlt : g < B) : Blk2 w1 g x y t := by
  unfold Blk2
  rw [hb.block _ hlt]; exact h
theorem Blk2.below {w w1 : World} {g : Nat} {x y : Value} {t : TypeId} (h : Blk2 w g x y t) (hb : Below w.heap.size w w1) : Blk2 w1 g x y t := h.belowB hb (Array.getElem?_eq_some_iff.1 h).1
theorem Blk2.other {w : World} {g h o : Nat} {x y v : Value} {t : TypeId} (k : Blk2 w g x y t) (hne : g ≠ h) : Blk2 (w.setCell ⟨h, o, none⟩ v) g x y t := by
  unfold Blk2 World.setCell
  have hne' : ¬ h = g := fun e => hne e.symm
  simp [Array.getElem?_modify, hne']
  exact k
theorem Blk2.set0 {w : World} {g : Nat} {x y v : Value} {t : TypeId} (h : Blk2 w g x y t) : Blk2 (w.setCell ⟨g, 0, none⟩ v) g v y t := heap_set3 h 0 v
theorem Blk2.set1 {w : World} {g : Nat} {x y v : Value} {t : TypeId} (h : Blk2 w g x y t) : Blk2 (w.setCell ⟨g, 1, none⟩ v) g x v t := heap_set3 h 1 v
/-- What is there stays, but for block g. -/
structure Keep1 (g : Nat) (w w' : World) : Prop where
  os : w'.os = w.os
  tape : w'.tape = w.tape
  output : w'.output = w.output
  size : w.heap.size ≤ w'.heap.size
  block : ∀ k, k < w.heap.size → k ≠ g → w'.heap[k]? = w.heap[k]?
theorem Keep1.refl (g : Nat) (w : World) : Keep1 g w w := ⟨rfl, rfl, rfl, Nat.le_refl _, fun _ _ _ => rfl⟩
theorem Keep1.trans {g : Nat} {w w1 w2 : World} (h : Keep1 g w w1) (k : Keep1 g w1 w2) : Keep1 g w w2 :=
  ⟨k.os.trans h.os, k.tape.trans h.tape, k.output.trans h.output, Nat.le_trans h.size k.size, fun i hi hg => by rw [k.block i (Nat.lt_of_lt_of_le hi h.size) hg, h.block i hi hg]⟩
theorem Keep1.of {g : Nat} {w w1 : World} (h : Below w.heap.size w w1) : Keep1 g w w1 := ⟨h.os, h.tape, h.output, h.size, fun k hk _ => h.block k hk⟩
theorem Keep1.drew {g : Nat} {w w1 : World} (h : Keep1 g w w1) : Keep1 g w w1.drew := ⟨h.os, h.tape, h.output, h.size, h.block⟩
theorem Keep1.drewN {g : Nat} {w w1 : World} (h : Keep1 g w w1) (n : Nat) : Keep1 g w (w1.drewN n) := ⟨h.os, h.tape, h.output, h.size, h.block⟩
theorem Keep1.set {g : Nat} {w w1 : World} (h : Keep1 g w w1) (o : Nat) (v : Value) : Keep1 g w (w1.setCell ⟨g, o, none⟩ v) :=
  ⟨h.os, h.tape, h.output, by have := h.size; unfold World.setCell; simpa using this, fun k hk hg => by
    rw [← h.block k hk hg]
    unfold World.setCell
    have hne' : ¬ g = k := fun e => hg e.symm
    simp [Array.getElem?_modify, hne']⟩
theorem Keep1.below {g B : Nat} {w0 w w' : World} (h : Keep1 g w w') (hb : Below B w0 w) (hB : B ≤ w0.heap.size) (hg : B ≤ g) : Below B w0 w' :=
  ⟨h.os.trans hb.os, h.tape.trans hb.tape, h.output.trans hb.output, Nat.le_trans hb.size h.size, fun k hk => by
    rw [h.block k (Nat.lt_of_lt_of_le (Nat.lt_of_lt_of_le hk hB) hb.size) (by omega)]; exact hb.block k hk⟩
/-- A slice that is not in block g. -/
def Off1 (x : Option Addr) (n g : Nat) : Prop := 0 < n → ∀ b off, x = some ⟨b, off, none⟩ → b ≠ g
theorem Off1.old {α : Type} {enc : α → Value} {w : World} {x : Option Addr} {n g : Nat} {xs : List α} (h : Sl enc w x n xs) (hg : w.heap.size ≤ g) : Off1 x n g := by
  intro hn b off hx
  obtain ⟨b', off', hx', hlt, _⟩ := h.2 hn
  rw [hx] at hx'
  simp only [Option.some.injEq, Addr.mk.injEq] at hx'
  omega
theorem Off1.new {x off n g : Nat} (h : g ≠ x) : Off1 (some ⟨x, off, none⟩) n g := fun _ b o e => by cases e; exact Ne.symm h
theorem Off1.nil {a : Option Addr} {g : Nat} : Off1 a 0 g := fun h => absurd h (by omega)
theorem Sl.keep1 {α : Type} {enc : α → Value} {g : Nat} {w w' : World} {x : Option Addr} {n : Nat} {xs : List α} (hs : Sl enc w x n xs) (h : Keep1 g w w') (h1 : Off1 x n g) : Sl enc w' x n xs := by
  refine ⟨hs.1, fun hn => ?_⟩
  obtain ⟨b, off, ha, hlt, hc⟩ := hs.2 hn
  refine ⟨b, off, ha, Nat.lt_of_lt_of_le hlt h.size, fun i hi => ?_⟩
  rw [← hc i hi]
  unfold World.cell?
  rw [h.block b hlt (h1 hn b off ha)]
theorem Off1.own {w : World} {B : Nat} {e : TypeId} {a : Option Addr} {n c g : Nat} {xs : List Value} (h : w.ownsRow B e 1 (.slice a n c) n xs) (hg : g < B) : Off1 a n g := by
  intro hn b off hx
  obtain ⟨g', hx', hB, _⟩ := own_addr h hn
  rw [hx] at hx'
  simp only [Option.some.injEq, Addr.mk.injEq] at hx'
  omega
theorem own_keep1 {g : Nat} {w w' : World} {B : Nat} {e : TypeId} {size : Nat} {v : Value} {n : Nat} {xs : List Value} (h : w.ownsRow B e size v n xs) (k : Keep1 g w w') (hg : g < B) : w'.ownsRow B e size v n xs := by
  refine ⟨h.1, ?_⟩
  rcases h.2 with ⟨h1, h2⟩ | ⟨b, cap, cur, hv, hb, hc, r⟩
  · exact .inl ⟨h1, h2⟩
  · exact .inr ⟨b, cap, cur, hv, hb, by rw [k.block b (Array.getElem?_eq_some_iff.1 hc).1 (by omega)]; exact hc, r⟩
theorem keep1_app {g : Nat} {w w1 w2 : World} {e : TypeId} {size : Nat} {v : Value} {n : Nat} {xs : List Value} (k : Keep1 g w w1) (h : w1.ownsRow w.heap.size e size v n xs) (hg : w1.grownBy w2 v.ownBlock) : Keep1 g w w2 := by
  refine ⟨hg.os.trans k.os, hg.tape.trans k.tape, hg.output.trans k.output, Nat.le_trans k.size hg.size, fun i hi hne => ?_⟩
  rw [hg.block i (Nat.lt_of_lt_of_le hi k.size) ?_, k.block i hi hne]
  intro he
  rcases h.2 with ⟨rfl, _⟩ | ⟨b, cap, cur, rfl, hb, _⟩
  · simp [Value.ownBlock] at he
  · simp [Value.ownBlock] at he
    omega
theorem keep1_appA {g : Nat} {w w1 w2 : World} {o : Obj} {e : TypeId} {size : Nat} {v : Value} {n : Nat} {xs : List Value} (k : Keep1 g w w1) (h : w1.ownsRow w.heap.size e size v n xs) (hg : (w1.alloc o).grownBy w2 v.ownBlock) : Keep1 g w w2 :=
  keep1_app (k.trans (Keep1.of ((Below.refl _ _).alloc (Nat.le_refl _) o))) (h.alloc o) hg
end Go.Proofs.Ytbcldlbmbdfejaa
/- image: the writer's put. No condition. -/
namespace Go.Proofs.Ytbcldlbmbdfejaa
open Go.ChangeShapes Go.WideShapes Go.ChangeAt Go.RowKit
/-- An int as a value. -/
def encZ (v : Int) : Value := .int .i64 v
/-- Numbers' bytes. -/
def putsB (l : List Int) (n : Nat) : List UInt8 := l.flatMap fun v => putB (u64V v) n
def badB (l : List Int) (n : Nat) : Bool := l.any fun v => !roomB v n
theorem putsB_len (l : List Int) (n : Nat) : (putsB l n).length = l.length * n := by
  unfold putsB
  induction l with
  | nil => simp
  | cons x l ih => rw [List.flatMap_cons, List.length_append, ih, putB_length, List.length_cons, Nat.add_mul]; omega
theorem putsB_take (l : List Int) (n j : Nat) (v : Int) (h : l[j]? = some v) : putsB (l.take (j + 1)) n = putsB (l.take j) n ++ putB (u64V v) n := by
  obtain ⟨hj, he⟩ := List.getElem?_eq_some_iff.1 h
  unfold putsB
  rw [List.take_succ_eq_append_getElem hj, List.flatMap_append, he]
  simp
theorem badB_take (l : List Int) (n j : Nat) (v : Int) (h : l[j]? = some v) : badB (l.take (j + 1)) n = (badB (l.take j) n || !roomB v n) := by
  obtain ⟨hj, he⟩ := List.getElem?_eq_some_iff.1 h
  unfold badB
  rw [List.take_succ_eq_append_getElem hj, List.any_append, he]
  simp
/-- A writer in block g. -/
def WrS (w : World) (g : Nat) (bs : List UInt8) (odd : Bool) : Prop :=
  ∃ a n cap, Blk2 w g (.slice a n cap) (.bool odd) 65 ∧ Sl encB w a n bs ∧ n ≤ cap ∧ Off1 a n g ∧ w.ownsRow (g + 1) 5 1 (.slice a n cap) n (bs.map encB)
theorem WrS.below {w w' : World} {g : Nat} {bs : List UInt8} {odd : Bool} (h : WrS w g bs odd) (hb : Below w.heap.size w w') : WrS w' g bs odd := by
  obtain ⟨a, n, cap, h1, h2, h3, h4, h5⟩ := h
  exact ⟨a, n, cap, h1.below hb, h2.below hb, h3, h4, own_below h5 hb⟩
theorem WrS.lt {w : World} {g : Nat} {bs : List UInt8} {odd : Bool} (h : WrS w g bs odd) : g < w.heap.size := by
  obtain ⟨a, n, cap, h1, h2, h3, h4⟩ := h
  exact h1.box.lt
theorem Sl.getZ {w : World} {a : Option Addr} {n : Nat} {l : List Int} (h : Sl encZ w a n l) (j : Nat) (hj : j < n) : ∃ b off v, a = some ⟨b, off, none⟩ ∧ b < w.heap.size ∧ l[j]? = some v ∧ w.cell? ⟨b, off + j, none⟩ = some (.int .i64 v) := by
  obtain ⟨b, off, ha, hlt, hc⟩ := h.2 (by omega)
  have hl : j < l.length := by rw [h.1]; exact hj
  exact ⟨b, off, l[j], ha, hlt, List.getElem?_eq_getElem hl, hc j hl⟩
/-- A writer whose row is its call's own. -/
def WrO (own : Prop) (B : Nat) (w : World) (g : Nat) (bs : List UInt8) (odd : Bool) : Prop :=
  ∃ a n cap, Blk2 w g (.slice a n cap) (.bool odd) 65 ∧ Sl encB w a n bs ∧ n ≤ cap ∧ Off1 a n g ∧ (own → w.ownsRow B 5 1 (.slice a n cap) n (bs.map encB)) ∧ w.ownsRow (g + 1) 5 1 (.slice a n cap) n (bs.map encB)
theorem WrO.s {own : Prop} {B : Nat} {w : World} {g : Nat} {bs : List UInt8} {odd : Bool} (h : WrO own B w g bs odd) : WrS w g bs odd := by
  obtain ⟨a, n, cap, h1, h2, h3, h4, _, h6⟩ := h
  exact ⟨a, n, cap, h1, h2, h3, h4, h6⟩
theorem WrS.o {own : Prop} {B : Nat} {w : World} {g : Nat} {bs : List UInt8} {odd : Bool} (h : WrS w g bs odd) (ho : ¬ own) : WrO own B w g bs odd := by
  obtain ⟨a, n, cap, h1, h2, h3, h4, h5⟩ := h
  exact ⟨a, n, cap, h1, h2, h3, h4, fun h => absurd h ho, h5⟩
def PutsRetO (own : Prop) (g : Nat) (bs : List UInt8) (odd : Bool) (w : World) (e : Ending) (w' : World) : Prop := e = .returned (.tuple #[]) ∧ WrO own w.heap.size w' g bs odd ∧ Keep1 g w w'
/-- What put leaves. -/
def PutsRet (g : Nat) (bs : List UInt8) (odd : Bool) (w : World) (e : Ending) (w' : World) : Prop := e = .returned (.tuple #[]) ∧ WrS w' g bs odd ∧ Keep1 g w w'
set_option maxRecDepth 100000 in
set_option maxHeartbeats 8000000 in
theorem wput_own (w : World) (g : Nat) (bs : List UInt8) (odd : Bool) (h : WrS w g bs odd) (nb : Nat) (hnb : nb = 1 ∨ nb = 2 ∨ nb = 4) (a : Option Addr) (n cap : Nat) (l : List Int) (hs : Sl encZ w a n l) (ho : Off1 a n g) (hz : ∀ v ∈ l, IntR v) (hlen : bs.length + n * 4 ≤ 1048576) :
    Calls Try.prog 23 #[.pointer (some ⟨g, 0, none⟩), .int .i64 nb, .slice a n cap] w (PutsRetO (0 < n) g (bs ++ putsB l nb) (odd || badB l nb) w) := by
  have HGL := Lib.hid h.lt
  have HS := Lib.hid hs
  have HLn := Lib.hid hs.1
  have HZ := Lib.hid hz
  have HO := Lib.hid ho
  have HW0 := Lib.hid h
  have hnb4 : 1 ≤ nb ∧ nb ≤ 4 := by omega
  have HNB := Lib.hid hnb
  clear hs hz ho h hnb
  go_enter Try.func23, Try.ntmps23
  go_wp2_with fail
  go_loopg [10] n (fun gn i wr => ∃ j : Nat, j ≤ n ∧ gn = n - j ∧ i = .int .i64 j ∧ Hid (WrO (0 < j) w.heap.size wr g (bs ++ putsB (l.take j) nb) (odd || badB (l.take j) nb)) ∧ Hid (Keep1 g w wr))
  case atStart => exact ⟨0, by omega, by omega, by go_num, Lib.hid (by rw [show bs ++ putsB (l.take 0) nb = bs by simp [putsB], show (odd || badB (l.take 0) nb) = odd by simp [badB]]; exact HW0.out.o (by omega)), Lib.hid (Keep1.refl _ _)⟩
  case round =>
    obtain ⟨j, hj, rfl, rfl, HW, HK⟩ := hrel
    by_cases hlt : j < n
    · obtain ⟨b, off, v, rfl, hbl, hv, q⟩ := (HS.out.keep1 HK.out HO.out).getZ j hlt
      have hvr := HZ.out v (List.mem_of_getElem? hv)
      have HPT := Lib.hid (show bs ++ putsB (l.take (j + 1)) nb = bs ++ putsB (l.take j) nb ++ putB (u64V v) nb by rw [putsB_take l nb j v hv, List.append_assoc])
      have HBT := Lib.hid (show (odd || badB (l.take (j + 1)) nb) = (odd || badB (l.take j) nb || !roomB v nb) by rw [badB_take l nb j v hv, Bool.or_assoc])
      have hlen2 : (bs ++ putsB (l.take j) nb).length ≤ 1048572 := by
        rw [List.length_append, putsB_len, List.length_take]
        have h1 : min j l.length ≤ n - 1 := by omega
        have h2 : min j l.length * nb ≤ (n - 1) * 4 := Nat.mul_le_mul h1 hnb4.2
        omega
      have HFI := Lib.hid (fun w' => fits_any w' v nb hvr (by have := HNB.out; omega))
      have hux := u64V_wrap v
      have HLX := Lib.hid (u64V_lt v)
      obtain ⟨a2, n2, c2, hk2, hs2, hc2, ho2, -⟩ := HW.out
      have HK2 := Lib.hid hk2
      have HS2 := Lib.hid hs2
      have HO2 := Lib.hid ho2
      have HL2 := Lib.hid hs2.1
      rw [hs2.1] at hlen2
      have HQ : Hid (v ∈ l) := Lib.hid (List.mem_of_getElem? hv)
      clear hk2 hs2 ho2 hv HW
      generalize bs ++ putsB (l.take j) nb = e at *
      generalize (odd || badB (l.take j) nb) = od at *
      generalize roomB v nb = fv at *
      generalize u64V v = uv at *
      obtain ⟨c0, c1, f0, f1, lt2⟩ := HK2.out.box
      cases od with
      | true =>
        go_upto_region 4 with fail
        have HK3 := Lib.hid (HK2.out.set1 (v := .bool true))
        have HKK := Lib.hid (HK.out.set 1 (.bool true))
        have HS3 := Lib.hid (HS2.out.keep1 ((Keep1.refl g wr).set 1 (.bool true)) HO2.out)
        clear HK2 HK HS2 c0 c1 f0 f1 lt2
        generalize wr.setCell ⟨g, 1, none⟩ (.bool true) = W3 at *
        obtain ⟨c0, c1, f0, f1, lt3⟩ := HK3.out.box
        go_wp2_with fail
        refine (Put_any W3 a2 n2 c2 e uv nb HS3.out (by omega) hc2 HLX.out hnb4.1 (by omega)).mono ?_
        rintro e' W4 ⟨v4, m4, rfl, ho4, hb4⟩
        obtain ⟨a4, c4, rfl, hs4, hc4⟩ := Sl.ofOwn ho4
        have HN4 := Lib.hid (own_mono ho4 HKK.out.size)
        have HS4 := Lib.hid hs4
        have HO4 := Lib.hid (Off1.own ho4 lt3)
        have HK4 := Lib.hid (HK3.out.below hb4)
        have HKK4 := Lib.hid (HKK.out.trans (Keep1.of hb4))
        clear HK3 HKK HS3 ho4 hb4 hs4 c0 c1 f0 f1 lt3
        obtain ⟨c0, c1, f0, f1, lt3⟩ := HK4.out.box
        go_wp2_with fail
        go_roundg (n - (j + 1))
        case measure => omega
        case rel =>
          refine ⟨j + 1, by omega, rfl, by go_num, Lib.hid ?_, Lib.hid (HKK4.out.set 0 _)⟩
          rw [HPT.out, HBT.out]
          exact ⟨a4, m4, c4, by simpa using HK4.out.set0, HS4.out.keep1 ((Keep1.refl g W4).set 0 _) HO4.out, hc4, HO4.out, fun _ => own_keep1 HN4.out ((Keep1.refl g W4).set 0 _) HGL.out, own_mono (own_keep1 HN4.out ((Keep1.refl g W4).set 0 _) HGL.out) HGL.out⟩
      | false =>
        go_wp2_with fail
        refine (HFI.out wr).mono ?_
        rintro e' w' ⟨rfl, rfl⟩
        cases fv with
        | true =>
          go_upto_region 4 with fail
          have HK3 := Lib.hid (HK2.out.set1 (v := .bool false))
          have HKK := Lib.hid (HK.out.set 1 (.bool false))
          have HS3 := Lib.hid (HS2.out.keep1 ((Keep1.refl g wr).set 1 (.bool false)) HO2.out)
          clear HK2 HK HS2 c0 c1 f0 f1 lt2
          generalize wr.setCell ⟨g, 1, none⟩ (.bool false) = W3 at *
          obtain ⟨c0, c1, f0, f1, lt3⟩ := HK3.out.box
          go_wp2_with fail
          refine (Put_any W3 a2 n2 c2 e uv nb HS3.out (by omega) hc2 HLX.out hnb4.1 (by omega)).mono ?_
          rintro e' W4 ⟨v4, m4, rfl, ho4, hb4⟩
          obtain ⟨a4, c4, rfl, hs4, hc4⟩ := Sl.ofOwn ho4
          have HN4 := Lib.hid (own_mono ho4 HKK.out.size)
          have HS4 := Lib.hid hs4
          have HO4 := Lib.hid (Off1.own ho4 lt3)
          have HK4 := Lib.hid (HK3.out.below hb4)
          have HKK4 := Lib.hid (HKK.out.trans (Keep1.of hb4))
          clear HK3 HKK HS3 ho4 hb4 hs4 c0 c1 f0 f1 lt3
          obtain ⟨c0, c1, f0, f1, lt3⟩ := HK4.out.box
          go_wp2_with fail
          go_roundg (n - (j + 1))
          case measure => omega
          case rel =>
            refine ⟨j + 1, by omega, rfl, by go_num, Lib.hid ?_, Lib.hid (HKK4.out.set 0 _)⟩
            rw [HPT.out, HBT.out]
            exact ⟨a4, m4, c4, by simpa using HK4.out.set0, HS4.out.keep1 ((Keep1.refl g W4).set 0 _) HO4.out, hc4, HO4.out, fun _ => own_keep1 HN4.out ((Keep1.refl g W4).set 0 _) HGL.out, own_mono (own_keep1 HN4.out ((Keep1.refl g W4).set 0 _) HGL.out) HGL.out⟩
        | false =>
          go_upto_region 4 with fail
          have HK3 := Lib.hid (HK2.out.set1 (v := .bool true))
          have HKK := Lib.hid (HK.out.set 1 (.bool true))
          have HS3 := Lib.hid (HS2.out.keep1 ((Keep1.refl g wr).set 1 (.bool true)) HO2.out)
          clear HK2 HK HS2 c0 c1 f0 f1 lt2
          generalize wr.setCell ⟨g, 1, none⟩ (.bool true) = W3 at *
          obtain ⟨c0, c1, f0, f1, lt3⟩ := HK3.out.box
          go_wp2_with fail
          refine (Put_any W3 a2 n2 c2 e uv nb HS3.out (by omega) hc2 HLX.out hnb4.1 (by omega)).mono ?_
          rintro e' W4 ⟨v4, m4, rfl, ho4, hb4⟩
          obtain ⟨a4, c4, rfl, hs4, hc4⟩ := Sl.ofOwn ho4
          have HN4 := Lib.hid (own_mono ho4 HKK.out.size)
          have HS4 := Lib.hid hs4
          have HO4 := Lib.hid (Off1.own ho4 lt3)
          have HK4 := Lib.hid (HK3.out.below hb4)
          have HKK4 := Lib.hid (HKK.out.trans (Keep1.of hb4))
          clear HK3 HKK HS3 ho4 hb4 hs4 c0 c1 f0 f1 lt3
          obtain ⟨c0, c1, f0, f1, lt3⟩ := HK4.out.box
          go_wp2_with fail
          go_roundg (n - (j + 1))
          case measure => omega
          case rel =>
            refine ⟨j + 1, by omega, rfl, by go_num, Lib.hid ?_, Lib.hid (HKK4.out.set 0 _)⟩
            rw [HPT.out, HBT.out]
            exact ⟨a4, m4, c4, by simpa using HK4.out.set0, HS4.out.keep1 ((Keep1.refl g W4).set 0 _) HO4.out, hc4, HO4.out, fun _ => own_keep1 HN4.out ((Keep1.refl g W4).set 0 _) HGL.out, own_mono (own_keep1 HN4.out ((Keep1.refl g W4).set 0 _) HGL.out) HGL.out⟩
    · obtain rfl : j = n := by omega
      have HLE := Lib.hid (show l.take j = l by rw [List.take_of_length_le (by rw [HLn.out]; exact Nat.le_refl _)])
      rw [HLE.out] at HW
      go_wp2_with fail
      go_end0
      exact ⟨rfl, HW.out, HK.out⟩
theorem wput_any (w : World) (g : Nat) (bs : List UInt8) (odd : Bool) (h : WrS w g bs odd) (nb : Nat) (hnb : nb = 1 ∨ nb = 2 ∨ nb = 4) (a : Option Addr) (n cap : Nat) (l : List Int) (hs : Sl encZ w a n l) (ho : Off1 a n g) (hz : ∀ v ∈ l, IntR v) (hlen : bs.length + n * 4 ≤ 1048576) :
    Calls Try.prog 23 #[.pointer (some ⟨g, 0, none⟩), .int .i64 nb, .slice a n cap] w (PutsRet g (bs ++ putsB l nb) (odd || badB l nb) w) :=
  (wput_own w g bs odd h nb hnb a n cap l hs ho hz hlen).mono fun _ _ h => ⟨h.1, h.2.1.s, h.2.2⟩
end Go.Proofs.Ytbcldlbmbdfejaa
/- image: what stands in memory. No condition. -/
namespace Go.Proofs.Ytbcldlbmbdfejaa
open Go.ChangeShapes Go.WideShapes Go.ChangeAt Go.RowKit
def encS (s : List UInt8) : Value := .string ⟨s.toArray⟩
/-- A class, as it is laid. -/
structure CW where
  name : List UInt8
  sup : Int
  cells : Int
  ra : Option Addr
  rn : Nat
  rc : Nat
  refs : List Int
  ta : Option Addr
  tn : Nat
  tc : Nat
  table : List Int
def CW.vals (c : CW) : List Value := [.string ⟨c.name.toArray⟩, .int .i64 c.sup, .int .i64 c.cells, .slice c.ra c.rn c.rc, .slice c.ta c.tn c.tc]
structure CW.Rd (w : World) (c : CW) : Prop where
  r : Sl encZ w c.ra c.rn c.refs
  t : Sl encZ w c.ta c.tn c.table
  rc : c.rn ≤ c.rc
  tc : c.tn ≤ c.tc
def CW.right (c : CW) : Prop := IntR c.sup ∧ IntR c.cells ∧ (∀ v ∈ c.refs, IntR v) ∧ (∀ v ∈ c.table, IntR v)
/-- A method. -/
structure MW where
  cls : Int
  name : List UInt8
  desc : List UInt8
  stat : Bool
  slot : Int
  nat : Int
def MW.vals (m : MW) : List Value := [.int .i64 m.cls, .string ⟨m.name.toArray⟩, .string ⟨m.desc.toArray⟩, .bool m.stat, .int .i64 m.slot, .int .i64 m.nat]
def MW.right (m : MW) : Prop := IntR m.cls ∧ IntR m.slot ∧ IntR m.nat
/-- A trap. -/
structure TW where
  frm : Int
  upto : Int
  pos : Int
  cls : Int
def TW.vals (t : TW) : List Value := [.int .i64 t.frm, .int .i64 t.upto, .int .i64 t.pos, .int .i64 t.cls]
def TW.right (t : TW) : Prop := IntR t.frm ∧ IntR t.upto ∧ IntR t.pos ∧ IntR t.cls
/-- Where a code stands. -/
structure KW where
  pos : Int
  len : Int
  stack : Int
  locals : Int
  args : Int
  ta : Option Addr
  tn : Nat
  tc : Nat
  traps : List TW
def KW.vals (k : KW) : List Value := [.int .i64 k.pos, .int .i64 k.len, .int .i64 k.stack, .int .i64 k.locals, .int .i64 k.args, .slice k.ta k.tn k.tc]
structure KW.Rd (w : World) (k : KW) : Prop where
  t : Ss 4 TW.vals w k.ta k.tn k.traps
  tc : k.tn ≤ k.tc
def KW.right (k : KW) : Prop := IntR k.pos ∧ IntR k.len ∧ IntR k.stack ∧ IntR k.locals ∧ IntR k.args ∧ (∀ t ∈ k.traps, t.right)
theorem row_cell {w : World} {g : Nat} {C : Array Value} {t : TypeId} {fr : Nat × Nat} (h : w.heap[g]? = some (.cells C t fr)) (k : Nat) {v : Value} (hk : C[k]? = some v) : w.cell? ⟨g, k, none⟩ = some v := by
  rw [cell_of_row w g k _ _ _ h]; exact hk
theorem row_melt {w : World} {g : Nat} {C : Array Value} {t : TypeId} (h : w.heap[g]? = some (.cells C t)) (k : Nat) : w.frozen? ⟨g, k, none⟩ = false := by
  unfold World.frozen?
  rw [h]
  simp
theorem row_lt {w : World} {g : Nat} {C : Array Value} {t : TypeId} {fr : Nat × Nat} (h : w.heap[g]? = some (.cells C t fr)) : g < w.heap.size := (Array.getElem?_eq_some_iff.1 h).1
theorem row_below {w w' : World} {g : Nat} {o : Obj} (h : w.heap[g]? = some o) (hb : Below w.heap.size w w') : w'.heap[g]? = some o := by rw [hb.block g (Array.getElem?_eq_some_iff.1 h).1]; exact h
end Go.Proofs.Ytbcldlbmbdfejaa
