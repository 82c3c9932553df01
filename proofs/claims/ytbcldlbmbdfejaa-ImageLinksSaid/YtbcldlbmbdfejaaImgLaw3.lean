/- image: ImageLinks. No condition. -/
import Derived.Test.YtbcldlbmbdfejaaImgOpen
namespace Go.Proofs.Ytbcldlbmbdfejaa
open Go.ChangeShapes Go.WideShapes Go.ChangeAt Go.RowKit
theorem run_exec_binL {P : Program} {ρ : Operand → Value} {o : Oper} {op : BinOp} {t : TypeId} {x y : Operand} {ty : TypeId} (ho : o.op = .binOp op t x y ty) {v : Value} {w : World}
    (h : ((eqGuard op t x y (ρ x) (ρ y)).run P w).andThen (fun _ w' => (binOp op t (ρ x) (ρ y)).run P w') = .ok v w) : (execOp ρ o).run P w = .ok (.value v) w := by
  unfold execOp
  simp only [ho, Sem.run_bind, Sem.run_pure]
  rw [h]
  rfl
theorem run_neqL (w : World) (x y : LK) (o1 o2 : Operand) : ((eqGuard .neq 54 o1 o2 (.agg #[.int .u8 (x.op : Nat), .int .i64 x.a, .int .i64 x.b, .int .i64 x.n]) (.agg #[.int .u8 (y.op : Nat), .int .i64 y.a, .int .i64 y.b, .int .i64 y.n])).run Try.prog w).andThen (fun _ w' => (binOp .neq 54 (.agg #[.int .u8 (x.op : Nat), .int .i64 x.a, .int .i64 x.b, .int .i64 x.n]) (.agg #[.int .u8 (y.op : Nat), .int .i64 y.a, .int .i64 y.b, .int .i64 y.n])).run Try.prog w') = .ok (.bool (!sameL x y)) w := by
  have h := run_equalL w 9998 x y
  rw [run_eqGuard_agg w _ _ _ _ _ _ link_guard, Result.andThen_ok, run_neq_struct, h, Result.andThen_ok]
theorem places_Z (L : List LK) : (placesL L).map encP = ((placesL L).map (fun n : Nat => (n : Int))).map encZ := by rw [List.map_map]; rfl
/-- What the last region of the loop reads. -/
def LkS (g1 g2 pb po i : Nat) (x y z' : Int) (k : Nat) (p0 p1 : Nat) (w : World) : Prop :=
  Blk4 w g1 (.int .u8 (k : Nat)) (.int .i64 x) (.int .i64 y) (.int .i64 z') 54 ∧ Blk4 w g2 (.int .u8 (k : Nat)) (.int .i64 x) (.int .i64 y) (.int .i64 z') 54 ∧ w.cell? ⟨pb, po + i, none⟩ = some (.int .i64 (p0 : Nat)) ∧ w.cell? ⟨pb, po + (i + 1), none⟩ = some (.int .i64 (p1 : Nat))
set_option maxRecDepth 100000 in
set_option maxHeartbeats 16000000 in
theorem walk_ImageLinks (a : Option Addr) (n cap : Nat) (w : World) (h : IsLs w a n cap) :
    Calls Try.prog 5 #[.slice a n cap] w fun e w' => e = .returned (.bool true) ∧ Below w.heap.size w w' := by
  obtain ⟨hcap, hmx, L, hs, hw⟩ := h
  have HS := Lib.hid hs
  have HW := Lib.hid hw
  have HLn := Lib.hid hs.1
  clear hs hw
  have HF := Lib.hid (fixed25 w)
  unfold QuietRet at HF
  go_enter Try.func5, Try.ntmps5
  go_wp2_with fail
  refine HF.out.mono ?_
  rintro e w1 ⟨rfl, hb1⟩
  have HB1 := Lib.hid hb1
  clear hb1 HF
  by_cases h2 : 200 < n
  · have ed : decide ((200 : Int) < n) = true := by simp; omega
    clear h2
    go_wp2_with fail
    go_ret
    exact ⟨rfl, HB1.out⟩
  have ed : decide ((200 : Int) < n) = false := by simp; omega
  have hn : n ≤ 200 := by omega
  have HL1 := Lib.hid (fun w' (h : Below w.heap.size w w') => Link_any w' a n cap L (Ss.below HS.out h) hn HW.out)
  have HL2 := Lib.hid (fun w' (h : Below w.heap.size w w') => refLink_any w' a n cap L (Ss.below HS.out h) hn HW.out)
  clear h2
  go_wp2_with fail
  refine (HL1.out w1 HB1.out).mono ?_
  rintro e w2 (⟨hok, va, m, vp, rfl, ho2, hp2, hb2⟩ | ⟨hbad, rfl, hb2⟩)
  case inr =>
    have HB2 := Lib.hid (HB1.out.trans (hb2.mono HB1.out.size))
    have HBD := Lib.hid hbad
    clear hb2 hbad
    go_wp2_with fail
    refine (HL2.out w2 HB2.out).mono ?_
    rintro e w3 (⟨hok, _⟩ | ⟨_, rfl, hb3⟩)
    · rw [HBD.out] at hok; cases hok
    have HB3 := Lib.hid (HB2.out.trans (hb3.mono HB2.out.size))
    clear hb3
    go_wp2_with fail
    go_ret
    exact ⟨rfl, HB3.out⟩
  have HB2 := Lib.hid (HB1.out.trans (hb2.mono HB1.out.size))
  have HOK := Lib.hid hok
  have HO2 := Lib.hid ho2
  rw [places_Z] at hp2
  have HP2 := Lib.hid hp2
  obtain ⟨ab, cb, rfl, _, _⟩ := HO2.out.sl
  obtain ⟨ap, cp, rfl, _, _⟩ := Sl.ofOwn HP2.out
  clear hb2 hok ho2 hp2
  go_wp2_with fail
  refine (HL2.out w2 HB2.out).mono ?_
  rintro e w3 (⟨_, va3, m3, vp3, rfl, ho3, hp3, hb3⟩ | ⟨hbad, _⟩)
  case inr => rw [HOK.out] at hbad; cases hbad
  have HB3 := Lib.hid (HB2.out.trans (hb3.mono HB2.out.size))
  obtain ⟨ab3, cb3, rfl, hsb3, hcb3⟩ := ho3.sl
  rw [places_Z] at hp3
  obtain ⟨ap3, cp3, rfl, hsp3, hcp3⟩ := Sl.ofOwn hp3
  have hmm : m3 = m := by have h1 := ho3.len; have h2 := HO2.out.len; omega
  subst hmm
  have HSB := Lib.hid (show Sl encB w3 ab m3 (lkB L) by obtain ⟨_, _, e', h', _⟩ := (HO2.out.below hb3).sl; simp only [Value.slice.injEq] at e'; obtain ⟨rfl, _, rfl⟩ := e'; exact h')
  have HSP := Lib.hid (show Sl encZ w3 ap (L.length + 1) ((placesL L).map (fun n : Nat => (n : Int))) by obtain ⟨_, _, e', h', _⟩ := Sl.ofOwn (own_below HP2.out hb3); simp only [Value.slice.injEq] at e'; obtain ⟨rfl, _, rfl⟩ := e'; exact h')
  have hcb : m3 ≤ cb := by obtain ⟨_, _, e', _, h'⟩ := HO2.out.sl; simp only [Value.slice.injEq] at e'; obtain ⟨_, _, rfl⟩ := e'; exact h'
  have HSB3 := Lib.hid hsb3
  have HSP3 := Lib.hid hsp3
  clear hb3 ho3 hp3 hsb3 hsp3 HO2 HP2
  rw [HLn.out] at HSP HSP3
  have HLL := Lib.hid HSB.out.1
  have hmlen : m3 ≤ 2400 := by
    have : ∀ l : List LK, (∀ r ∈ l, r.right) → (lkB l).length ≤ 12 * l.length := by
      intro l
      induction l with
      | nil => intro _; simp [lkB]
      | cons r l ih =>
        intro h
        have h1 := LK.bytes_len (h r List.mem_cons_self).1
        have h2 := ih (fun x hx => h x (List.mem_cons_of_mem _ hx))
        unfold lkB at h2 ⊢
        rw [List.flatMap_cons, List.length_append, List.length_cons]
        omega
    have h1 := this L HW.out
    rw [HLL.out, HLn.out] at h1
    omega
  have HSI := Lib.hid (sameInts_any w3 ap (n + 1) cp _ HSP.out ap3 (n + 1) cp3 _ HSP3.out (by omega) (by omega))
  rw [decide_eq_true rfl] at HSI
  have cv1 := run_conv HSB.out cb
  have cv2 := run_conv HSB3.out cb3
  rw [HLn.out]
  go_wp2_with fail
  refine HSI.out.mono ?_
  rintro e w4 ⟨rfl, hb4⟩
  have HB4 := Lib.hid (HB3.out.trans (hb4.mono HB3.out.size))
  have HSB4 := Lib.hid (HSB.out.below hb4)
  have HSP4 := Lib.hid (HSP3.out.below hb4)
  clear hb4 cv1 cv2 HSI HSB HSP HSB3 HSP3 HB3
  go_wp2_with fail
  go_loopg [60] n (fun gn i wr => ∃ j : Nat, j ≤ n ∧ gn = n - j ∧ i = .int .i64 j ∧ Hid (Below w4.heap.size w4 wr))
  case atStart => exact ⟨0, by omega, by omega, by go_num, Lib.hid (Below.refl _ _)⟩
  case round =>
    obtain ⟨j, hj, rfl, rfl, HB⟩ := hrel
    by_cases hlt : j < n
    · have HBW := Lib.hid (HB4.out.trans (HB.out.mono HB4.out.size))
      obtain ⟨b, off, r, rfl, _, hr, q⟩ := Ls.at (Ss.below HS.out HBW.out) j hlt
      obtain ⟨q0, q1, q2, q3⟩ := q
      have hwr := HW.out r (List.mem_of_getElem? hr)
      have hrok : r.ok = true := by
        have h1 := HOK.out
        unfold lkOk at h1
        exact List.all_eq_true.1 h1 r (List.mem_of_getElem? hr)
      have HNX := Lib.hid (next_at L j r hr hwr hrok)
      have HLT := Lib.hid (show (lkB (L.take (j + 1))).length = (lkB (L.take j)).length + r.bytes.length by rw [lkB_take L j r hr, List.length_append])
      have hpl : (placesL L).length = n + 1 := by rw [placesL_len, HLn.out]
      obtain ⟨pb, po, v0, rfl, hpb, hv0, c0p⟩ := (HSP4.out.below HB.out).getZ j (by omega)
      obtain ⟨pb', po', v1, he, hpb', hv1, c1p⟩ := (HSP4.out.below HB.out).getZ (j + 1) (by omega)
      cases he
      rw [List.getElem?_map, places_at L j (by rw [HLn.out]; omega)] at hv0
      rw [List.getElem?_map, places_at L (j + 1) (by rw [HLn.out]; omega)] at hv1
      simp only [Option.map_some, Option.some.injEq] at hv0 hv1
      subst hv0 hv1
      rw [HLT.out] at c1p
      have hl0 : (lkB (L.take j)).length + r.bytes.length ≤ m3 := by
        have h1 : lkB L = lkB (L.take (j + 1)) ++ lkB (L.drop (j + 1)) := by unfold lkB; rw [← List.flatMap_append, List.take_append_drop]
        have h2 := HLL.out
        rw [h1, List.length_append, HLT.out] at h2
        omega
      obtain ⟨k, x, y, z⟩ := r
      simp only at q0 q1 q2 q3 HNX
      generalize (lkB (L.take j)).length = p0 at *
      generalize (LK.bytes ⟨k, x, y, z⟩).length = sz at *
      have HSBr := Lib.hid (HSB4.out.below HB.out)
      clear hr hwr hrok hpl HLT
      go_upto_region 14 with fail
      have hal : Below wr.heap.size wr (wr.alloc (.cells #[.int .u8 (k : Nat), .int .i64 x, .int .i64 y, .int .i64 z] 54)) := (Below.refl _ _).alloc (Nat.le_refl _) _
      have HX := Lib.hid (show Blk4 (wr.alloc (.cells #[.int .u8 (k : Nat), .int .i64 x, .int .i64 y, .int .i64 z] 54)) wr.heap.size (.int .u8 (k : Nat)) (.int .i64 x) (.int .i64 y) (.int .i64 z) 54 from heap_alloc_last wr _)
      have HBA := Lib.hid (HB.out.trans (hal.mono HB.out.size))
      have d0 := cellS_below hal c0p
      have d1 := cellS_below hal c1p
      have HNA := Lib.hid (Next_any _ ab m3 cb (lkB L) (p0 : Nat) (HSBr.out.below hal) (by omega) hcb (by unfold IntR; omega))
      rw [HNX.out] at HNA
      unfold NextR.ret LinkV at HNA
      simp only at HNA
      clear hal q0 q1 q2 q3 c0p c1p HB HSBr HNX HBW
      generalize wr.alloc (.cells #[.int .u8 (k : Nat), .int .i64 x, .int .i64 y, .int .i64 z] 54) = WA at *
      generalize wr.heap.size = g1 at *
      go_wp2_with fail
      refine HNA.out.mono ?_
      rintro e W2 ⟨rfl, hb2⟩
      have HX2 := Lib.hid (HX.out.below hb2)
      have HB2 := Lib.hid (HBA.out.trans (hb2.mono HBA.out.size))
      have D0 := Lib.hid (cellS_below hb2 d0)
      have D1 := Lib.hid (cellS_below hb2 d1)
      clear hb2 HX HBA d0 d1 HNA
      go_upto_region 15 with fail
      have hal : Below W2.heap.size W2 (W2.alloc (.cells #[.int .u8 (k : Nat), .int .i64 x, .int .i64 y, .int .i64 z] 54)) := (Below.refl _ _).alloc (Nat.le_refl _) _
      have HY := Lib.hid (show Blk4 (W2.alloc (.cells #[.int .u8 (k : Nat), .int .i64 x, .int .i64 y, .int .i64 z] 54)) W2.heap.size (.int .u8 (k : Nat)) (.int .i64 x) (.int .i64 y) (.int .i64 z) 54 from heap_alloc_last W2 _)
      have HX3 := Lib.hid (HX2.out.below hal)
      have HB3 := Lib.hid (HB2.out.trans (hal.mono HB2.out.size))
      have E0 := Lib.hid (cellS_below hal D0.out)
      have E1 := Lib.hid (cellS_below hal D1.out)
      clear hal HX2 HB2 D0 D1
      generalize W2.alloc (.cells #[.int .u8 (k : Nat), .int .i64 x, .int .i64 y, .int .i64 z] 54) = W3 at *
      generalize W2.heap.size = g2 at *
      have hEQ : EqW W3.drew W3.drew := rfl
      have HXd := Lib.hid (HX3.out.below (Below.refl W3.heap.size W3).drew)
      have HYd := Lib.hid (HY.out.below (Below.refl W3.heap.size W3).drew)
      have l0 := fun u (h : EqW W3.drew u) => (show u.cell? ⟨g1, 0, none⟩ = some (.int .u8 (k : Nat)) by rw [show u = W3.drew from h]; exact HXd.out.box.c0)
      have l1 := fun u (h : EqW W3.drew u) => (show u.cell? ⟨g1, 1, none⟩ = some (.int .i64 x) by rw [show u = W3.drew from h]; exact HXd.out.box.c1)
      have l2 := fun u (h : EqW W3.drew u) => (show u.cell? ⟨g1, 2, none⟩ = some (.int .i64 y) by rw [show u = W3.drew from h]; exact HXd.out.box.c2)
      have l3 := fun u (h : EqW W3.drew u) => (show u.cell? ⟨g1, 3, none⟩ = some (.int .i64 z) by rw [show u = W3.drew from h]; exact HXd.out.box.c3)
      have k0 := fun u (h : EqW W3.drew u) => (show u.cell? ⟨g2, 0, none⟩ = some (.int .u8 (k : Nat)) by rw [show u = W3.drew from h]; exact HYd.out.box.c0)
      have k1 := fun u (h : EqW W3.drew u) => (show u.cell? ⟨g2, 1, none⟩ = some (.int .i64 x) by rw [show u = W3.drew from h]; exact HYd.out.box.c1)
      have k2 := fun u (h : EqW W3.drew u) => (show u.cell? ⟨g2, 2, none⟩ = some (.int .i64 y) by rw [show u = W3.drew from h]; exact HYd.out.box.c2)
      have k3 := fun u (h : EqW W3.drew u) => (show u.cell? ⟨g2, 3, none⟩ = some (.int .i64 z) by rw [show u = W3.drew from h]; exact HYd.out.box.c3)
      have m0 := fun u (h : EqW W3.drew u) => (show u.cell? ⟨pb, po + j, none⟩ = some (.int .i64 (p0 : Nat)) by rw [show u = W3.drew from h]; exact E0.out)
      have m1 := fun u (h : EqW W3.drew u) => (show u.cell? ⟨pb, po + (j + 1), none⟩ = some (.int .i64 ((p0 + sz : Nat) : Int)) by rw [show u = W3.drew from h]; exact E1.out)
      obtain ⟨p1, hp1⟩ : ∃ p1, p1 = p0 + sz := ⟨_, rfl⟩
      have ep : (p0 : Int) + (sz : Int) = (p1 : Int) := by omega
      rw [← hp1] at m1
      have HNE := Lib.hid (fun u o1 o2 => run_neqL u ⟨k, x, y, z⟩ ⟨k, x, y, z⟩ o1 o2)
      rw [sameL_self] at HNE
      have hp1b : p1 ≤ m3 := by omega
      clear hp1
      have j0 : (0 : Int) ≤ (j : Int) + 1 := by omega
      have j1 : j < n + 1 := by omega
      have j2 : j + 1 < n + 1 := by omega
      have j3 : (j : Int) < (n : Int) + 1 := by omega
      have j4 : (j : Int) + 1 < (n : Int) + 1 := by omega
      refine wp_region_lexS (EqW W3.drew) (.stir [(0, true), (1, true), (2, true), (3, true), (4, true), (5, true), (6, true), (7, true), (8, true), (9, true), (10, true), (11, true), (12, true), (13, true), (14, true), (15, true), (16, true), (17, true), (18, true), (19, true), (20, true)]) (by kernel_rfl) (by kernel_rfl) (fun c a d v w h => by cases d <;> exact h) ?_
      refine lexS_stir (EqW W3.drew) (fun y hy => hy) rfl ?_
      iterate 5
        refine stir_step (fun K hK => ?_)
        simp only [stirOp, List.getElem?_toArray, List.getElem?_cons_succ, List.getElem?_cons_zero]
        rw [if_pos (by rfl)]
        apply Exists.intro
        refine ⟨fun w' hS' => ?_, ?_⟩
        · first | (go_simp <;> with_reducible rfl) | (go_simp; go_bits; with_reducible rfl)
        go_simp
        try go_bits
        refine hK _ ?_
        clear hK K
      refine stir_step (fun K hK => ?_)
      simp only [stirOp, List.getElem?_toArray, List.getElem?_cons_succ, List.getElem?_cons_zero]
      rw [if_pos (by rfl)]
      refine ⟨Value.bool (!true), fun w' hS' => ?_, ?_⟩
      · exact run_exec_binL (by rfl) (HNE.out w' _ _)
      go_simp
      refine hK _ ?_
      clear hK K
      iterate 15
        refine stir_step (fun K hK => ?_)
        simp only [stirOp, List.getElem?_toArray, List.getElem?_cons_succ, List.getElem?_cons_zero]
        rw [if_pos (by rfl)]
        apply Exists.intro
        refine ⟨fun w' hS' => ?_, ?_⟩
        · first | (go_simp <;> with_reducible rfl) | (go_simp; go_bits; with_reducible rfl)
        go_simp
        try go_bits
        refine hK _ ?_
        clear hK K
      refine stir_nil (fun u hu => ?_)
      obtain rfl : u = W3.drew := hu
      clear l0 l1 l2 l3 k0 k1 k2 k3 m0 m1 HNE ep
      go_wp2_with fail
      go_roundg (n - (j + 1))
      case measure => omega
      case rel => exact ⟨j + 1, by omega, rfl, by go_num, Lib.hid HB3.out.drew⟩
    · obtain rfl : n = j := by omega
      go_wp2_with fail
      go_ret
      exact ⟨rfl, HB4.out.trans (HB.out.mono HB4.out.size)⟩
end Go.Proofs.Ytbcldlbmbdfejaa
