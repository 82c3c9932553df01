/- image: ImageLinks. No condition. -/
import Derived.Test.YtbcldlbmbdfejaaQ16ImageBytes
import Derived.Test.YtbcldlbmbdfejaaQ10ImageBytes
namespace Go.Proofs.Ytbcldlbmbdfejaa
open Go.ChangeShapes Go.WideShapes Go.ChangeAt Go.RowKit
theorem run_exec_binL {P : Program} {ρ : Operand → Value} {o : Oper} {op : BinOp} {t : TypeId} {x y : Operand} {ty : TypeId} (ho : o.op = .binOp op t x y ty) {v : Value} {w : World}
    (h : ((eqGuard op t x y (ρ x) (ρ y)).run P w).andThen (fun _ w' => (binOp op t (ρ x) (ρ y)).run P w') = .ok v w) : (execOp ρ o).run P w = .ok (.value v) w := by
  unfold execOp
  simp only [ho, Sem.run_bind, Sem.run_pure]
  rw [h]
  rfl
theorem run_neqL (w : World) (x y : LK) (o1 o2 : Operand) : ((eqGuard .neq 54 o1 o2 (.agg #[.int .u8 (x.op : Nat), .int .i64 x.a, .int .i64 x.b, .int .i64 x.n]) (.agg #[.int .u8 (y.op : Nat), .int .i64 y.a, .int .i64 y.b, .int .i64 y.n])).run Try.prog w).andThen (fun _ w' => (binOp .neq 54 (.agg #[.int .u8 (x.op : Nat), .int .i64 x.a, .int .i64 x.b, .int .i64 x.n]) (.agg #[.int .u8 (y.op : Nat), .int .i64 y.a, .int .i64 y.b, .int .i64 y.n])).run Try.prog w') = .ok (.bool (!sameL x y)) w := by
  have h := run_equalL w 9998 x y
  rw [run_eqGuard_agg w _ _ _ _ _ _ link_guard, Result.andThen_ok, run_neq_struct, h, Result.andThen_ok]
theorem places_Z (L : List LK) : (placesL L).map encP = ((placesL L).map (fun n : Nat => (n : Int))).map encZ := by rw [List.map_map]; rfl
/-- What the last region of the loop reads. -/
def LkS (g1 g2 pb po i : Nat) (x y z' : Int) (k : Nat) (p0 p1 : Nat) (w : World) : Prop :=
  Blk4 w g1 (.int .u8 (k : Nat)) (.int .i64 x) (.int .i64 y) (.int .i64 z') 54 ∧ Blk4 w g2 (.int .u8 (k : Nat)) (.int .i64 x) (.int .i64 y) (.int .i64 z') 54 ∧ w.cell? ⟨pb, po + i, none⟩ = some (.int .i64 (p0 : Nat)) ∧ w.cell? ⟨pb, po + (i + 1), none⟩ = some (.int .i64 (p1 : Nat))
set_option maxRecDepth 100000 in
set_option maxHeartbeats 16000000 in
theorem walk_ImageLinks (a : Option Addr) (n cap : Nat) (w : World) (h : IsLs w a n cap) :
    Calls Try.prog 5 #[.slice a n cap] w fun e w' => e = .returned (.bool true) ∧ Below w.heap.size w w' := by
  obtain ⟨hcap, hmx, L, hs, hw⟩ := h
  have HS := Lib.hid hs
  have HW := Lib.hid hw
  have HLn := Lib.hid hs.1
  clear hs hw
  have HF := Lib.hid (fixed25 w)
  unfold QuietRet at HF
  go_enter Try.func5, Try.ntmps5
  go_wp2_with fail
  refine HF.out.mono ?_
  rintro e w1 ⟨rfl, hb1⟩
  have HB1 := Lib.hid hb1
  clear hb1 HF
  by_cases h2 : 200 < n
  · have ed : decide ((200 : Int) < n) = true := by simp; omega
    clear h2
    go_wp2_with fail
    go_ret
    exact ⟨rfl, HB1.out⟩
  have ed : decide ((200 : Int) < n) = false := by simp; omega
  have hn : n ≤ 200 := by omega
  have HL1 := Lib.hid (fun w' (h : Below w.heap.size w w') => Link_any w' a n cap L (Ss.below HS.out h) hn HW.out)
  have HL2 := Lib.hid (fun w' (h : Below w.heap.size w w') => refLink_any w' a n cap L (Ss.below HS.out h) hn HW.out)
  clear h2
  go_wp2_with fail
  refine (HL1.out w1 HB1.out).mono ?_
  rintro e w2 (⟨hok, va, m, vp, rfl, ho2, hp2, hb2⟩ | ⟨hbad, rfl, hb2⟩)
  case inr =>
    have HB2 := Lib.hid (HB1.out.trans (hb2.mono HB1.out.size))
    have HBD := Lib.hid hbad
    clear hb2 hbad
    go_wp2_with fail
    refine (HL2.out w2 HB2.out).mono ?_
    rintro e w3 (⟨hok, _⟩ | ⟨_, rfl, hb3⟩)
    · rw [HBD.out] at hok; cases hok
    have HB3 := Lib.hid (HB2.out.trans (hb3.mono HB2.out.size))
    clear hb3
    go_wp2_with fail
    go_ret
    exact ⟨rfl, HB3.out⟩
  have HB2 := Lib.hid (HB1.out.trans (hb2.mono HB1.out.size))
  have HOK := Lib.hid hok
  have HO2 := Lib.hid ho2
  rw [places_Z] at hp2
  have HP2 := Lib.hid hp2
  obtain ⟨ab, cb, rfl, _, _⟩ := HO2.out.sl
  obtain ⟨ap, cp, rfl, _, _⟩ := Sl.ofOwn HP2.out
  clear hb2 hok ho2 hp2
  go_wp2_with fail
  refine (HL2.out w2 HB2.out).mono ?_
  rintro e w3 (⟨_, va3, m3, vp3, rfl, ho3, hp3, hb3⟩ | ⟨hbad, _⟩)
  case inr => rw [HOK.out] at hbad; cases hbad
  have HB3 := Lib.hid (HB2.out.trans (hb3.mono HB2.out.size))
  obtain ⟨ab3, cb3, rfl, hsb3, hcb3⟩ := ho3.sl
  rw [places_Z] at hp3
  obtain ⟨ap3, cp3, rfl, hsp3, hcp3⟩ := Sl.ofOwn hp3
  have hmm : m3 = m := by have h1 := ho3.len; have h2 := HO2.out.len; omega
  subst hmm
  have HSB := Lib.hid (show Sl encB w3 ab m3 (lkB L) by obtain ⟨_, _, e', h', _⟩ := (HO2.out.below hb3).sl; simp only [Value.slice.injEq] at e'; obtain ⟨rfl, _, rfl⟩ := e'; exact h')
  have HSP := Lib.hid (show Sl encZ w3 ap (L.length + 1) ((placesL L).map (fun n : Nat => (n : Int))) by obtain ⟨_, _, e', h', _⟩ := Sl.ofOwn (own_below HP2.out hb3); simp only [Value.slice.injEq] at e'; obtain ⟨rfl, _, rfl⟩ := e'; exact h')
  have hcb : m3 ≤ cb := by obtain ⟨_, _, e', _, h'⟩ := HO2.out.sl; simp only [Value.slice.injEq] at e'; obtain ⟨_, _, rfl⟩ := e'; exact h'
  have HSB3 := Lib.hid hsb3
  have HSP3 := Lib.hid hsp3
  clear hb3 ho3 hp3 hsb3 hsp3 HO2 HP2
  rw [HLn.out] at HSP HSP3
  have HLL := Lib.hid HSB.out.1
  have hmlen : m3 ≤ 2400 := by
    have : ∀ l : List LK, (∀ r ∈ l, r.right) → (lkB l).length ≤ 12 * l.length := by
      intro l
      induction l with
      | nil => intro _; simp [lkB]
      | cons r l ih =>
        intro h
        have h1 := LK.bytes_len (h r List.mem_cons_self).1
        have h2 := ih (fun x hx => h x (List.mem_cons_of_mem _ hx))
        unfold lkB at h2 ⊢
        rw [List.flatMap_cons, List.length_append, List.length_cons]
        omega
    have h1 := this L HW.out
    rw [HLL.out, HLn.out] at h1
    omega
  have HSI := Lib.hid (sameInts_any w3 ap (n + 1) cp _ HSP.out ap3 (n + 1) cp3 _ HSP3.out (by omega) (by omega))
  rw [decide_eq_true rfl] at HSI
  have cv1 := run_conv HSB.out cb
  have cv2 := run_conv HSB3.out cb3
  rw [HLn.out]
  go_wp2_with fail
  refine HSI.out.mono ?_
  rintro e w4 ⟨rfl, hb4⟩
  have HB4 := Lib.hid (HB3.out.trans (hb4.mono HB3.out.size))
  have HSB4 := Lib.hid (HSB.out.below hb4)
  have HSP4 := Lib.hid (HSP3.out.below hb4)
  clear hb4 cv1 cv2 HSI HSB HSP HSB3 HSP3 HB3
  go_wp2_with fail
  go_loopg [60] n (fun gn i wr => ∃ j : Nat, j ≤ n ∧ gn = n - j ∧ i = .int .i64 j ∧ Hid (Below w4.heap.size w4 wr))
  case atStart => exact ⟨0, by omega, by omega, by go_num, Lib.hid (Below.refl _ _)⟩
  case round =>
    obtain ⟨j, hj, rfl, rfl, HB⟩ := hrel
    by_cases hlt : j < n
    · have HBW := Lib.hid (HB4.out.trans (HB.out.mono HB4.out.size))
      obtain ⟨b, off, r, rfl, _, hr, q⟩ := Ls.at (Ss.below HS.out HBW.out) j hlt
      obtain ⟨q0, q1, q2, q3⟩ := q
      have hwr := HW.out r (List.mem_of_getElem? hr)
      have hrok : r.ok = true := by
        have h1 := HOK.out
        unfold lkOk at h1
        exact List.all_eq_true.1 h1 r (List.mem_of_getElem? hr)
      have HNX := Lib.hid (next_at L j r hr hwr hrok)
      have HLT := Lib.hid (show (lkB (L.take (j + 1))).length = (lkB (L.take j)).length + r.bytes.length by rw [lkB_take L j r hr, List.length_append])
      have hpl : (placesL L).length = n + 1 := by rw [placesL_len, HLn.out]
      obtain ⟨pb, po, v0, rfl, hpb, hv0, c0p⟩ := (HSP4.out.below HB.out).getZ j (by omega)
      obtain ⟨pb', po', v1, he, hpb', hv1, c1p⟩ := (HSP4.out.below HB.out).getZ (j + 1) (by omega)
      cases he
      rw [List.getElem?_map, places_at L j (by rw [HLn.out]; omega)] at hv0
      rw [List.getElem?_map, places_at L (j + 1) (by rw [HLn.out]; omega)] at hv1
      simp only [Option.map_some, Option.some.injEq] at hv0 hv1
      subst hv0 hv1
      rw [HLT.out] at c1p
      have hl0 : (lkB (L.take j)).length + r.bytes.length ≤ m3 := by
        have h1 : lkB L = lkB (L.take (j + 1)) ++ lkB (L.drop (j + 1)) := by unfold lkB; rw [← List.flatMap_append, List.take_append_drop]
        have h2 := HLL.out
        rw [h1, List.length_append, HLT.out] at h2
        omega
      obtain ⟨k, x, y, z⟩ := r
      simp only at q0 q1 q2 q3 HNX
      generalize (lkB (L.take j)).length = p0 at *
      generalize (LK.bytes ⟨k, x, y, z⟩).length = sz at *
      have HSBr := Lib.hid (HSB4.out.below HB.out)
      clear hr hwr hrok hpl HLT
      go_upto_region 14 with fail
      have hal : Below wr.heap.size wr (wr.alloc (.cells #[.int .u8 (k : Nat), .int .i64 x, .int .i64 y, .int .i64 z] 54)) := (Below.refl _ _).alloc (Nat.le_refl _) _
      have HX := Lib.hid (show Blk4 (wr.alloc (.cells #[.int .u8 (k : Nat), .int .i64 x, .int .i64 y, .int .i64 z] 54)) wr.heap.size (.int .u8 (k : Nat)) (.int .i64 x) (.int .i64 y) (.int .i64 z) 54 from heap_alloc_last wr _)
      have HBA := Lib.hid (HB.out.trans (hal.mono HB.out.size))
      have d0 := cellS_below hal c0p
      have d1 := cellS_below hal c1p
      have HNA := Lib.hid (Next_any _ ab m3 cb (lkB L) (p0 : Nat) (HSBr.out.below hal) (by omega) hcb (by unfold IntR; omega))
      rw [HNX.out] at HNA
      unfold NextR.ret LinkV at HNA
      simp only at HNA
      clear hal q0 q1 q2 q3 c0p c1p HB HSBr HNX HBW
      generalize wr.alloc (.cells #[.int .u8 (k : Nat), .int .i64 x, .int .i64 y, .int .i64 z] 54) = WA at *
      generalize wr.heap.size = g1 at *
      go_wp2_with fail
      refine HNA.out.mono ?_
      rintro e W2 ⟨rfl, hb2⟩
      have HX2 := Lib.hid (HX.out.below hb2)
      have HB2 := Lib.hid (HBA.out.trans (hb2.mono HBA.out.size))
      have D0 := Lib.hid (cellS_below hb2 d0)
      have D1 := Lib.hid (cellS_below hb2 d1)
      clear hb2 HX HBA d0 d1 HNA
      go_upto_region 15 with fail
      have hal : Below W2.heap.size W2 (W2.alloc (.cells #[.int .u8 (k : Nat), .int .i64 x, .int .i64 y, .int .i64 z] 54)) := (Below.refl _ _).alloc (Nat.le_refl _) _
      have HY := Lib.hid (show Blk4 (W2.alloc (.cells #[.int .u8 (k : Nat), .int .i64 x, .int .i64 y, .int .i64 z] 54)) W2.heap.size (.int .u8 (k : Nat)) (.int .i64 x) (.int .i64 y) (.int .i64 z) 54 from heap_alloc_last W2 _)
      have HX3 := Lib.hid (HX2.out.below hal)
      have HB3 := Lib.hid (HB2.out.trans (hal.mono HB2.out.size))
      have E0 := Lib.hid (cellS_below hal D0.out)
      have E1 := Lib.hid (cellS_below hal D1.out)
      clear hal HX2 HB2 D0 D1
      generalize W2.alloc (.cells #[.int .u8 (k : Nat), .int .i64 x, .int .i64 y, .int .i64 z] 54) = W3 at *
      generalize W2.heap.size = g2 at *
      have hEQ : EqW W3.drew W3.drew := rfl
      have HXd := Lib.hid (HX3.out.below (Below.refl W3.heap.size W3).drew)
      have HYd := Lib.hid (HY.out.below (Below.refl W3.heap.size W3).drew)
      have l0 := fun u (h : EqW W3.drew u) => (show u.cell? ⟨g1, 0, none⟩ = some (.int .u8 (k : Nat)) by rw [show u = W3.drew from h]; exact HXd.out.box.c0)
      have l1 := fun u (h : EqW W3.drew u) => (show u.cell? ⟨g1, 1, none⟩ = some (.int .i64 x) by rw [show u = W3.drew from h]; exact HXd.out.box.c1)
      have l2 := fun u (h : EqW W3.drew u) => (show u.cell? ⟨g1, 2, none⟩ = some (.int .i64 y) by rw [show u = W3.drew from h]; exact HXd.out.box.c2)
      have l3 := fun u (h : EqW W3.drew u) => (show u.cell? ⟨g1, 3, none⟩ = some (.int .i64 z) by rw [show u = W3.drew from h]; exact HXd.out.box.c3)
      have k0 := fun u (h : EqW W3.drew u) => (show u.cell? ⟨g2, 0, none⟩ = some (.int .u8 (k : Nat)) by rw [show u = W3.drew from h]; exact HYd.out.box.c0)
      have k1 := fun u (h : EqW W3.drew u) => (show u.cell? ⟨g2, 1, none⟩ = some (.int .i64 x) by rw [show u = W3.drew from h]; exact HYd.out.box.c1)
      have k2 := fun u (h : EqW W3.drew u) => (show u.cell? ⟨g2, 2, none⟩ = some (.int .i64 y) by rw [show u = W3.drew from h]; exact HYd.out.box.c2)
      have k3 := fun u (h : EqW W3.drew u) => (show u.cell? ⟨g2, 3, none⟩ = some (.int .i64 z) by rw [show u = W3.drew from h]; exact HYd.out.box.c3)
      have m0 := fun u (h : EqW W3.drew u) => (show u.cell? ⟨pb, po + j, none⟩ = some (.int .i64 (p0 : Nat)) by rw [show u = W3.drew from h]; exact E0.out)
      have m1 := fun u (h : EqW W3.drew u) => (show u.cell? ⟨pb, po + (j + 1), none⟩ = some (.int .i64 ((p0 + sz : Nat) : Int)) by rw [show u = W3.drew from h]; exact E1.out)
      obtain ⟨p1, hp1⟩ : ∃ p1, p1 = p0 + sz := ⟨_, rfl⟩
      have ep : (p0 : Int) + (sz : Int) = (p1 : Int) := by omega
      rw [← hp1] at m1
      have HNE := Lib.hid (fun u o1 o2 => run_neqL u ⟨k, x, y, z⟩ ⟨k, x, y, z⟩ o1 o2)
      rw [sameL_self] at HNE
      have hp1b : p1 ≤ m3 := by omega
      clear hp1
      have j0 : (0 : Int) ≤ (j : Int) + 1 := by omega
      have j1 : j < n + 1 := by omega
      have j2 : j + 1 < n + 1 := by omega
      have j3 : (j : Int) < (n : Int) + 1 := by omega
      have j4 : (j : Int) + 1 < (n : Int) + 1 := by omega
      refine wp_region_lexS (EqW W3.drew) (.stir [(0, true), (1, true), (2, true), (3, true), (4, true), (5, true), (6, true), (7, true), (8, true), (9, true), (10, true), (11, true), (12, true), (13, true), (14, true), (15, true), (16, true), (17, true), (18, true), (19, true), (20, true)]) (by kernel_rfl) (by kernel_rfl) (fun c a d v w h => by cases d <;> exact h) ?_
      refine lexS_stir (EqW W3.drew) (fun y hy => hy) rfl ?_
      iterate 5
        refine stir_step (fun K hK => ?_)
        simp only [stirOp, List.getElem?_toArray, List.getElem?_cons_succ, List.getElem?_cons_zero]
        rw [if_pos (by rfl)]
        apply Exists.intro
        refine ⟨fun w' hS' => ?_, ?_⟩
        · first | (go_simp <;> with_reducible rfl) | (go_simp; go_bits; with_reducible rfl)
        go_simp
        try go_bits
        refine hK _ ?_
        clear hK K
      refine stir_step (fun K hK => ?_)
      simp only [stirOp, List.getElem?_toArray, List.getElem?_cons_succ, List.getElem?_cons_zero]
      rw [if_pos (by rfl)]
      refine ⟨Value.bool (!true), fun w' hS' => ?_, ?_⟩
      · exact run_exec_binL (by rfl) (HNE.out w' _ _)
      go_simp
      refine hK _ ?_
      clear hK K
      iterate 15
        refine stir_step (fun K hK => ?_)
        simp only [stirOp, List.getElem?_toArray, List.getElem?_cons_succ, List.getElem?_cons_zero]
        rw [if_pos (by rfl)]
        apply Exists.intro
        refine ⟨fun w' hS' => ?_, ?_⟩
        · first | (go_simp <;> with_reducible rfl) | (go_simp; go_bits; with_reducible rfl)
        go_simp
        try go_bits
        refine hK _ ?_
        clear hK K
      refine stir_nil (fun u hu => ?_)
      obtain rfl : u = W3.drew := hu
      clear l0 l1 l2 l3 k0 k1 k2 k3 m0 m1 HNE ep
      go_wp2_with fail
      go_roundg (n - (j + 1))
      case measure => omega
      case rel => exact ⟨j + 1, by omega, rfl, by go_num, Lib.hid HB3.out.drew⟩
    · obtain rfl : n = j := by omega
      go_wp2_with fail
      go_ret
      exact ⟨rfl, HB4.out.trans (HB.out.mono HB4.out.size)⟩
end Go.Proofs.Ytbcldlbmbdfejaa
/- image: the reference's writer. No condition. -/
namespace Go.Proofs.Ytbcldlbmbdfejaa
open Go.ChangeShapes Go.WideShapes Go.ChangeAt Go.RowKit
/-- The reference's writer in block g; its row its call's own from block B on. -/
def RWr (B : Nat) (w : World) (g : Nat) (bs : List UInt8) (odd : Bool) : Prop :=
  ∃ a n cap, Blk2 w g (.slice a n cap) (.bool odd) 75 ∧ Sl encB w a n bs ∧ n ≤ cap ∧ Off1 a n g ∧ w.ownsRow B 5 1 (.slice a n cap) n (bs.map encB)
theorem RWr.below {B : Nat} {w w' : World} {g : Nat} {bs : List UInt8} {odd : Bool} (h : RWr B w g bs odd) (hb : Below w.heap.size w w') : RWr B w' g bs odd := by
  obtain ⟨a, n, cap, h1, h2, h3, h4, h5⟩ := h
  exact ⟨a, n, cap, h1.below hb, h2.below hb, h3, h4, own_below h5 hb⟩
theorem RWr.mono {B B' : Nat} {w : World} {g : Nat} {bs : List UInt8} {odd : Bool} (h : RWr B w g bs odd) (hB : B' ≤ B) : RWr B' w g bs odd := by
  obtain ⟨a, n, cap, h1, h2, h3, h4, h5⟩ := h
  exact ⟨a, n, cap, h1, h2, h3, h4, own_mono h5 hB⟩
theorem RWr.lt {B : Nat} {w : World} {g : Nat} {bs : List UInt8} {odd : Bool} (h : RWr B w g bs odd) : g < w.heap.size := by
  obtain ⟨a, n, cap, h1, _⟩ := h
  exact h1.box.lt
def RPut (B g : Nat) (bs : List UInt8) (odd : Bool) (w : World) (e : Ending) (w' : World) : Prop := e = .returned (.tuple #[]) ∧ RWr B w' g bs odd ∧ Keep1 g w w'
set_option maxRecDepth 100000 in
set_option maxHeartbeats 8000000 in
theorem rputO (B : Nat) (w : World) (g : Nat) (bs : List UInt8) (odd : Bool) (h : RWr B w g bs odd) (nb : Nat) (hnb : nb = 1 ∨ nb = 2 ∨ nb = 4) (v : Int) (hv : IntR v) (hlen : bs.length ≤ 1048576) :
    Calls Try.prog 64 #[.pointer (some ⟨g, 0, none⟩), .int .i64 v, .int .i64 nb] w (RPut w.heap.size g (bs ++ putB (u64V v) nb) (odd || !roomB v nb) w) := by
  have HGL := Lib.hid h.lt
  obtain ⟨a2, n2, c2, hk2, hs2, hc2, ho2, -⟩ := h
  have HK2 := Lib.hid hk2
  have HS2 := Lib.hid hs2
  have HO2 := Lib.hid ho2
  have hlen2 : n2 ≤ 1048576 := by rw [← hs2.1]; exact hlen
  have HFI := Lib.hid (fun w' => refFits_any w' v nb hv (by omega))
  have hnb4 : 1 ≤ nb ∧ nb ≤ 4 := by omega
  have hux := u64V_wrap v
  have HLX := Lib.hid (u64V_lt v)
  obtain ⟨fv, hfv⟩ : ∃ f, f = roomB v nb := ⟨_, rfl⟩
  rw [← hfv] at HFI ⊢
  generalize u64V v = uv at *
  clear hk2 hs2 ho2 hfv hnb
  obtain ⟨c0, c1, f0, f1, lt2⟩ := HK2.out.box
  go_enter Try.func64, Try.ntmps64
  cases odd with
  | true =>
    go_upto_region 1 with fail
    have HK3 := Lib.hid (HK2.out.set1 (v := .bool true))
    have HKK := Lib.hid ((Keep1.refl g w).set 1 (.bool true))
    have HS3 := Lib.hid (HS2.out.keep1 ((Keep1.refl g w).set 1 (.bool true)) HO2.out)
    clear HK2 HS2 c0 c1 f0 f1 lt2
    generalize w.setCell ⟨g, 1, none⟩ (.bool true) = W3 at *
    obtain ⟨c0, c1, f0, f1, lt3⟩ := HK3.out.box
    go_wp2_with fail
    refine (refPut_any W3 a2 n2 c2 bs uv nb HS3.out (by omega) HLX.out hnb4.1 (by omega)).mono ?_
    rintro e' W4 ⟨v4, m4, rfl, ho4, hb4⟩
    obtain ⟨a4, c4, rfl, hs4, hc4⟩ := Sl.ofOwn ho4
    have HS4 := Lib.hid hs4
    have HN4 := Lib.hid (own_mono ho4 HKK.out.size)
    have HO4 := Lib.hid (Off1.own ho4 lt3)
    have HK4 := Lib.hid (HK3.out.below hb4)
    have HKK4 := Lib.hid (HKK.out.trans (Keep1.of hb4))
    clear HK3 HKK HS3 ho4 hb4 hs4 c0 c1 f0 f1 lt3
    obtain ⟨c0, c1, f0, f1, lt3⟩ := HK4.out.box
    go_wp2_with fail
    go_end0
    exact ⟨rfl, ⟨a4, m4, c4, by simpa using HK4.out.set0, HS4.out.keep1 ((Keep1.refl g W4).set 0 _) HO4.out, hc4, HO4.out, own_keep1 HN4.out ((Keep1.refl g W4).set 0 _) HGL.out⟩, HKK4.out.set 0 _⟩
  | false =>
    go_wp2_with fail
    refine (HFI.out w).mono ?_
    rintro e' w' ⟨rfl, rfl⟩
    cases fv with
    | true =>
      go_upto_region 1 with fail
      have HK3 := Lib.hid (HK2.out.set1 (v := .bool false))
      have HKK := Lib.hid ((Keep1.refl g w).set 1 (.bool false))
      have HS3 := Lib.hid (HS2.out.keep1 ((Keep1.refl g w).set 1 (.bool false)) HO2.out)
      clear HK2 HS2 c0 c1 f0 f1 lt2
      generalize w.setCell ⟨g, 1, none⟩ (.bool false) = W3 at *
      obtain ⟨c0, c1, f0, f1, lt3⟩ := HK3.out.box
      go_wp2_with fail
      refine (refPut_any W3 a2 n2 c2 bs uv nb HS3.out (by omega) HLX.out hnb4.1 (by omega)).mono ?_
      rintro e' W4 ⟨v4, m4, rfl, ho4, hb4⟩
      obtain ⟨a4, c4, rfl, hs4, hc4⟩ := Sl.ofOwn ho4
      have HS4 := Lib.hid hs4
      have HN4 := Lib.hid (own_mono ho4 HKK.out.size)
      have HO4 := Lib.hid (Off1.own ho4 lt3)
      have HK4 := Lib.hid (HK3.out.below hb4)
      have HKK4 := Lib.hid (HKK.out.trans (Keep1.of hb4))
      clear HK3 HKK HS3 ho4 hb4 hs4 c0 c1 f0 f1 lt3
      obtain ⟨c0, c1, f0, f1, lt3⟩ := HK4.out.box
      go_wp2_with fail
      go_end0
      exact ⟨rfl, ⟨a4, m4, c4, by simpa using HK4.out.set0, HS4.out.keep1 ((Keep1.refl g W4).set 0 _) HO4.out, hc4, HO4.out, own_keep1 HN4.out ((Keep1.refl g W4).set 0 _) HGL.out⟩, HKK4.out.set 0 _⟩
    | false =>
      go_upto_region 1 with fail
      have HK3 := Lib.hid (HK2.out.set1 (v := .bool true))
      have HKK := Lib.hid ((Keep1.refl g w).set 1 (.bool true))
      have HS3 := Lib.hid (HS2.out.keep1 ((Keep1.refl g w).set 1 (.bool true)) HO2.out)
      clear HK2 HS2 c0 c1 f0 f1 lt2
      generalize w.setCell ⟨g, 1, none⟩ (.bool true) = W3 at *
      obtain ⟨c0, c1, f0, f1, lt3⟩ := HK3.out.box
      go_wp2_with fail
      refine (refPut_any W3 a2 n2 c2 bs uv nb HS3.out (by omega) HLX.out hnb4.1 (by omega)).mono ?_
      rintro e' W4 ⟨v4, m4, rfl, ho4, hb4⟩
      obtain ⟨a4, c4, rfl, hs4, hc4⟩ := Sl.ofOwn ho4
      have HS4 := Lib.hid hs4
      have HN4 := Lib.hid (own_mono ho4 HKK.out.size)
      have HO4 := Lib.hid (Off1.own ho4 lt3)
      have HK4 := Lib.hid (HK3.out.below hb4)
      have HKK4 := Lib.hid (HKK.out.trans (Keep1.of hb4))
      clear HK3 HKK HS3 ho4 hb4 hs4 c0 c1 f0 f1 lt3
      obtain ⟨c0, c1, f0, f1, lt3⟩ := HK4.out.box
      go_wp2_with fail
      go_end0
      exact ⟨rfl, ⟨a4, m4, c4, by simpa using HK4.out.set0, HS4.out.keep1 ((Keep1.refl g W4).set 0 _) HO4.out, hc4, HO4.out, own_keep1 HN4.out ((Keep1.refl g W4).set 0 _) HGL.out⟩, HKK4.out.set 0 _⟩
theorem rput1 (w : World) (g : Nat) (bs : List UInt8) (odd : Bool) (h : RWr (g + 1) w g bs odd) (nb : Nat) (hnb : nb = 1 ∨ nb = 2 ∨ nb = 4) (v : Int) (hv : IntR v) (hlen : bs.length ≤ 1048576) :
    Calls Try.prog 64 #[.pointer (some ⟨g, 0, none⟩), .int .i64 v, .int .i64 nb] w (RPut (g + 1) g (bs ++ putB (u64V v) nb) (odd || !roomB v nb) w) :=
  (rputO _ w g bs odd h nb hnb v hv hlen).mono fun _ _ h' => ⟨h'.1, h'.2.1.mono h.lt, h'.2.2⟩
set_option maxRecDepth 100000 in
set_option maxHeartbeats 8000000 in
theorem rtext1 (w : World) (g : Nat) (bs : List UInt8) (odd : Bool) (h : RWr (g + 1) w g bs odd) (nb : Nat) (hnb : nb = 1 ∨ nb = 2 ∨ nb = 4) (s : List UInt8) (hlen : bs.length + s.length + 4 ≤ 1048576) :
    Calls Try.prog 65 #[.pointer (some ⟨g, 0, none⟩), .string ⟨s.toArray⟩, .int .i64 nb] w (RPut (g + 1) g (bs ++ textB s nb) (odd || !roomB s.length nb) w) := by
  have HGL := Lib.hid h.lt
  have HP := Lib.hid (rputO _ w g bs odd h nb hnb s.length (by unfold IntR; omega) (by omega))
  have HLb := Lib.hid (show (bs ++ putB (u64V s.length) nb).length = bs.length + nb by rw [List.length_append, putB_length])
  have hnb4 : nb ≤ 4 := by omega
  have HTX := Lib.hid (show bs ++ textB s nb = bs ++ putB (u64V s.length) nb ++ s by unfold textB; rw [List.append_assoc])
  go_enter Try.func65, Try.ntmps65
  go_wp2_with fail
  refine HP.out.mono ?_
  rintro e' W1 ⟨rfl, ⟨a1, n1, c1, hk1, hs1, hc1, ho1, hn1⟩, hkk1⟩
  have hnn : n1 ≤ bs.length + 4 := by rw [← hs1.1, HLb.out]; omega
  have HK1 := Lib.hid hk1
  have HKK1 := Lib.hid hkk1
  have HO1 := Lib.hid hn1
  clear hk1 hs1 ho1 hn1 hkk1 HP
  obtain ⟨c0, c1', f0, f1, lt2⟩ := HK1.out.box
  go_wp2_with (at_builtin; refine wpList_app1 oneN rfl _ _ _ rfl w.heap.size _ n1 _ rfl HO1.out _ s.length (s.map encB) rfl (strSrcK _ s) (by omega) (by unfold maxLen; omega) HKK1.out.size ?_; intro v2 W2 hown2 hg2 hb2; rw [← List.map_append] at hown2; have hq2 := KeptT.app0 HO1.out hg2; have HK2 := Lib.hid (show Blk2 W2 g (.slice a1 n1 c1) (.bool (odd || !roomB s.length nb)) 75 from hq2.2 _ _ _ _ HK1.out (by decide)); obtain ⟨a2, k2, rfl, hs2, hc2⟩ := Sl.ofOwn hown2; have HS2 := Lib.hid hs2; have HKK2 := Lib.hid (keep1_app HKK1.out HO1.out hg2); have HO2 := Lib.hid hown2; clear c0 c1' f0 f1 lt2 hown2 hg2 hq2 hb2 hs2; obtain ⟨c0, c1', f0, f1, lt2⟩ := HK2.out.box)
  go_end0
  refine ⟨rfl, ?_, HKK2.out.set 0 _⟩
  rw [HTX.out]
  exact ⟨a2, _, k2, HK2.out.set0, HS2.out.keep1 ((Keep1.refl g W2).set 0 _) (Off1.own HO2.out HGL.out), hc2, Off1.own HO2.out HGL.out, own_mono (own_keep1 HO2.out ((Keep1.refl g W2).set 0 _) HGL.out) HGL.out⟩
set_option maxRecDepth 100000 in
set_option maxHeartbeats 8000000 in
theorem rints1 (w : World) (g : Nat) (bs : List UInt8) (odd : Bool) (h : RWr (g + 1) w g bs odd) (a : Option Addr) (n cap : Nat) (l : List Int) (hs : Sl encZ w a n l) (ho : Off1 a n g) (hz : ∀ v ∈ l, IntR v) (hlen : bs.length + (intsB l).length + 8 ≤ 1048576) :
    Calls Try.prog 66 #[.pointer (some ⟨g, 0, none⟩), .slice a n cap] w (RPut (g + 1) g (bs ++ intsB l) (odd || intsO l) w) := by
  rw [intsB_len] at hlen
  have HS := Lib.hid hs
  have HLn := Lib.hid hs.1
  have HO := Lib.hid ho
  have HZ := Lib.hid hz
  have hnl : n ≤ 1048576 := by rw [← hs.1]; omega
  have HP := Lib.hid (rput1 w g bs odd h 2 (by omega) n (by unfold IntR; omega) (by omega))
  have HRB := Lib.hid (show bs ++ intsB l = bs ++ putB (u64V n) 2 ++ l.flatMap (fun v => putB (u64V v) 2) by unfold intsB rowB; rw [List.append_assoc, hs.1])
  have HRO := Lib.hid (show (odd || intsO l) = (odd || !roomB n 2 || l.any (fun v => !roomB v 2)) by unfold intsO rowO; rw [Bool.or_assoc, hs.1])
  have HPL := Lib.hid (show (bs ++ putB (u64V n) 2).length = bs.length + 2 by rw [List.length_append, putB_length])
  rw [hs.1] at hlen
  clear hs ho hz h
  go_enter Try.func66, Try.ntmps66
  go_wp2_with fail
  refine HP.out.mono ?_
  rintro e' W1 ⟨rfl, hw1, hk1⟩
  have HW1 := Lib.hid hw1
  have HK1 := Lib.hid hk1
  clear hw1 hk1 HP
  generalize bs ++ putB (u64V n) 2 = e at *
  generalize (odd || !roomB n 2) = od at *
  go_wp2_with fail
  go_loopg [12] n (fun gn i wr => ∃ j : Nat, j ≤ n ∧ gn = n - j ∧ i = .int .i64 j ∧ Hid (RWr (g + 1) wr g (e ++ (l.take j).flatMap (fun v => putB (u64V v) 2)) (od || (l.take j).any (fun v => !roomB v 2))) ∧ Hid (Keep1 g w wr))
  case atStart => exact ⟨0, by omega, by omega, by go_num, Lib.hid (by simpa using HW1.out), HK1⟩
  case round =>
    obtain ⟨j, hj, rfl, rfl, HW, HK⟩ := hrel
    by_cases hlt : j < n
    · obtain ⟨b, off, v, rfl, hbl, hv, q⟩ := (HS.out.keep1 HK.out HO.out).getZ j hlt
      have hvr := HZ.out v (List.mem_of_getElem? hv)
      have HFT := Lib.hid (show e ++ (l.take (j + 1)).flatMap (fun v => putB (u64V v) 2) = e ++ (l.take j).flatMap (fun v => putB (u64V v) 2) ++ putB (u64V v) 2 by rw [flat_take _ l j v hv, List.append_assoc])
      have HAT := Lib.hid (show (od || (l.take (j + 1)).any (fun v => !roomB v 2)) = (od || (l.take j).any (fun v => !roomB v 2) || !roomB v 2) by rw [any_take _ l j v hv, Bool.or_assoc])
      have hll : (e ++ (l.take j).flatMap (fun v => putB (u64V v) 2)).length ≤ 1048576 := by
        have h1 := putsB_len (l.take j) 2
        unfold putsB at h1
        rw [List.length_append, h1, List.length_take, HPL.out]
        omega
      have HV := Lib.hid (rput1 wr g _ _ HW.out 2 (by omega) v hvr hll)
      clear hv hll hvr
      generalize e ++ (l.take j).flatMap (fun v => putB (u64V v) 2) = ej at *
      generalize (od || (l.take j).any (fun v => !roomB v 2)) = oj at *
      go_wp2_with fail
      refine HV.out.mono ?_
      rintro e' W2 ⟨rfl, hw2, hk2⟩
      have HW2 := Lib.hid hw2
      have HK2 := Lib.hid (HK.out.trans hk2)
      clear hw2 hk2
      go_wp2_with fail
      go_roundg (n - (j + 1))
      case measure => omega
      case rel => exact ⟨j + 1, by omega, rfl, by go_num, Lib.hid (by rw [HFT.out, HAT.out]; exact HW2.out), HK2⟩
    · obtain rfl : n = j := by omega
      have HLE := Lib.hid (show l.take n = l by rw [List.take_of_length_le (by rw [HLn.out]; exact Nat.le_refl _)])
      rw [HLE.out] at HW
      go_wp2_with fail
      go_end0
      exact ⟨rfl, by rw [HRB.out, HRO.out]; exact HW.out, HK.out⟩
end Go.Proofs.Ytbcldlbmbdfejaa
/- image: the reference's least. No condition. -/
namespace Go.Proofs.Ytbcldlbmbdfejaa
open Go.ChangeShapes Go.WideShapes Go.ChangeAt Go.RowKit
def leastC (c : CW) : Bool := !decide (65534 < c.sup)
def leastM (m : MW) : Bool := !(decide (65534 < m.slot) || decide (65534 < m.nat))
def leastT (t : TW) : Bool := !decide (65534 < t.cls)
def leastX (x : XW) : Bool := x.cs.all leastC && x.ms.all leastM && x.ks.all (fun k => k.traps.all leastT)
theorem all_take {α : Type} (F : α → Bool) (l : List α) (j : Nat) (v : α) (h : l[j]? = some v) : (l.take (j + 1)).all F = ((l.take j).all F && F v) := by
  rw [take_snocX h, List.all_append]
  simp
theorem all_bad {α : Type} {F : α → Bool} {l : List α} {v : α} (h : v ∈ l) (hv : F v = false) : l.all F = false := by
  rw [List.all_eq_false]
  exact ⟨v, h, by simp [hv]⟩
set_option maxRecDepth 100000 in
set_option maxHeartbeats 16000000 in
theorem least_any (w : World) (x : XW) (hx : x.Rd w) (hr : x.Right) : Calls Try.prog 26 #[.agg x.vals] w fun e w' => e = .returned (.bool (leastX x)) ∧ Below w.heap.size w w' := by
  obtain ⟨R, hR⟩ : ∃ R, R = leastX x := ⟨_, rfl⟩
  rw [← hR]
  have HX := Lib.hid hx
  have HRR := Lib.hid hr
  have HR := Lib.hid hR
  have HLC := Lib.hid hx.c.1
  have HLM := Lib.hid hx.m.1
  have HLK := Lib.hid hx.k.1
  have HIB := Lib.hid (heap_alloc_last w (.cells x.vals 30))
  have HB1 := Lib.hid ((Below.refl w.heap.size w).alloc (Nat.le_refl _) (.cells x.vals 30))
  clear hR hx hr
  obtain ⟨ca, cn, cc, cs, ma, mn, mc, ms, st, sa, sn, sc, ss, ya, yn, yc, ys, xa, xn, xc, xs, ka, kn, kc, ks, main⟩ := x
  have HRL := Lib.hid (show R = (cs.all leastC && ms.all leastM && ks.all (fun k => k.traps.all leastT)) from HR.out)
  have hcn := HRR.out.cn
  have hmn := HRR.out.mn
  have hkn : kn ≤ 9223372036854775807 := by have := HRR.out.kn; exact this
  unfold XW.vals at *
  simp only at hcn hmn HLC HLM HLK
  clear HR
  go_enter Try.func26, Try.ntmps26
  go_upto_region 1 with fail
  simp only at HIB HB1
  generalize w.alloc _ = W1 at *
  have b0 := row_cell HIB.out 0 rfl
  go_wp2_with fail
  go_loopg [15] cn (fun gn i wr => ∃ j : Nat, j ≤ cn ∧ gn = cn - j ∧ i = .int .i64 j ∧ Hid ((cs.take j).all leastC = true) ∧ Hid (Below W1.heap.size W1 wr))
  case atStart => exact ⟨0, by omega, by omega, by go_num, Lib.hid rfl, Lib.hid (Below.refl _ _)⟩
  case round =>
    obtain ⟨j, hj, rfl, rfl, HQ, HB⟩ := hrel
    have HBW := Lib.hid (HB1.out.trans (HB.out.mono HB1.out.size))
    by_cases hlt : j < cn
    · obtain ⟨b, off, c, rfl, hbl, hc, q⟩ := (HX.out.c.below HBW.out).get1 j hlt
      replace hc : cs[j]? = some c := hc
      have HAT := Lib.hid (all_take leastC cs j c hc)
      have HBD := Lib.hid (fun h => all_bad (F := leastC) (List.mem_of_getElem? hc) h)
      obtain ⟨x0, x1, x2, xra, xrn, xrc, xr, xta, xtn, xtc, xt⟩ := c
      have p0 := q 0 (by omega)
      have p1 := q 1 (by omega)
      have p2 := q 2 (by omega)
      have p3 := q 3 (by omega)
      have p4 := q 4 (by omega)
      simp only [CW.vals, List.getElem?_cons_zero, List.getElem?_cons_succ, Nat.add_zero] at p0 p1 p2 p3 p4
      have HLE := Lib.hid (show leastC ⟨x0, x1, x2, xra, xrn, xrc, xr, xta, xtn, xtc, xt⟩ = !decide (65534 < x1) from rfl)
      clear q hc b0
      go_upto_region 4 with fail
      have hal : Below wr.heap.size wr (wr.alloc (.cells #[.string ⟨x0.toArray⟩, .int .i64 x1, .int .i64 x2, .slice xra xrn xrc, .slice xta xtn xtc] 82)) := (Below.refl _ _).alloc (Nat.le_refl _) _
      have HBA := Lib.hid (HB.out.trans (hal.mono HB.out.size))
      have HRA := heap_alloc_last wr (.cells #[.string ⟨x0.toArray⟩, .int .i64 x1, .int .i64 x2, .slice xra xrn xrc, .slice xta xtn xtc] 82)
      clear hal p0 p1 p2 p3 p4 HB HBW
      generalize wr.alloc (.cells #[.string ⟨x0.toArray⟩, .int .i64 x1, .int .i64 x2, .slice xra xrn xrc, .slice xta xtn xtc] 82) = WA at *
      generalize wr.heap.size = gb at *
      have c1 := row_cell HRA 1 rfl
      clear HRA
      by_cases hb : 65534 < x1
      · have ed := decide_eq_true hb
        have HF := Lib.hid (show R = false by rw [HRL.out, HBD.out (by rw [HLE.out, ed]; rfl)]; rfl)
        clear hb HLE HBD HAT
        go_wp2_with fail
        go_ret
        exact ⟨by rw [HF.out]; rfl, HB1.out.trans (HBA.out.mono HB1.out.size)⟩
      · have ed := decide_eq_false hb
        have HN := Lib.hid (show (cs.take (j + 1)).all leastC = true by rw [HAT.out, HQ.out, HLE.out, ed]; rfl)
        clear hb HLE HBD HAT HQ
        go_wp2_with fail
        go_roundg (cn - (j + 1))
        case measure => omega
        case rel => exact ⟨j + 1, by omega, rfl, by go_num, HN, HBA⟩
    · obtain rfl : cn = j := by omega
      have HA1 := Lib.hid (show cs.all leastC = true by have h := HQ.out; rwa [List.take_of_length_le (by rw [HLC.out]; exact Nat.le_refl _)] at h)
      have HI2 := Lib.hid (row_below HIB.out HB.out)
      clear HQ b0
      have b1 := row_cell HI2.out 1 rfl
      go_wp2_with fail
      go_loopg [27] mn (fun gn i wr => ∃ j : Nat, j ≤ mn ∧ gn = mn - j ∧ i = .int .i64 j ∧ Hid ((ms.take j).all leastM = true) ∧ Hid (Below W1.heap.size W1 wr))
      case atStart => exact ⟨0, by omega, by omega, by go_num, Lib.hid rfl, HB⟩
      case round =>
        obtain ⟨j, hj, rfl, rfl, HQ, HB⟩ := hrel
        have HBW := Lib.hid (HB1.out.trans (HB.out.mono HB1.out.size))
        by_cases hlt : j < mn
        · obtain ⟨b, off, c, rfl, hbl, hc, q⟩ := (HX.out.m.below HBW.out).get1 j hlt
          replace hc : ms[j]? = some c := hc
          have HAT := Lib.hid (all_take leastM ms j c hc)
          have HBD := Lib.hid (fun h => all_bad (F := leastM) (List.mem_of_getElem? hc) h)
          obtain ⟨x0, x1, x2, x3, x4, x5⟩ := c
          have p0 := q 0 (by omega)
          have p1 := q 1 (by omega)
          have p2 := q 2 (by omega)
          have p3 := q 3 (by omega)
          have p4 := q 4 (by omega)
          have p5 := q 5 (by omega)
          simp only [MW.vals, List.getElem?_cons_zero, List.getElem?_cons_succ, Nat.add_zero] at p0 p1 p2 p3 p4 p5
          have HLE := Lib.hid (show leastM ⟨x0, x1, x2, x3, x4, x5⟩ = !(decide (65534 < x4) || decide (65534 < x5)) from rfl)
          clear q hc b1
          go_upto_region 10 with fail
          have hal : Below wr.heap.size wr (wr.alloc (.cells #[.int .i64 x0, .string ⟨x1.toArray⟩, .string ⟨x2.toArray⟩, .bool x3, .int .i64 x4, .int .i64 x5] 87)) := (Below.refl _ _).alloc (Nat.le_refl _) _
          have HBA := Lib.hid (HB.out.trans (hal.mono HB.out.size))
          have HRA := heap_alloc_last wr (.cells #[.int .i64 x0, .string ⟨x1.toArray⟩, .string ⟨x2.toArray⟩, .bool x3, .int .i64 x4, .int .i64 x5] 87)
          clear hal p0 p1 p2 p3 p4 p5 HB HBW
          generalize wr.alloc (.cells #[.int .i64 x0, .string ⟨x1.toArray⟩, .string ⟨x2.toArray⟩, .bool x3, .int .i64 x4, .int .i64 x5] 87) = WA at *
          generalize wr.heap.size = gb at *
          have c4 := row_cell HRA 4 rfl
          have c5 := row_cell HRA 5 rfl
          clear HRA
          by_cases hb : 65534 < x4
          · have ed := decide_eq_true hb
            have HF := Lib.hid (show R = false by rw [HRL.out, HBD.out (by rw [HLE.out, ed]; rfl)]; simp)
            clear hb HLE HBD HAT
            go_wp2_with fail
            go_ret
            exact ⟨by rw [HF.out]; rfl, HB1.out.trans (HBA.out.mono HB1.out.size)⟩
          · have ed := decide_eq_false hb
            by_cases hb2 : 65534 < x5
            · have ed2 := decide_eq_true hb2
              have HF := Lib.hid (show R = false by rw [HRL.out, HBD.out (by rw [HLE.out, ed2]; simp)]; simp)
              clear hb hb2 HLE HBD HAT
              go_wp2_with fail
              go_ret
              exact ⟨by rw [HF.out]; rfl, HB1.out.trans (HBA.out.mono HB1.out.size)⟩
            · have ed2 := decide_eq_false hb2
              have HN := Lib.hid (show (ms.take (j + 1)).all leastM = true by rw [HAT.out, HQ.out, HLE.out, ed, ed2]; rfl)
              clear hb hb2 HLE HBD HAT HQ
              go_wp2_with fail
              go_roundg (mn - (j + 1))
              case measure => omega
              case rel => exact ⟨j + 1, by omega, rfl, by go_num, HN, HBA⟩
        · obtain rfl : mn = j := by omega
          have HA2 := Lib.hid (show ms.all leastM = true by have h := HQ.out; rwa [List.take_of_length_le (by rw [HLM.out]; exact Nat.le_refl _)] at h)
          have HI3 := Lib.hid (row_below HIB.out HB.out)
          clear HQ b1
          have b6 := row_cell HI3.out 6 rfl
          go_wp2_with fail
          go_loopg [43] kn (fun gn i wr => ∃ j : Nat, j ≤ kn ∧ gn = kn - j ∧ i = .int .i64 j ∧ Hid ((ks.take j).all (fun k => k.traps.all leastT) = true) ∧ Hid (Below W1.heap.size W1 wr))
          case atStart => exact ⟨0, by omega, by omega, by go_num, Lib.hid rfl, HB⟩
          case round =>
            obtain ⟨j, hj, rfl, rfl, HQ, HB⟩ := hrel
            have HBW := Lib.hid (HB1.out.trans (HB.out.mono HB1.out.size))
            by_cases hlt : j < kn
            · obtain ⟨b, off, k, rfl, hbl, hc, q⟩ := (HX.out.k.below HBW.out).get1 j hlt
              replace hc : ks[j]? = some k := hc
              have HAT := Lib.hid (all_take (fun k : KW => k.traps.all leastT) ks j k hc)
              have HBD := Lib.hid (fun h => all_bad (F := fun k : KW => k.traps.all leastT) (List.mem_of_getElem? hc) h)
              have HTR := Lib.hid (HX.out.kr k (List.mem_of_getElem? hc)).t
              have htn : k.tn ≤ 9223372036854775807 := by have := (HRR.out.tn k (List.mem_of_getElem? hc)); exact this
              obtain ⟨x0, x1, x2, x3, x4, ta, tn, tc, ts⟩ := k
              simp only at HTR htn
              have HLT := Lib.hid HTR.out.1
              have p0 := q 0 (by omega)
              have p1 := q 1 (by omega)
              have p2 := q 2 (by omega)
              have p3 := q 3 (by omega)
              have p4 := q 4 (by omega)
              have p5 := q 5 (by omega)
              simp only [KW.vals, List.getElem?_cons_zero, List.getElem?_cons_succ, Nat.add_zero] at p0 p1 p2 p3 p4 p5
              simp only at HAT HBD
              clear q hc b6
              go_upto_region 16 with fail
              have hal : Below wr.heap.size wr (wr.alloc (.cells #[.int .i64 x0, .int .i64 x1, .int .i64 x2, .int .i64 x3, .int .i64 x4, .slice ta tn tc] 62)) := (Below.refl _ _).alloc (Nat.le_refl _) _
              have HBA := Lib.hid (HB.out.trans (hal.mono HB.out.size))
              have HRA := heap_alloc_last wr (.cells #[.int .i64 x0, .int .i64 x1, .int .i64 x2, .int .i64 x3, .int .i64 x4, .slice ta tn tc] 62)
              clear hal p0 p1 p2 p3 p4 p5 HB HBW
              generalize wr.alloc (.cells #[.int .i64 x0, .int .i64 x1, .int .i64 x2, .int .i64 x3, .int .i64 x4, .slice ta tn tc] 62) = WA at *
              generalize wr.heap.size = gb at *
              have c5 := row_cell HRA 5 rfl
              clear HRA
              go_wp2_with fail
              go_loopg [50] tn (fun gn i wr => ∃ m : Nat, m ≤ tn ∧ gn = tn - m ∧ i = .int .i64 m ∧ Hid ((ts.take m).all leastT = true) ∧ Hid (Below W1.heap.size W1 wr))
              case atStart => exact ⟨0, by omega, by omega, by go_num, Lib.hid rfl, HBA⟩
              case round =>
                obtain ⟨m, hm, rfl, rfl, HP, HB⟩ := hrel
                have HBW := Lib.hid (HB1.out.trans (HB.out.mono HB1.out.size))
                by_cases hlm : m < tn
                · obtain ⟨b2, off2, t, rfl, hbl2, ht, q⟩ := (HTR.out.below HBW.out).get1 m hlm
                  have HAT2 := Lib.hid (all_take leastT ts m t ht)
                  have HBD2 := Lib.hid (fun h => all_bad (F := leastT) (List.mem_of_getElem? ht) h)
                  obtain ⟨y0, y1, y2, y3⟩ := t
                  have p0 := q 0 (by omega)
                  have p1 := q 1 (by omega)
                  have p2 := q 2 (by omega)
                  have p3 := q 3 (by omega)
                  simp only [TW.vals, List.getElem?_cons_zero, List.getElem?_cons_succ, Nat.add_zero] at p0 p1 p2 p3
                  have HLE := Lib.hid (show leastT ⟨y0, y1, y2, y3⟩ = !decide (65534 < y3) from rfl)
                  clear q ht c5
                  go_upto_region 19 with fail
                  have hal : Below wr.heap.size wr (wr.alloc (.cells #[.int .i64 y0, .int .i64 y1, .int .i64 y2, .int .i64 y3] 71)) := (Below.refl _ _).alloc (Nat.le_refl _) _
                  have HBC := Lib.hid (HB.out.trans (hal.mono HB.out.size))
                  have HRA := heap_alloc_last wr (.cells #[.int .i64 y0, .int .i64 y1, .int .i64 y2, .int .i64 y3] 71)
                  clear hal p0 p1 p2 p3 HB HBW
                  generalize wr.alloc (.cells #[.int .i64 y0, .int .i64 y1, .int .i64 y2, .int .i64 y3] 71) = WC at *
                  generalize wr.heap.size = gc at *
                  have c3 := row_cell HRA 3 rfl
                  clear HRA
                  by_cases hb : 65534 < y3
                  · have ed := decide_eq_true hb
                    have HF := Lib.hid (show R = false by rw [HRL.out, HBD.out (HBD2.out (by rw [HLE.out, ed]; rfl))]; simp)
                    clear hb HLE HBD HAT HBD2 HAT2
                    go_wp2_with fail
                    go_ret
                    exact ⟨by rw [HF.out]; rfl, HB1.out.trans (HBC.out.mono HB1.out.size)⟩
                  · have ed := decide_eq_false hb
                    have HN := Lib.hid (show (ts.take (m + 1)).all leastT = true by rw [HAT2.out, HP.out, HLE.out, ed]; rfl)
                    clear hb HLE HBD2 HAT2 HP
                    go_wp2_with fail
                    go_roundg (tn - (m + 1))
                    case measure => omega
                    case rel => exact ⟨m + 1, by omega, rfl, by go_num, HN, HBC⟩
                · obtain rfl : tn = m := by omega
                  have HAA := Lib.hid (show ts.all leastT = true by have h := HP.out; rwa [List.take_of_length_le (by rw [HLT.out]; exact Nat.le_refl _)] at h)
                  have HN := Lib.hid (show (ks.take (j + 1)).all (fun k => k.traps.all leastT) = true by rw [HAT.out, HQ.out, HAA.out]; rfl)
                  clear c5 HP HAT HBD HQ
                  go_wp2_with fail
                  go_roundg (kn - (j + 1))
                  case measure => omega
                  case rel => exact ⟨j + 1, by omega, rfl, by go_num, HN, HB⟩
            · obtain rfl : kn = j := by omega
              have HA3 := Lib.hid (show ks.all (fun k => k.traps.all leastT) = true by have h := HQ.out; rwa [List.take_of_length_le (by rw [HLK.out]; exact Nat.le_refl _)] at h)
              have HF := Lib.hid (show R = true by rw [HRL.out, HA1.out, HA2.out, HA3.out]; rfl)
              go_wp2_with fail
              go_ret
              exact ⟨by rw [HF.out]; rfl, HB1.out.trans (HB.out.mono HB1.out.size)⟩
end Go.Proofs.Ytbcldlbmbdfejaa
