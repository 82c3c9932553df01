/- klass: stack maps are read. No condition. -/
import Derived.Test.YtnfhiakdbakpgaaQ15KlassCuts
namespace Go.Proofs.Ytnfhiakdbakpgaa
open Go.ChangeShapes Go.WideShapes Go.ChangeAt Go.RowKit
theorem own_setG {w : World} {B : Nat} {e : TypeId} {size : Nat} {v : Value} {n : Nat} {xs : List Value} (h : w.ownsRow B e size v n xs) {g : Nat} (hg : g < B) (o : Nat) (x : Value) : (w.setCell ⟨g, o, none⟩ x).ownsRow B e size v n xs := own_keep1 h ((Keep1.refl g w).set o x) hg
theorem MpJ.setg {g gr gmb gm : Nat} {c0 c1 c2 c3 c4 c5 c6 : Value} {w0 W : World} {l : List KP} (h : MpJ g gr gmb gm c0 c1 c2 c3 c4 c5 c6 w0 l W) (hg0 : g < w0.heap.size) (hmg : gm ≠ g) (hrg : gr ≠ g) (hbg : gmb ≠ g) (o : Nat) (x : Value) : MpJ g gr gmb gm c0 c1 c2 c3 c4 c5 c6 w0 l (W.setCell ⟨g, o, none⟩ x) := by
  obtain ⟨h1, h2, ⟨v, m, lw, h3, h4, h5, h6, h7⟩, h8⟩ := h
  exact ⟨heap_other h1 hrg o x, heap_other h2 hbg o x, ⟨v, m, lw, heap_other h3 hmg o x, own_setG h4 hg0 o x, h5, h6, fun p hp => (h7 p hp).keep1 ((Keep1.refl g W).set o x) hg0⟩, h8.setC (.inr (.inl rfl)) o x⟩
theorem MpJ.keep1 {g gr gmb gm : Nat} {c0 c1 c2 c3 c4 c5 c6 : Value} {w0 W W' : World} {l : List KP} (h : MpJ g gr gmb gm c0 c1 c2 c3 c4 c5 c6 w0 l W) (k : Keep1 g W W') (hg0 : g < w0.heap.size) (hmg : gm ≠ g) (hrg : gr ≠ g) (hbg : gmb ≠ g) : MpJ g gr gmb gm c0 c1 c2 c3 c4 c5 c6 w0 l W' := by
  obtain ⟨h1, h2, ⟨v, m, lw, h3, h4, h5, h6, h7⟩, h8⟩ := h
  exact ⟨k.blk h1 hrg, k.blk h2 hbg, ⟨v, m, lw, k.blk h3 hmg, own_keep1 h4 k hg0, h5, h6, fun p hp => (h7 p hp).keep1 k hg0⟩, h8.trans (k.two gm)⟩
theorem enter_kmap (args : Array Value) (W : World) : (callFunc 71 args).run Try.prog W = .ok (.enter 71 args) W := rfl
set_option maxRecDepth 100000 in
set_option maxHeartbeats 8000000 in
theorem maps2_any (w0 W : World) (g gr gmb gm : Nat) (z0 z1 z2 z3 z4 z5 z6 : Value) (a : Option Addr) (n cap : Nat) (bs : List UInt8) (t : St) (hs0 : Sl encB w0 a n bs) (hom : Off1 a n gm) (hg0 : g < w0.heap.size) (hm0 : gm < w0.heap.size) (hmg : gm ≠ g) (hrg : gr ≠ g) (hbg : gmb ≠ g) (hrm : gr ≠ gm) (hbm : gmb ≠ gm)
    (h : RdS W g a n cap bs t) (hJ : MpJ g gr gmb gm z0 z1 z2 z3 z4 z5 z6 w0 [] W) :
    Calls Try.prog 70 #[.pointer (some ⟨gr, 0, none⟩), .pointer (some ⟨gmb, 0, none⟩)] W fun e W' => e = .returned (.tuple #[]) ∧ RdS W' g a n cap bs (mapsS bs t).2 ∧ MpJ g gr gmb gm z0 z1 z2 z3 z4 z5 z6 w0 (mapsS bs t).1 W' ∧ MpJ g gr gmb gm z0 z1 z2 z3 z4 z5 z6 w0 (mapsS bs t).1 (W'.setCell ⟨g, 2, none⟩ (.int .i64 8)) := by
  have HJ := Lib.hid hJ
  have q0 : W.cell? ⟨gr, 0, none⟩ = some (.pointer (some ⟨g, 0, none⟩)) := row_cell hJ.1 0 rfl
  have HU := Lib.hid (ku2_any W g a n cap bs t h)
  have hv := getS_two bs 2 (by omega) t
  obtain ⟨R, hR⟩ : ∃ R, R = mapsS bs t := ⟨_, rfl⟩
  rw [← hR]
  have HR := Lib.hid (show R = timesS 255 (kmapS bs) (getS bs 2 t).1 (if (getS bs 2 t).2.2 = 0 ∧ (getS bs 2 t).1 = 0 then ((getS bs 2 t).2.1, 8) else (getS bs 2 t).2) by
    rw [hR]; unfold mapsS bindR; simp only [badS_eq, decide_eq_true_eq])
  have HT := Lib.hid (fun (W' : World) (s : St) (k : Nat) (hk : k ≤ 65535) (hr : RdS W' g a n cap bs s) (hj : MpJ g gr gmb gm z0 z1 z2 z3 z4 z5 z6 w0 [] W') => times_any (kmapS bs) (MpJ g gr gmb gm z0 z1 z2 z3 z4 z5 z6 w0) W' g a n cap bs s hr k hk 255 71 enter_kmap #[.pointer (some ⟨gr, 0, none⟩), .pointer (some ⟨gmb, 0, none⟩)] hj (hj.setg hg0 hmg hrg hbg 2 _)
    (fun W t l ht hr hj hl => map1_any w0 W g gr gmb gm z0 z1 z2 z3 z4 z5 z6 a n cap bs t l hs0 hom hg0 hm0 hmg hrg hbg hrm hbm hr hj (by omega)))
  generalize (getS bs 2 t).1 = v at *
  generalize (getS bs 2 t).2 = s1 at *
  obtain ⟨k, rfl⟩ : ∃ k : Nat, v = (k : Int) := ⟨v.toNat, by omega⟩
  have hk : k ≤ 65535 := by omega
  obtain ⟨p1, e1⟩ := s1
  dsimp only at HR
  clear h hs0 hom hR hv hJ
  go_enter Try.func70, Try.ntmps70
  go_wp2_with fail
  refine HU.out.mono ?_
  rintro e' W1 ⟨rfl, hr1, hk1⟩
  have HJ1 := Lib.hid (HJ.out.keep1 hk1 hg0 hmg hrg hbg)
  have HR1 := Lib.hid hr1
  clear hr1 hk1 HJ HU q0
  have q0 : W1.cell? ⟨gr, 0, none⟩ = some (.pointer (some ⟨g, 0, none⟩)) := row_cell HJ1.out.1 0 rfl
  obtain ⟨c0, c1, c2, f0, f1, f2, lt⟩ := HR1.out.k.box
  simp only at c1 c2
  by_cases hkz : k = 0
  · by_cases he : e1 = 0
    · have HRE := Lib.hid (show R = timesS 255 (kmapS bs) k (p1, 8) by rw [HR.out, if_pos ⟨he, by omega⟩])
      have g1 : ((k : Int) == 0) = true := by simp [hkz]
      have g2 : (e1 == 0) = true := by simp [he]
      clear hkz he HR
      go_upto_region 3 with fail
      have HR2 := Lib.hid (HR1.out.bad 8 (by decide))
      have HJ2 := Lib.hid (HJ1.out.setg hg0 hmg hrg hbg 2 (.int .i64 8))
      clear c0 c1 c2 f0 f1 f2 lt q0 HR1 HJ1
      generalize W1.setCell ⟨g, 2, none⟩ (.int .i64 8) = W2 at *
      have q0 : W2.cell? ⟨gr, 0, none⟩ = some (.pointer (some ⟨g, 0, none⟩)) := row_cell HJ2.out.1 0 rfl
      have HX := Lib.hid (HT.out W2 (p1, 8) k hk HR2.out HJ2.out)
      go_wp2_with fail
      refine HX.out.mono ?_
      rintro e' W3 ⟨rfl, hr3, hj3⟩
      rw [← HRE.out] at hr3 hj3
      go_wp2_with fail
      go_end0
      exact ⟨rfl, hr3, hj3, hj3.setg hg0 hmg hrg hbg 2 _⟩
    · have HRE := Lib.hid (show R = timesS 255 (kmapS bs) k (p1, e1) by rw [HR.out, if_neg (fun h => he h.1)])
      have g1 : ((k : Int) == 0) = true := by simp [hkz]
      have g2 : (e1 == 0) = false := by simp [he]
      clear hkz he HR
      have HX := Lib.hid (HT.out W1 (p1, e1) k hk HR1.out HJ1.out)
      go_wp2_with fail
      refine HX.out.mono ?_
      rintro e' W3 ⟨rfl, hr3, hj3⟩
      rw [← HRE.out] at hr3 hj3
      go_wp2_with fail
      go_end0
      exact ⟨rfl, hr3, hj3, hj3.setg hg0 hmg hrg hbg 2 _⟩
  · have HRE := Lib.hid (show R = timesS 255 (kmapS bs) k (p1, e1) by rw [HR.out, if_neg (fun h => hkz (by omega))])
    have g1 : ((k : Int) == 0) = false := by simp [hkz]
    clear hkz HR
    have HX := Lib.hid (HT.out W1 (p1, e1) k hk HR1.out HJ1.out)
    go_wp2_with fail
    refine HX.out.mono ?_
    rintro e' W3 ⟨rfl, hr3, hj3⟩
    rw [← HRE.out] at hr3 hj3
    go_wp2_with fail
    go_end0
    exact ⟨rfl, hr3, hj3, hj3.setg hg0 hmg hrg hbg 2 _⟩
end Go.Proofs.Ytnfhiakdbakpgaa
/- klass: a method's code is read (printed by gen/klrd9.py). No condition. -/
namespace Go.Proofs.Ytnfhiakdbakpgaa
open Go.ChangeShapes Go.WideShapes Go.ChangeAt Go.RowKit
theorem Ss.keep2 {α : Type} {z : Nat} {enc : α → List Value} {g h : Nat} {w w' : World} {x : Option Addr} {n : Nat} {xs : List α} (hs : Ss z enc w x n xs) (k : Keep2 g h w w') (h1 : Off1 x n g) (h2 : Off1 x n h) : Ss z enc w' x n xs := by
  refine ⟨hs.1, fun hn => ?_⟩
  obtain ⟨b, off, ha, hlt, hc⟩ := hs.2 hn
  refine ⟨b, off, ha, Nat.lt_of_lt_of_le hlt k.size, fun i hi j hj => ?_⟩
  rw [← hc i hi j hj]
  unfold World.cell?
  rw [k.block b hlt (h1 hn b off ha) (h2 hn b off ha)]
/-- The boxes of the method and of the reader. -/
def BxS (g gr gmb gm : Nat) (w : World) : Prop := w.cell? ⟨gmb, 0, none⟩ = some (.pointer (some ⟨gm, 0, none⟩)) ∧ w.cell? ⟨gr, 0, none⟩ = some (.pointer (some ⟨g, 0, none⟩))
/-- A method's rows are its own. -/
structure KM.Own (m : KM) (w : World) (B : Nat) : Prop where
  code : w.ownsRow B 5 1 (.slice m.ca m.cn m.cc) m.cn (m.code.map encB)
  traps : w.ownsRow B 98 4 (.slice m.ta m.tn m.tc) m.tn (m.traps.flatMap KT.cells)
  maps : w.ownsRow B 51 3 (.slice m.ma m.mn m.mc) m.mn (m.maps.flatMap KP.cells)
  each : ∀ p ∈ m.maps, p.Own w B
theorem enter_trap (args : Array Value) (W : World) : (callFunc 69 args).run Try.prog W = .ok (.enter 69 args) W := rfl
theorem enter_maps2 (args : Array Value) (W : World) : (callFunc 70 args).run Try.prog W = .ok (.enter 70 args) W := rfl
/-- What a reading of a method's code leaves. -/
def CodeRet (g gm : Nat) (a : Option Addr) (n cap : Nat) (bs : List UInt8) (R : KM × St) (w : World) (e : Ending) (w' : World) : Prop :=
  e = .returned (.tuple #[]) ∧ (∃ m : KM, m.p = R.1 ∧ MBk w' gm m.fl m.nm m.ds m.st m.lo m.ca m.cn m.cc m.ta m.tn m.tc m.ma m.mn m.mc ∧ m.Own w' w.heap.size) ∧ RdS w' g a n cap bs R.2 ∧ Keep2 g gm w w'
set_option maxRecDepth 100000 in
set_option maxHeartbeats 16000000 in
theorem rcode_any (w : World) (g gm : Nat) (a : Option Addr) (n cap : Nat) (bs : List UInt8) (s0 : St) (h : RdS w g a n cap bs s0) (h0n : 0 < n) (pa : Option Addr) (pn pc : Nat) (L : List KV) (hL : Ks w pa pn L) (hLg : Off1 pa pn g) (hLm : Off1 pa pn gm) (hpn : pn ≤ 65536) (fl nm ds : Int)
    (hm : w.heap[gm]? = some (.cells #[.int .i64 fl, .int .i64 nm, .int .i64 ds, .int .i64 0, .int .i64 0, .slice none 0 0, .slice none 0 0, .slice none 0 0] 48)) (hom : Off1 a n gm) (hmg : gm ≠ g) :
    Calls Try.prog 40 #[.pointer (some ⟨g, 0, none⟩), .slice pa pn pc, .pointer (some ⟨gm, 0, none⟩)] w (CodeRet g gm a n cap bs (kcodeS bs L fl nm ds s0) w) := by
  have HS0 := Lib.hid h.sl
  have HOM := Lib.hid hom
  have HLK := Lib.hid hL
  have HLG := Lib.hid hLg
  have HLM := Lib.hid hLm
  have hgl := h.lt
  have hml := row_lt hm
  obtain ⟨R, hR⟩ : ∃ R, R = kcodeS bs L fl nm ds s0 := ⟨_, rfl⟩
  rw [← hR]
  obtain ⟨st, s1, hx0⟩ : ∃ x s, getS bs 2 s0 = (x, s) := ⟨_, _, rfl⟩
  obtain ⟨lo, s2, hx1⟩ : ∃ x s, getS bs 2 s1 = (x, s) := ⟨_, _, rfl⟩
  obtain ⟨cni, s3, hx2⟩ : ∃ x s, getS bs 4 s2 = (x, s) := ⟨_, _, rfl⟩
  obtain ⟨code, s4, hx3⟩ : ∃ x s, bytesS bs cni s3 = (x, s) := ⟨_, _, rfl⟩
  obtain ⟨tni, s5, hx4⟩ : ∃ x s, getS bs 2 s4 = (x, s) := ⟨_, _, rfl⟩
  obtain ⟨traps, s6, hx5⟩ : ∃ x s, timesS 255 (trapS bs) tni s5 = (x, s) := ⟨_, _, rfl⟩
  obtain ⟨ki, s7, hx6⟩ : ∃ x s, getS bs 2 s6 = (x, s) := ⟨_, _, rfl⟩
  have HSL := Lib.hid (show R = (⟨fl, nm, ds, st, lo, none, 0, 0, code, none, 0, 0, traps, none, 0, 0, (tailS bs L ki s7).1⟩, (tailS bs L ki s7).2) by
    rw [hR]; simp only [kcodeS, bindR, pureR, hx0, hx1, hx2, hx3, hx4, hx5, hx6])
  have hcv : 0 ≤ cni ∧ cni < 4294967296 := by have := getS_val bs 4 (by decide) s2; rw [hx2] at this; exact this
  have htv : 0 ≤ tni ∧ tni < 65536 := by have := getS_two bs 2 (by decide) s4; rw [hx4] at this; exact this
  have hkv : 0 ≤ ki ∧ ki < 65536 := by have := getS_two bs 2 (by decide) s6; rw [hx6] at this; exact this
  obtain ⟨cn, rfl⟩ : ∃ k : Nat, cni = (k : Int) := ⟨cni.toNat, by omega⟩
  obtain ⟨tn, rfl⟩ : ∃ k : Nat, tni = (k : Int) := ⟨tni.toNat, by omega⟩
  obtain ⟨k, rfl⟩ : ∃ k : Nat, ki = (k : Int) := ⟨ki.toNat, by omega⟩
  have HX0 := Lib.hid hx0
  have HX1 := Lib.hid hx1
  have HX2 := Lib.hid hx2
  have HX3 := Lib.hid hx3
  have HX4 := Lib.hid hx4
  have HX5 := Lib.hid hx5
  have HX6 := Lib.hid hx6
  have htn : tn ≤ 65535 := by omega
  have h1 : Below w.heap.size w (w.alloc (.cells #[.pointer (some ⟨g, 0, none⟩)] 75)) := below_1 _ _
  have h2 : Below w.heap.size w ((w.alloc (.cells #[.pointer (some ⟨g, 0, none⟩)] 75)).alloc (.cells #[.pointer (some ⟨gm, 0, none⟩)] 85)) := h1.alloc h1.size _
  have HG2 := Lib.hid (row_below (heap_alloc_last w (.cells #[.pointer (some ⟨g, 0, none⟩)] 75)) (below_1 (w.alloc (.cells #[.pointer (some ⟨g, 0, none⟩)] 75)) (.cells #[.pointer (some ⟨gm, 0, none⟩)] 85)))
  have z1 : (w.alloc (.cells #[.pointer (some ⟨g, 0, none⟩)] 75)).heap.size = w.heap.size + 1 := by simp
  have HB2 := Lib.hid (heap_alloc_last (w.alloc (.cells #[.pointer (some ⟨g, 0, none⟩)] 75)) (.cells #[.pointer (some ⟨gm, 0, none⟩)] 85))
  rw [z1] at HB2
  have HM2 := Lib.hid (row_below hm h2)
  have HR2 := Lib.hid (h.below h2)
  have HK2 := Lib.hid (Keep2.of (g := g) (h := gm) h2)
  clear h1 h2 h hR z1 hm hom hL hLg hLm hx0 hx1 hx2 hx3 hx4 hx5 hx6 htv hkv
  go_enter Try.func40, Try.ntmps40
  go_upto_region 1 with fail
  generalize ((w.alloc (.cells #[.pointer (some ⟨g, 0, none⟩)] 75)).alloc (.cells #[.pointer (some ⟨gm, 0, none⟩)] 85)) = W2 at *
  obtain ⟨gr, hgre⟩ : ∃ b, b = w.heap.size := ⟨_, rfl⟩
  obtain ⟨gmb, hgoe⟩ : ∃ b, b = w.heap.size + 1 := ⟨_, rfl⟩
  rw [← hgre] at HG2
  rw [← hgoe] at HB2
  have hrg : gr ≠ g := by omega
  have hbg : gmb ≠ g := by omega
  have hrm : gr ≠ gm := by omega
  have hbm : gmb ≠ gm := by omega
  rw [← hgoe, ← hgre]
  clear hgre hgoe
  refine wp_region_lex (BxS g gr gmb gm) [(0, true), (1, true), (2, true), (4, true), (3, false), (5, false), (6, true), (7, true), (8, false), (9, true), (10, true), (11, false)] (by kernel_rfl) (by kernel_rfl) (fun c a d v w h => by cases d <;> exact h) ?_
  have hd : Below W2.heap.size W2 W2.drew := (Below.refl _ _).drew
  have HG3 := Lib.hid (row_below HG2.out hd)
  have HB3 := Lib.hid (row_below HB2.out hd)
  have HM3 := Lib.hid (row_below HM2.out hd)
  have HK3 := Lib.hid (HK2.out.drew)
  have HR3 := Lib.hid (HR2.out.below hd)
  clear hd HG2 HB2 HM2 HK2 HR2
  generalize W2.drew = W3 at *
  have hSw : BxS g gr gmb gm W3 := ⟨row_cell HB3.out 0 rfl, row_cell HG3.out 0 rfl⟩
  have l0 := fun z (h : BxS g gr gmb gm z) => h.1
  have l1 := fun z (h : BxS g gr gmb gm z) => h.2
  iterate 4
    refine lex_step (fun K hK => ?_)
    simp only [lexOp, List.getElem?_toArray, List.getElem?_cons_succ, List.getElem?_cons_zero]
    rw [if_pos (by rfl)]
    apply Exists.intro
    refine ⟨fun w' hS' => ?_, hSw, ?_⟩
    · first | (go_simp <;> with_reducible rfl) | (go_simp; go_bits; with_reducible rfl)
    go_simp
    try go_bits
    refine hK _ _ ?_
    clear hK K
  refine lex_step (fun K hK => ?_)
  simp only [lexOp, List.getElem?_toArray, List.getElem?_cons_succ, List.getElem?_cons_zero]
  rw [if_pos (by rfl)]
  go_step
  have HU := ku2_any W3 g a n cap bs s0 HR3.out
  rw [HX0.out] at HU
  dsimp only at HU
  refine HU.mono ?_
  rintro e' W4 ⟨rfl, hr, hk⟩
  clear HU
  have HG4 := Lib.hid (hk.blk HG3.out hrg)
  have HB4 := Lib.hid (hk.blk HB3.out hbg)
  have HM4 := Lib.hid (hk.blk HM3.out hmg)
  have HK4 := Lib.hid (HK3.out.trans (hk.two gm))
  have HR4 := Lib.hid hr
  replace hSw : BxS g gr gmb gm W4 := ⟨row_cell HB4.out 0 rfl, row_cell HG4.out 0 rfl⟩
  clear hr hk HG3 HB3 HM3 HK3 HR3
  go_simp
  first | refine hK _ _ ?_ | refine ⟨hSw, hK _ _ ?_⟩
  clear hK K
  refine lex_step (fun K hK => ?_)
  simp only [lexOp, List.getElem?_toArray, List.getElem?_cons_succ, List.getElem?_cons_zero]
  rw [if_pos (by rfl)]
  go_step
  have HU := ku2_any W4 g a n cap bs s1 HR4.out
  rw [HX1.out] at HU
  dsimp only at HU
  refine HU.mono ?_
  rintro e' W5 ⟨rfl, hr, hk⟩
  clear HU
  have HG5 := Lib.hid (hk.blk HG4.out hrg)
  have HB5 := Lib.hid (hk.blk HB4.out hbg)
  have HM5 := Lib.hid (hk.blk HM4.out hmg)
  have HK5 := Lib.hid (HK4.out.trans (hk.two gm))
  have HR5 := Lib.hid hr
  replace hSw : BxS g gr gmb gm W5 := ⟨row_cell HB5.out 0 rfl, row_cell HG5.out 0 rfl⟩
  clear hr hk HG4 HB4 HM4 HK4 HR4
  go_simp
  first | refine hK _ _ ?_ | refine ⟨hSw, hK _ _ ?_⟩
  clear hK K
  iterate 2
    refine lex_step (fun K hK => ?_)
    simp only [lexOp, List.getElem?_toArray, List.getElem?_cons_succ, List.getElem?_cons_zero]
    rw [if_pos (by rfl)]
    apply Exists.intro
    refine ⟨fun w' hS' => ?_, hSw, ?_⟩
    · first | (go_simp <;> with_reducible rfl) | (go_simp; go_bits; with_reducible rfl)
    go_simp
    try go_bits
    refine hK _ _ ?_
    clear hK K
  have fo := row_melt HM5.out 3
  have lto := row_lt HM5.out
  have co : W5.cell? ⟨gm, 3, none⟩ = some (.int .i64 0) := row_cell HM5.out 3 rfl
  refine lex_step (fun K hK => ?_)
  simp only [lexOp, List.getElem?_toArray, List.getElem?_cons_succ, List.getElem?_cons_zero]
  rw [if_pos (by rfl)]
  go_step
  have HM6 := Lib.hid (show (W5.setCell ⟨gm, 3, none⟩ (.int .i64 st)).heap[gm]? = some (.cells #[.int .i64 fl, .int .i64 nm, .int .i64 ds, .int .i64 st, .int .i64 0, .slice none 0 0, .slice none 0 0, .slice none 0 0] 48) by simpa using heap_set3 HM5.out 3 (.int .i64 st))
  have HG6 := Lib.hid (heap_other HG5.out hrm 3 (.int .i64 st))
  have HB6 := Lib.hid (heap_other HB5.out hbm 3 (.int .i64 st))
  have HK6 := Lib.hid (HK5.out.setC (.inr (.inr rfl)) 3 (.int .i64 st))
  have HR6 := Lib.hid (RdS.set HR5.out ⟨Ne.symm hmg, HOM.out⟩ 3 (.int .i64 st))
  replace hSw : BxS g gr gmb gm (W5.setCell ⟨gm, 3, none⟩ (.int .i64 st)) := ⟨row_cell HB6.out 0 rfl, row_cell HG6.out 0 rfl⟩
  clear fo lto co HM5 HG5 HB5 HK5 HR5
  refine ⟨hSw, hK _ _ ?_⟩
  clear hK K
  generalize W5.setCell ⟨gm, 3, none⟩ (.int .i64 st) = W6 at *
  iterate 2
    refine lex_step (fun K hK => ?_)
    simp only [lexOp, List.getElem?_toArray, List.getElem?_cons_succ, List.getElem?_cons_zero]
    rw [if_pos (by rfl)]
    apply Exists.intro
    refine ⟨fun w' hS' => ?_, hSw, ?_⟩
    · first | (go_simp <;> with_reducible rfl) | (go_simp; go_bits; with_reducible rfl)
    go_simp
    try go_bits
    refine hK _ _ ?_
    clear hK K
  have fo := row_melt HM6.out 4
  have lto := row_lt HM6.out
  have co : W6.cell? ⟨gm, 4, none⟩ = some (.int .i64 0) := row_cell HM6.out 4 rfl
  refine lex_step (fun K hK => ?_)
  simp only [lexOp, List.getElem?_toArray, List.getElem?_cons_succ, List.getElem?_cons_zero]
  rw [if_pos (by rfl)]
  go_step
  have HM7 := Lib.hid (show (W6.setCell ⟨gm, 4, none⟩ (.int .i64 lo)).heap[gm]? = some (.cells #[.int .i64 fl, .int .i64 nm, .int .i64 ds, .int .i64 st, .int .i64 lo, .slice none 0 0, .slice none 0 0, .slice none 0 0] 48) by simpa using heap_set3 HM6.out 4 (.int .i64 lo))
  have HG7 := Lib.hid (heap_other HG6.out hrm 4 (.int .i64 lo))
  have HB7 := Lib.hid (heap_other HB6.out hbm 4 (.int .i64 lo))
  have HK7 := Lib.hid (HK6.out.setC (.inr (.inr rfl)) 4 (.int .i64 lo))
  have HR7 := Lib.hid (RdS.set HR6.out ⟨Ne.symm hmg, HOM.out⟩ 4 (.int .i64 lo))
  replace hSw : BxS g gr gmb gm (W6.setCell ⟨gm, 4, none⟩ (.int .i64 lo)) := ⟨row_cell HB7.out 0 rfl, row_cell HG7.out 0 rfl⟩
  clear fo lto co HM6 HG6 HB6 HK6 HR6
  refine ⟨hSw, hK _ _ ?_⟩
  clear hK K
  generalize W6.setCell ⟨gm, 4, none⟩ (.int .i64 lo) = W7 at *
  refine lex_nil ?_
  clear l0 l1 hSw
  go_upto_region 2 with fail
  refine wp_region_lex (BxS g gr gmb gm) [(0, true), (1, true), (2, true), (3, false), (4, false), (5, true), (6, true), (7, false)] (by kernel_rfl) (by kernel_rfl) (fun c a d v w h => by cases d <;> exact h) ?_
  have hd : Below W7.heap.size W7 W7.drew := (Below.refl _ _).drew
  have HG8 := Lib.hid (row_below HG7.out hd)
  have HB8 := Lib.hid (row_below HB7.out hd)
  have HM8 := Lib.hid (row_below HM7.out hd)
  have HK8 := Lib.hid (HK7.out.drew)
  have HR8 := Lib.hid (HR7.out.below hd)
  clear hd HG7 HB7 HM7 HK7 HR7
  generalize W7.drew = W8 at *
  have hSw : BxS g gr gmb gm W8 := ⟨row_cell HB8.out 0 rfl, row_cell HG8.out 0 rfl⟩
  have l0 := fun z (h : BxS g gr gmb gm z) => h.1
  have l1 := fun z (h : BxS g gr gmb gm z) => h.2
  iterate 3
    refine lex_step (fun K hK => ?_)
    simp only [lexOp, List.getElem?_toArray, List.getElem?_cons_succ, List.getElem?_cons_zero]
    rw [if_pos (by rfl)]
    apply Exists.intro
    refine ⟨fun w' hS' => ?_, hSw, ?_⟩
    · first | (go_simp <;> with_reducible rfl) | (go_simp; go_bits; with_reducible rfl)
    go_simp
    try go_bits
    refine hK _ _ ?_
    clear hK K
  refine lex_step (fun K hK => ?_)
  simp only [lexOp, List.getElem?_toArray, List.getElem?_cons_succ, List.getElem?_cons_zero]
  rw [if_pos (by rfl)]
  go_step
  have HU := next_kl W8 g a n cap bs s2 HR8.out 4 (by decide) (by decide)
  rw [HX2.out] at HU
  dsimp only at HU
  refine HU.mono ?_
  rintro e' W9 ⟨rfl, hr, hk⟩
  clear HU
  have HG9 := Lib.hid (hk.blk HG8.out hrg)
  have HB9 := Lib.hid (hk.blk HB8.out hbg)
  have HM9 := Lib.hid (hk.blk HM8.out hmg)
  have HK9 := Lib.hid (HK8.out.trans (hk.two gm))
  have HR9 := Lib.hid hr
  replace hSw : BxS g gr gmb gm W9 := ⟨row_cell HB9.out 0 rfl, row_cell HG9.out 0 rfl⟩
  clear hr hk HG8 HB8 HM8 HK8 HR8
  go_simp
  first | refine hK _ _ ?_ | refine ⟨hSw, hK _ _ ?_⟩
  clear hK K
  refine lex_step (fun K hK => ?_)
  simp only [lexOp, List.getElem?_toArray, List.getElem?_cons_succ, List.getElem?_cons_zero]
  rw [if_pos (by rfl)]
  go_step
  have HU := bytes_any W9 g a n cap bs s3 HR9.out h0n cn (by omega)
  rw [HX3.out] at HU
  dsimp only at HU
  refine HU.mono ?_
  rintro e' W10 ⟨v10, m10, rfl, ho10, hr, hk⟩
  clear HU
  obtain ⟨ca, cc, rfl, hs10, -⟩ := Sl.ofOwn ho10
  have HCL := Lib.hid (show code.length = m10 from hs10.1)
  have HC10 := Lib.hid (own_mono ho10 HK9.out.size)
  clear ho10 hs10
  have HG10 := Lib.hid (hk.blk HG9.out hrg)
  have HB10 := Lib.hid (hk.blk HB9.out hbg)
  have HM10 := Lib.hid (hk.blk HM9.out hmg)
  have HK10 := Lib.hid (HK9.out.trans (hk.two gm))
  have HR10 := Lib.hid hr
  replace hSw : BxS g gr gmb gm W10 := ⟨row_cell HB10.out 0 rfl, row_cell HG10.out 0 rfl⟩
  clear hr hk HG9 HB9 HM9 HK9 HR9
  go_simp
  first | refine hK _ _ ?_ | refine ⟨hSw, hK _ _ ?_⟩
  clear hK K
  iterate 2
    refine lex_step (fun K hK => ?_)
    simp only [lexOp, List.getElem?_toArray, List.getElem?_cons_succ, List.getElem?_cons_zero]
    rw [if_pos (by rfl)]
    apply Exists.intro
    refine ⟨fun w' hS' => ?_, hSw, ?_⟩
    · first | (go_simp <;> with_reducible rfl) | (go_simp; go_bits; with_reducible rfl)
    go_simp
    try go_bits
    refine hK _ _ ?_
    clear hK K
  have fo := row_melt HM10.out 5
  have lto := row_lt HM10.out
  have co : W10.cell? ⟨gm, 5, none⟩ = some (.slice none 0 0) := row_cell HM10.out 5 rfl
  refine lex_step (fun K hK => ?_)
  simp only [lexOp, List.getElem?_toArray, List.getElem?_cons_succ, List.getElem?_cons_zero]
  rw [if_pos (by rfl)]
  go_step
  have HM11 := Lib.hid (show (W10.setCell ⟨gm, 5, none⟩ (.slice ca m10 cc)).heap[gm]? = some (.cells #[.int .i64 fl, .int .i64 nm, .int .i64 ds, .int .i64 st, .int .i64 lo, .slice ca m10 cc, .slice none 0 0, .slice none 0 0] 48) by simpa using heap_set3 HM10.out 5 (.slice ca m10 cc))
  have HG11 := Lib.hid (heap_other HG10.out hrm 5 (.slice ca m10 cc))
  have HB11 := Lib.hid (heap_other HB10.out hbm 5 (.slice ca m10 cc))
  have HK11 := Lib.hid (HK10.out.setC (.inr (.inr rfl)) 5 (.slice ca m10 cc))
  have HR11 := Lib.hid (RdS.set HR10.out ⟨Ne.symm hmg, HOM.out⟩ 5 (.slice ca m10 cc))
  replace hSw : BxS g gr gmb gm (W10.setCell ⟨gm, 5, none⟩ (.slice ca m10 cc)) := ⟨row_cell HB11.out 0 rfl, row_cell HG11.out 0 rfl⟩
  have HC11 := Lib.hid (own_keptT HC10.out (keptT_set HM10.out 5 (.slice ca m10 cc)) (by decide))
  clear HC10
  clear fo lto co HM10 HG10 HB10 HK10 HR10
  refine ⟨hSw, hK _ _ ?_⟩
  clear hK K
  generalize W10.setCell ⟨gm, 5, none⟩ (.slice ca m10 cc) = W11 at *
  refine lex_nil ?_
  clear l0 l1 hSw
  go_upto_region 3 with fail
  go_cut [] (fun wx => Hid (wx.heap[gr]? = some (.cells #[.pointer (some ⟨g, 0, none⟩)] 75)) ∧ Hid (wx.heap[gmb]? = some (.cells #[.pointer (some ⟨gm, 0, none⟩)] 85)) ∧ ∃ (ta : Option Addr) (tc m14 : Nat), Hid (wx.heap[gm]? = some (.cells #[.int .i64 fl, .int .i64 nm, .int .i64 ds, .int .i64 st, .int .i64 lo, .slice ca m10 cc, .slice ta m14 tc, .slice none 0 0] 48)) ∧
    Hid (wx.ownsRow w.heap.size 98 4 (.slice ta m14 tc) m14 (traps.flatMap KT.cells)) ∧ Hid (m14 = traps.length) ∧ Hid (wx.ownsRow w.heap.size 5 1 (.slice ca m10 cc) m10 (code.map encB)) ∧ Hid (Keep2 g gm w wx) ∧ Hid (RdS wx g a n cap bs s6))
  case first =>
    have hd : Below W11.heap.size W11 W11.drew := (Below.refl _ _).drew
    have HG12 := Lib.hid (row_below HG11.out hd)
    have HB12 := Lib.hid (row_below HB11.out hd)
    have HM12 := Lib.hid (row_below HM11.out hd)
    have HK12 := Lib.hid (HK11.out.drew)
    have HR12 := Lib.hid (HR11.out.below hd)
    have HC12 := Lib.hid (own_below HC11.out hd)
    have hSw : BxS g gr gmb gm W11.drew := ⟨row_cell HB12.out 0 rfl, row_cell HG12.out 0 rfl⟩
    have HU := ku2_any W11.drew g a n cap bs s4 HR12.out
    rw [HX4.out] at HU
    dsimp only at HU
    have HU := Lib.hid HU
    have l0 := fun z (h : BxS g gr gmb gm z) => h.1
    have l1 := fun z (h : BxS g gr gmb gm z) => h.2
    refine wp_region_lexS (BxS g gr gmb gm) (.of [(0, true), (1, true)] (.fork 2 (.of [(3, false), (4, false)] (.stir [])) 3 (.of [(2, false), (4, false)] (.stir [])))) (by kernel_rfl) (by kernel_rfl) (fun c a d v w h => by cases d <;> exact h) ?_
    iterate 2
      refine lexS_step (fun K hK => ?_)
      simp only [lexOp, List.getElem?_toArray, List.getElem?_cons_succ, List.getElem?_cons_zero]
      rw [if_pos (by rfl)]
      apply Exists.intro
      refine ⟨fun w' hS' => ?_, hSw, ?_⟩
      · first | (go_simp <;> with_reducible rfl) | (go_simp; go_bits; with_reducible rfl)
      go_simp
      try go_bits
      refine hK _ _ ?_
      clear hK K
    refine lexS_fork ?_ ?_
    · intro K hK
      simp only [lexOp, List.getElem?_toArray, List.getElem?_cons_succ, List.getElem?_cons_zero]
      rw [if_pos (by rfl)]
      go_step
      refine HU.out.mono ?_
      rintro e' W13 ⟨rfl, hr, hk⟩
      have HG13 := Lib.hid (hk.blk HG12.out hrg)
      have HB13 := Lib.hid (hk.blk HB12.out hbg)
      have HM13 := Lib.hid (hk.blk HM12.out hmg)
      have HK13 := Lib.hid (HK12.out.trans (hk.two gm))
      have HC13 := Lib.hid (own_keep1 HC12.out hk hgl)
      have HR13 := Lib.hid hr
      replace hSw : BxS g gr gmb gm W13 := ⟨row_cell HB13.out 0 rfl, row_cell HG13.out 0 rfl⟩
      clear hr hk
      go_simp
      first | refine hK _ _ ?_ | refine ⟨hSw, hK _ _ ?_⟩
      clear hK K
      refine lexS_step (fun K hK => ?_)
      simp only [lexOp, List.getElem?_toArray, List.getElem?_cons_succ, List.getElem?_cons_zero]
      rw [if_pos (by rfl)]
      go_step
      first | refine hK _ _ ?_ | refine ⟨hSw, hK _ _ ?_⟩
      clear hK K
      refine lexS_step (fun K hK => ?_)
      simp only [lexOp, List.getElem?_toArray, List.getElem?_cons_succ, List.getElem?_cons_zero]
      rw [if_pos (by rfl)]
      go_step
      have hg13 : g < W13.heap.size := Nat.lt_of_lt_of_le hgl HK13.out.size
      have hm13 : gm < W13.heap.size := Nat.lt_of_lt_of_le hml HK13.out.size
      have HT := times_any (trapS bs) (TrJ g gr gmb gm (.int .i64 fl) (.int .i64 nm) (.int .i64 ds) (.int .i64 st) (.int .i64 lo) (.slice ca m10 cc) W13) W13 g a n cap bs s5 HR13.out tn htn 255 69 enter_trap #[.pointer (some ⟨gmb, 0, none⟩), .pointer (some ⟨gr, 0, none⟩)]
        ⟨HG13.out, HB13.out, ⟨_, 0, HM13.out, World.ownsRow_nil _ _ _ _, rfl⟩, Keep2.refl _ _ _⟩ ⟨heap_other HG13.out hrg 2 _, heap_other HB13.out hbg 2 _, ⟨_, 0, heap_other HM13.out hmg 2 _, World.ownsRow_nil _ _ _ _, rfl⟩, (Keep2.refl _ _ _).setC (.inr (.inl rfl)) 2 _⟩
        (fun W t l ht hr hj hl => trap1_any W13 W g gr gmb gm _ _ _ _ _ _ a n cap bs t l HR13.out.sl HOM.out hg13 hm13 hmg hrg hbg hrm hbm hr hj (by omega))
      rw [HX5.out] at HT
      dsimp only at HT
      refine HT.mono ?_
      rintro e' W14 ⟨rfl, hr, ⟨hg, hb, ⟨v14, m14, hm14, ho14, hl14⟩, hk⟩⟩
      obtain ⟨ta, tc, rfl, -, -⟩ := Ss.ofOwn KT.cells_length (by decide) ho14
      have HG14 := Lib.hid hg
      have HB14 := Lib.hid hb
      have HM14 := Lib.hid hm14
      have HT14 := Lib.hid (own_mono ho14 HK13.out.size)
      have HTL := Lib.hid hl14
      have HK14 := Lib.hid (HK13.out.trans hk)
      have HC14 := Lib.hid (own_keep2 HC13.out hk hgl hml)
      have HR14 := Lib.hid hr
      replace hSw : BxS g gr gmb gm W14 := ⟨row_cell HB14.out 0 rfl, row_cell HG14.out 0 rfl⟩
      clear hr hg hb hm14 ho14 hl14 hk HT
      go_simp
      first | refine hK _ _ ?_ | refine ⟨hSw, hK _ _ ?_⟩
      clear hK K
      refine lexS_stir (EqW W14) (fun y hy => by rw [show y = W14 from hy]; exact hSw) rfl ?_
      refine stir_nil (fun y hy => ?_)
      obtain rfl : y = W14 := hy
      clear l0 l1 hSw
      go_wp2_with fail
      go_meet
      exact ⟨HG14, HB14, ta, tc, m14, HM14, HT14, HTL, HC14, HK14, HR14⟩
    · intro K hK
      simp only [lexOp, List.getElem?_toArray, List.getElem?_cons_succ, List.getElem?_cons_zero]
      rw [if_pos (by rfl)]
      go_step
      first | refine hK _ _ ?_ | refine ⟨hSw, hK _ _ ?_⟩
      clear hK K
      refine lexS_step (fun K hK => ?_)
      simp only [lexOp, List.getElem?_toArray, List.getElem?_cons_succ, List.getElem?_cons_zero]
      rw [if_pos (by rfl)]
      go_step
      refine HU.out.mono ?_
      rintro e' W13 ⟨rfl, hr, hk⟩
      have HG13 := Lib.hid (hk.blk HG12.out hrg)
      have HB13 := Lib.hid (hk.blk HB12.out hbg)
      have HM13 := Lib.hid (hk.blk HM12.out hmg)
      have HK13 := Lib.hid (HK12.out.trans (hk.two gm))
      have HC13 := Lib.hid (own_keep1 HC12.out hk hgl)
      have HR13 := Lib.hid hr
      replace hSw : BxS g gr gmb gm W13 := ⟨row_cell HB13.out 0 rfl, row_cell HG13.out 0 rfl⟩
      clear hr hk
      go_simp
      first | refine hK _ _ ?_ | refine ⟨hSw, hK _ _ ?_⟩
      clear hK K
      refine lexS_step (fun K hK => ?_)
      simp only [lexOp, List.getElem?_toArray, List.getElem?_cons_succ, List.getElem?_cons_zero]
      rw [if_pos (by rfl)]
      go_step
      have hg13 : g < W13.heap.size := Nat.lt_of_lt_of_le hgl HK13.out.size
      have hm13 : gm < W13.heap.size := Nat.lt_of_lt_of_le hml HK13.out.size
      have HT := times_any (trapS bs) (TrJ g gr gmb gm (.int .i64 fl) (.int .i64 nm) (.int .i64 ds) (.int .i64 st) (.int .i64 lo) (.slice ca m10 cc) W13) W13 g a n cap bs s5 HR13.out tn htn 255 69 enter_trap #[.pointer (some ⟨gmb, 0, none⟩), .pointer (some ⟨gr, 0, none⟩)]
        ⟨HG13.out, HB13.out, ⟨_, 0, HM13.out, World.ownsRow_nil _ _ _ _, rfl⟩, Keep2.refl _ _ _⟩ ⟨heap_other HG13.out hrg 2 _, heap_other HB13.out hbg 2 _, ⟨_, 0, heap_other HM13.out hmg 2 _, World.ownsRow_nil _ _ _ _, rfl⟩, (Keep2.refl _ _ _).setC (.inr (.inl rfl)) 2 _⟩
        (fun W t l ht hr hj hl => trap1_any W13 W g gr gmb gm _ _ _ _ _ _ a n cap bs t l HR13.out.sl HOM.out hg13 hm13 hmg hrg hbg hrm hbm hr hj (by omega))
      rw [HX5.out] at HT
      dsimp only at HT
      refine HT.mono ?_
      rintro e' W14 ⟨rfl, hr, ⟨hg, hb, ⟨v14, m14, hm14, ho14, hl14⟩, hk⟩⟩
      obtain ⟨ta, tc, rfl, -, -⟩ := Ss.ofOwn KT.cells_length (by decide) ho14
      have HG14 := Lib.hid hg
      have HB14 := Lib.hid hb
      have HM14 := Lib.hid hm14
      have HT14 := Lib.hid (own_mono ho14 HK13.out.size)
      have HTL := Lib.hid hl14
      have HK14 := Lib.hid (HK13.out.trans hk)
      have HC14 := Lib.hid (own_keep2 HC13.out hk hgl hml)
      have HR14 := Lib.hid hr
      replace hSw : BxS g gr gmb gm W14 := ⟨row_cell HB14.out 0 rfl, row_cell HG14.out 0 rfl⟩
      clear hr hg hb hm14 ho14 hl14 hk HT
      go_simp
      first | refine hK _ _ ?_ | refine ⟨hSw, hK _ _ ?_⟩
      clear hK K
      refine lexS_stir (EqW W14) (fun y hy => by rw [show y = W14 from hy]; exact hSw) rfl ?_
      refine stir_nil (fun y hy => ?_)
      obtain rfl : y = W14 := hy
      clear l0 l1 hSw
      go_wp2_with fail
      go_meet
      exact ⟨HG14, HB14, ta, tc, m14, HM14, HT14, HTL, HC14, HK14, HR14⟩
  case rest =>
    clear HG11 HB11 HM11 HK11 HR11 HC11
    obtain ⟨HG14, HB14, ta, tc, m14, HM14, HT14, HTL, HC14, HK14, HR14⟩ := hcut
    have q0 : wc.cell? ⟨gr, 0, none⟩ = some (.pointer (some ⟨g, 0, none⟩)) := row_cell HG14.out 0 rfl
    have HU := ku2_any wc g a n cap bs s6 HR14.out
    rw [HX6.out] at HU
    dsimp only at HU
    have HU := Lib.hid HU
    go_wp2_with fail
    refine HU.out.mono ?_
    rintro e' W15 ⟨rfl, hr, hk⟩
    have HG15 := Lib.hid (hk.blk HG14.out hrg)
    have HB15 := Lib.hid (hk.blk HB14.out hbg)
    have HM15 := Lib.hid (hk.blk HM14.out hmg)
    have HK15 := Lib.hid (HK14.out.trans (hk.two gm))
    have HC15 := Lib.hid (own_keep1 HC14.out hk hgl)
    have HT15 := Lib.hid (own_keep1 HT14.out hk hgl)
    have HR15 := Lib.hid hr
    clear hr hk HG14 HB14 HM14 HK14 HC14 HT14 HR14 q0 HU
    have q0 : W15.cell? ⟨gr, 0, none⟩ = some (.pointer (some ⟨g, 0, none⟩)) := row_cell HG15.out 0 rfl
    obtain ⟨p7, e7⟩ := s7
    by_cases hk0 : k = 0
    · have HSL := Lib.hid (show R = (⟨fl, nm, ds, st, lo, none, 0, 0, code, none, 0, 0, traps, none, 0, 0, []⟩, (p7, e7)) by rw [HSL.out]; unfold tailS; rw [if_pos (by omega)]; rfl)
      have g0 : ((k : Int) == 0) = true := by simp [hk0]
      clear hk0
      go_wp2_with fail
      go_end0
      rw [HSL.out]
      exact ⟨rfl, ⟨⟨fl, nm, ds, st, lo, ca, m10, cc, code, ta, m14, tc, traps, none, 0, 0, []⟩, rfl, HM15.out, ⟨HC15.out, HT15.out, World.ownsRow_nil _ _ _ _, fun p hp => by cases hp⟩⟩, HR15.out, HK15.out⟩
    · by_cases hk1 : k = 1
      · have HSL := Lib.hid (show R = (⟨fl, nm, ds, st, lo, none, 0, 0, code, none, 0, 0, traps, none, 0, 0, (sizedS bs (mapsS bs) (mustS bs 2 [(findT L [83, 116, 97, 99, 107, 77, 97, 112] : Int)] (p7, e7)).2).1⟩, (sizedS bs (mapsS bs) (mustS bs 2 [(findT L [83, 116, 97, 99, 107, 77, 97, 112] : Int)] (p7, e7)).2).2) by
          rw [HSL.out]; unfold tailS; rw [if_neg (by omega), if_pos (by omega)]; rfl)
        have g0 : ((k : Int) == 0) = false := by simp [hk0]
        have g1 : ((k : Int) == 1) = true := by simp [hk1]
        have HFI := Lib.hid (find_any W15.drew pa pn pc L sMap ((Ss.keep2 HLK.out HK15.out HLG.out HLM.out).below (Below.refl W15.heap.size W15).drew) hpn)
        unfold sMap at HFI
        clear hk0 hk1
        go_upto_region 8 with fail
        have hSw : OneC gr 0 (.pointer (some ⟨g, 0, none⟩)) W15.drew := q0
        have l0 := fun z (h : OneC gr 0 (.pointer (some ⟨g, 0, none⟩)) z) => (show z.cell? ⟨gr, 0, none⟩ = some (.pointer (some ⟨g, 0, none⟩)) from h)
        clear q0
        refine wp_region_lex (OneC gr 0 (.pointer (some ⟨g, 0, none⟩))) [(0, true), (1, true), (2, false), (3, false), (4, false)] (by kernel_rfl) (by kernel_rfl) (fun c a d v w h => by cases d <;> exact h) ?_
        iterate 2
          refine lex_step (fun K hK => ?_)
          simp only [lexOp, List.getElem?_toArray, List.getElem?_cons_succ, List.getElem?_cons_zero]
          rw [if_pos (by rfl)]
          apply Exists.intro
          refine ⟨fun w' hS' => ?_, hSw, ?_⟩
          · first | (go_simp <;> with_reducible rfl) | (go_simp; go_bits; with_reducible rfl)
          go_simp
          try go_bits
          refine hK _ _ ?_
          clear hK K
        refine lex_step (fun K hK => ?_)
        simp only [lexOp, List.getElem?_toArray, List.getElem?_cons_succ, List.getElem?_cons_zero]
        rw [if_pos (by rfl)]
        go_step
        refine HFI.out.mono ?_
        rintro e' W16 ⟨rfl, hb16⟩
        have hb := (Below.refl W15.heap.size W15).drew.trans hb16
        generalize findT L [83, 116, 97, 99, 107, 77, 97, 112] = fk at *
        have HG16 := Lib.hid (row_below HG15.out hb)
        have HB16 := Lib.hid (row_below HB15.out hb)
        have HM16 := Lib.hid (row_below HM15.out hb)
        have HK16 := Lib.hid (HK15.out.trans (Keep2.of hb))
        have HC16 := Lib.hid (own_below HC15.out hb)
        have HT16 := Lib.hid (own_below HT15.out hb)
        have HR16 := Lib.hid (HR15.out.below hb)
        replace hSw : OneC gr 0 (.pointer (some ⟨g, 0, none⟩)) W16 := row_cell HG16.out 0 rfl
        clear hb hb16 HG15 HB15 HM15 HK15 HC15 HT15 HR15 HFI
        go_simp
        first | refine hK _ _ ?_ | refine ⟨hSw, hK _ _ ?_⟩
        clear hK K
        refine lex_step (fun K hK => ?_)
        simp only [lexOp, List.getElem?_toArray, List.getElem?_cons_succ, List.getElem?_cons_zero]
        rw [if_pos (by rfl)]
        go_step
        refine ⟨cellS_below (below_1 _ _) hSw, hK _ _ ?_⟩
        clear hK K
        refine lex_step (fun K hK => ?_)
        simp only [lexOp, List.getElem?_toArray, List.getElem?_cons_succ, List.getElem?_cons_zero]
        rw [if_pos (by rfl)]
        go_step
        refine (must_lit W16 g a n cap bs (p7, e7) HR16.out 2 (by decide) (by decide) 1 [(fk : Int)] rfl (by decide)).mono ?_
        generalize (mustS bs 2 [(fk : Int)] (p7, e7)).2 = s8 at *
        rintro e' W17 ⟨rfl, hr, hk⟩
        have HG17 := Lib.hid (hk.blk HG16.out hrg)
        have HB17 := Lib.hid (hk.blk HB16.out hbg)
        have HM17 := Lib.hid (hk.blk HM16.out hmg)
        have HK17 := Lib.hid (HK16.out.trans (hk.two gm))
        have HC17 := Lib.hid (own_keep1 HC16.out hk hgl)
        have HT17 := Lib.hid (own_keep1 HT16.out hk hgl)
        have HR17 := Lib.hid hr
        replace hSw : OneC gr 0 (.pointer (some ⟨g, 0, none⟩)) W17 := row_cell HG17.out 0 rfl
        clear hr hk HG16 HB16 HM16 HK16 HC16 HT16 HR16
        go_simp
        first | refine hK _ _ ?_ | refine ⟨hSw, hK _ _ ?_⟩
        clear hK K
        refine lex_nil ?_
        clear l0 hSw
        have q0 : W17.cell? ⟨gr, 0, none⟩ = some (.pointer (some ⟨g, 0, none⟩)) := row_cell HG17.out 0 rfl
        have hg17 : g < W17.heap.size := Nat.lt_of_lt_of_le hgl HK17.out.size
        have hm17 : gm < W17.heap.size := Nat.lt_of_lt_of_le hml HK17.out.size
        have HJ := Lib.hid (show MpJ g gr gmb gm (.int .i64 fl) (.int .i64 nm) (.int .i64 ds) (.int .i64 st) (.int .i64 lo) (.slice ca m10 cc) (.slice ta m14 tc) W17 [] W17 from ⟨HG17.out, HB17.out, ⟨_, 0, [], HM17.out, World.ownsRow_nil _ _ _ _, rfl, rfl, fun p hp => by cases hp⟩, Keep2.refl _ _ _⟩)
        have HZ := Lib.hid (rsized_any (mapsS bs) (MpJ g gr gmb gm (.int .i64 fl) (.int .i64 nm) (.int .i64 ds) (.int .i64 st) (.int .i64 lo) (.slice ca m10 cc) (.slice ta m14 tc) W17) W17 g a n cap bs s8 HR17.out 70 enter_maps2 #[.pointer (some ⟨gr, 0, none⟩), .pointer (some ⟨gmb, 0, none⟩)]
          (fun W hr hk => maps2_any W17 W g gr gmb gm _ _ _ _ _ _ _ a n cap bs _ HR17.out.sl HOM.out hg17 hm17 hmg hrg hbg hrm hbm hr (HJ.out.keep1 hk hg17 hmg hrg hbg)))
        generalize sizedS bs (mapsS bs) s8 = R9 at *
        obtain ⟨maps, s9⟩ := R9
        dsimp only at HZ HSL
        go_wp2_with fail
        refine HZ.out.mono ?_
        rintro e' W19 ⟨rfl, hr, ⟨-, -, ⟨v19, m19, lw, hm19, ho19, hl19, hlw, hown⟩, hk⟩⟩
        obtain ⟨na, nc, rfl, -, -⟩ := Ss.ofOwn KP.cells_length (by decide) ho19
        go_wp2_with fail
        go_end0
        rw [HSL.out]
        have hll : m19 = lw.length := by rw [hl19, ← hlw, List.length_map]
        exact ⟨rfl, ⟨⟨fl, nm, ds, st, lo, ca, m10, cc, code, ta, m14, tc, traps, na, m19, nc, lw⟩, by unfold KM.p; rw [hlw], hm19, ⟨own_keep2 HC17.out hk hgl hml, own_keep2 HT17.out hk hgl hml, own_mono ho19 HK17.out.size, fun p hp => (hown p hp).mono HK17.out.size⟩⟩, hr, HK17.out.trans hk⟩
      · have HSL := Lib.hid (show R = (⟨fl, nm, ds, st, lo, none, 0, 0, code, none, 0, 0, traps, none, 0, 0, []⟩, (p7, 8)) by rw [HSL.out]; unfold tailS; rw [if_neg (show ¬ (k : Int) = 0 by omega), if_neg (show ¬ (k : Int) = 1 by omega)])
        have g0 : ((k : Int) == 0) = false := by simp [hk0]
        have g1 : ((k : Int) == 1) = false := beq_eq_false_iff_ne.2 (by omega)
        obtain ⟨c0, c1, c2, f0, f1, f2, lt⟩ := HR15.out.k.box
        clear hk0 hk1
        go_wp2_with fail
        go_end0
        rw [HSL.out]
        exact ⟨rfl, ⟨⟨fl, nm, ds, st, lo, ca, m10, cc, code, ta, m14, tc, traps, none, 0, 0, []⟩, rfl, heap_other HM15.out hmg 2 _, ⟨own_setG HC15.out hgl 2 _, own_setG HT15.out hgl 2 _, World.ownsRow_nil _ _ _ _, fun p hp => by cases hp⟩⟩, HR15.out.bad 8 (by decide), HK15.out.setC (.inr (.inl rfl)) 2 _⟩
end Go.Proofs.Ytnfhiakdbakpgaa
