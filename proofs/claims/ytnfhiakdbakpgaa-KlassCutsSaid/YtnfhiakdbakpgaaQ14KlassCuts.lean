/- klass: the reader's next, must and bytes. No condition. -/
import Derived.Test.YtnfhiakdbakpgaaQ13KlassCuts
import Derived.OwnWalk
namespace Go.Proofs.Ytnfhiakdbakpgaa
open Go.ChangeShapes Go.WideShapes Go.ChangeAt Go.RowKit
def EqW (x y : World) : Prop := y = x
theorem Blk3.set1 {w : World} {g : Nat} {x y z v : Value} {t : TypeId} (h : Blk3 w g x y z t) : Blk3 (w.setCell ⟨g, 1, none⟩ v) g x v z t := heap_set3 h 1 v
theorem Blk3.set2 {w : World} {g : Nat} {x y z v : Value} {t : TypeId} (h : Blk3 w g x y z t) : Blk3 (w.setCell ⟨g, 2, none⟩ v) g x y v t := heap_set3 h 2 v
/-- A reader in block g over bytes. -/
structure RdS (w : World) (g : Nat) (a : Option Addr) (n cap : Nat) (bs : List UInt8) (s : St) : Prop where
  k : Blk3 w g (.slice a n cap) (.int .i64 (s.1 : Nat)) (.int .i64 s.2) 77
  sl : Sl encB w a n bs
  off : Off1 a n g
  le : n ≤ cap
  sm : n ≤ 1048500
  ok : StOk n s
theorem RdS.below {w w' : World} {g : Nat} {a : Option Addr} {n cap : Nat} {bs : List UInt8} {s : St} (h : RdS w g a n cap bs s) (hb : Below w.heap.size w w') : RdS w' g a n cap bs s := ⟨h.k.below hb, h.sl.below hb, h.off, h.le, h.sm, h.ok⟩
theorem RdS.lt {w : World} {g : Nat} {a : Option Addr} {n cap : Nat} {bs : List UInt8} {s : St} (h : RdS w g a n cap bs s) : g < w.heap.size := h.k.box.lt
theorem RdS.bad {w : World} {g : Nat} {a : Option Addr} {n cap : Nat} {bs : List UInt8} {s : St} (h : RdS w g a n cap bs s) (e : Int) (he : e ≠ 0) : RdS (w.setCell ⟨g, 2, none⟩ (.int .i64 e)) g a n cap bs (s.1, e) :=
  ⟨h.k.set2, h.sl.keep1 ((Keep1.refl g w).set 2 _) h.off, h.off, h.le, h.sm, ⟨fun h => absurd h he, h.ok.2⟩⟩
/-- What a reading leaves. -/
def GotRet (g : Nat) (a : Option Addr) (n cap : Nat) (bs : List UInt8) (v : Value) (s : St) (w : World) (e : Ending) (w' : World) : Prop := e = .returned v ∧ RdS w' g a n cap bs s ∧ Keep1 g w w'
set_option maxRecDepth 100000 in
set_option maxHeartbeats 8000000 in
theorem next_kl (w : World) (g : Nat) (a : Option Addr) (n cap : Nat) (bs : List UInt8) (s : St) (h : RdS w g a n cap bs s) (m : Nat) (h1 : 1 ≤ m) (h4 : m ≤ 4) :
    Calls Try.prog 65 #[.pointer (some ⟨g, 0, none⟩), .int .i64 m] w (GotRet g a n cap bs (.int .i64 (getS bs m s).1) (getS bs m s).2 w) := by
  obtain ⟨p, er⟩ := s
  by_cases h0 : er = 0
  case neg =>
    have HG := Lib.hid (show getS bs m (p, er) = (0, (p, er)) by unfold getS; rw [if_pos h0])
    rw [HG.out]
    have en : (er != 0) = true := by simp [h0]
    have H := Lib.hid h
    obtain ⟨c0, c1, c2, f0, f1, f2, lt⟩ := h.k.box
    simp only at c1 c2
    clear h h0
    go_enter Try.func65, Try.ntmps65
    go_wp2_with fail
    go_ret
    exact ⟨rfl, H.out, Keep1.refl _ _⟩
  subst h0
  have hl := h.sl.1
  have hok := getS_ok bs m h1 (by omega) (p, 0) (by rw [hl]; exact h.ok)
  have hv := getR_val bs p m h4
  have HG := Lib.hid (show getS bs m (p, 0) = ((getR bs p m).1, (p + m, (getR bs p m).2)) by unfold getS; rw [if_neg (by simp)])
  rw [HG.out] at hok ⊢
  rw [hl] at hok
  have hp : p ≤ n := h.ok.1 rfl
  have hsm := h.sm
  have hle := h.le
  have HGA := Lib.hid (fun w' (hs : Sl encB w' a n bs) => Get_any w' a n cap bs p m hs (by omega) hle (by unfold IntR; omega) (by unfold IntR; omega))
  have H := Lib.hid h
  have HOK := Lib.hid hok
  generalize (getR bs p m).1 = v at *
  generalize (getR bs p m).2 = er at *
  clear h hok hl HG
  obtain ⟨c0, c1, c2, f0, f1, f2, lt⟩ := H.out.k.box
  simp only at c1 c2
  obtain ⟨u, hu, hu2⟩ : ∃ u : Nat, v = (u : Int) ∧ u < 4294967296 := ⟨v.toNat, by omega, by omega⟩
  subst hu
  have HSW := Lib.hid (H.out.sl.below (Below.refl w.heap.size w).drew)
  go_enter Try.func65, Try.ntmps65
  go_upto_region 3 with fail
  have l0 := fun z (h : EqW w.drew z) => (show z.cell? ⟨g, 0, none⟩ = some (.slice a n cap) by rw [show z = w.drew from h]; exact c0)
  have l1 := fun z (h : EqW w.drew z) => (show z.cell? ⟨g, 1, none⟩ = some (.int .i64 (p : Nat)) by rw [show z = w.drew from h]; exact c1)
  have hSw : EqW w.drew w.drew := rfl
  refine wp_region_lexS (EqW w.drew) (.stir [(0, true), (1, true), (2, true), (3, true), (4, true), (5, true), (6, true), (7, true), (8, true), (9, false), (10, true), (11, true), (12, true), (13, true), (14, true)]) (by kernel_rfl) (by kernel_rfl) (fun c a d v w h => by cases d <;> exact h) ?_
  refine lexS_stir (EqW w.drew) (fun y hy => hy) rfl ?_
  clear c0 c1 c2 f0 f1 f2 lt
  iterate 9
    refine stir_step (fun K hK => ?_)
    simp only [stirOp, List.getElem?_toArray, List.getElem?_cons_succ, List.getElem?_cons_zero]
    rw [if_pos (by rfl)]
    apply Exists.intro
    refine ⟨fun w' hS' => ?_, ?_⟩
    · first | (go_simp <;> with_reducible rfl) | (go_simp; go_bits; with_reducible rfl)
    go_simp
    try go_bits
    refine hK _ ?_
    clear hK K
  refine stir_step (fun K hK => ?_)
  simp only [stirOp, List.getElem?_toArray, List.getElem?_cons_succ, List.getElem?_cons_zero]
  rw [if_pos (by rfl)]
  apply Exists.intro
  refine ⟨fun w' hS' => ?_, ?_⟩
  · go_simp
    exact Stirs.call (Calls.mono (HGA.out w' (by rw [show w' = w.drew from hS']; exact HSW.out)) fun e w'' h => ⟨h.1, (fun hb'' => (by rw [← hb'']; exact hS')) h.2⟩)
  go_simp
  refine hK _ ?_
  clear hK K
  iterate 5
    refine stir_step (fun K hK => ?_)
    simp only [stirOp, List.getElem?_toArray, List.getElem?_cons_succ, List.getElem?_cons_zero]
    rw [if_pos (by rfl)]
    apply Exists.intro
    refine ⟨fun w' hS' => ?_, ?_⟩
    · first | (go_simp <;> with_reducible rfl) | (go_simp; go_bits; with_reducible rfl)
    go_simp
    try go_bits
    refine hK _ ?_
    clear hK K
  refine stir_nil (fun y hy => ?_)
  obtain rfl : y = w.drew := hy
  clear l0 l1 hSw
  have HK := Lib.hid (show Blk3 w.drew g (.slice a n cap) (.int .i64 (p : Nat)) (.int .i64 0) 77 from H.out.k)
  have HKP := Lib.hid (Keep1.refl g w).drew
  have HO := Lib.hid H.out.off
  clear H HGA
  generalize w.drew = W1 at *
  obtain ⟨c0, c1, c2, f0, f1, f2, lt⟩ := HK.out.box
  go_wp2_with fail
  go_ret
  have hpm : ((p : Int) + (m : Int)) = ((p + m : Nat) : Int) := by omega
  rw [hpm]
  exact ⟨rfl, ⟨HK.out.set1.set2, (HSW.out.keep1 (((Keep1.refl g W1).set 1 _).set 2 _) HO.out), HO.out, hle, hsm, HOK.out⟩, (HKP.out.set 1 _).set 2 _⟩
set_option maxRecDepth 100000 in
set_option maxHeartbeats 4000000 in
theorem ku2_any (w : World) (g : Nat) (a : Option Addr) (n cap : Nat) (bs : List UInt8) (s : St) (h : RdS w g a n cap bs s) :
    Calls Try.prog 34 #[.pointer (some ⟨g, 0, none⟩)] w (GotRet g a n cap bs (.int .i64 (getS bs 2 s).1) (getS bs 2 s).2 w) := by
  have HP := Lib.hid (next_kl w g a n cap bs s h 2 (by omega) (by omega))
  go_enter Try.func34, Try.ntmps34
  go_wp2_with fail
  refine HP.out.mono ?_
  rintro e' W1 ⟨rfl, hr⟩
  go_wp2_with fail
  go_ret
  exact ⟨rfl, hr⟩
theorem Sl.part {w : World} {b off n p m : Nat} {bs : List UInt8} (h : Sl encB w (some ⟨b, off, none⟩) n bs) (hm : p + m ≤ n) : Sl encB w (some ⟨b, off + p, none⟩) m ((bs.drop p).take m) := by
  refine ⟨by rw [List.length_take, List.length_drop, h.1]; omega, fun hn => ?_⟩
  obtain ⟨b', off', ha, hlt, hc⟩ := h.2 (by omega)
  cases ha
  refine ⟨b, off + p, rfl, hlt, fun i hi => ?_⟩
  have hi2 : i < m := by rw [List.length_take] at hi; omega
  rw [Nat.add_assoc, hc (p + i) (by rw [h.1]; omega)]
  simp
end Go.Proofs.Ytnfhiakdbakpgaa
/- klass: the reader's must, bytes, times and sized. No condition. -/
namespace Go.Proofs.Ytnfhiakdbakpgaa
open Go.ChangeShapes Go.WideShapes Go.ChangeAt Go.RowKit
theorem fold_takeK {α β : Type} (f : β → α → β) (l : List α) (j : Nat) (v : α) (s : β) (h : l[j]? = some v) : (l.take (j + 1)).foldl f s = f ((l.take j).foldl f s) v := by
  obtain ⟨hj, he⟩ := List.getElem?_eq_some_iff.1 h
  rw [List.take_succ_eq_append_getElem hj, List.foldl_append, he]
  rfl
set_option maxRecDepth 100000 in
set_option maxHeartbeats 8000000 in
theorem must_any (w : World) (g : Nat) (a : Option Addr) (n cap : Nat) (bs : List UInt8) (s : St) (h : RdS w g a n cap bs s) (m : Nat) (h1 : 1 ≤ m) (h4 : m ≤ 4) (za : Option Addr) (zn zc : Nat) (l : List Int) (hz : Sl encZ w za zn l) (ho : Off1 za zn g) (hzn : zn ≤ 1000) :
    Calls Try.prog 32 #[.pointer (some ⟨g, 0, none⟩), .int .i64 m, .slice za zn zc] w (GotRet g a n cap bs (.tuple #[]) (mustS bs m l s).2 w) := by
  have H := Lib.hid h
  have HZ := Lib.hid hz
  have HZn := Lib.hid hz.1
  have HO := Lib.hid ho
  unfold mustS
  clear h hz ho
  go_enter Try.func32, Try.ntmps32
  go_wp2_with fail
  go_loopg [11] zn (fun gn i wr => ∃ j : Nat, j ≤ zn ∧ gn = zn - j ∧ i = .int .i64 j ∧ Hid (RdS wr g a n cap bs ((l.take j).foldl (mustOne bs m) s)) ∧ Hid (Keep1 g w wr))
  case atStart => exact ⟨0, by omega, by omega, by go_num, Lib.hid (by simpa using H.out), Lib.hid (Keep1.refl _ _)⟩
  case round =>
    obtain ⟨j, hj, rfl, rfl, HL, HK⟩ := hrel
    by_cases hlt : j < zn
    · obtain ⟨b, off, x, rfl, _, hv, q0⟩ := (HZ.out.keep1 HK.out HO.out).getZ j hlt
      have HA := Lib.hid (show (l.take (j + 1)).foldl (mustOne bs m) s = mustOne bs m ((l.take j).foldl (mustOne bs m) s) x from fold_takeK _ _ _ _ _ hv)
      generalize (l.take j).foldl (mustOne bs m) s = t at *
      clear hv
      have HN := Lib.hid (next_kl wr g a n cap bs t HL.out m h1 h4)
      have HM := Lib.hid (show mustOne bs m t x = if (getS bs m t).2.2 = 0 ∧ (getS bs m t).1 ≠ x then ((getS bs m t).2.1, 8) else (getS bs m t).2 from rfl)
      generalize (getS bs m t).1 = v at *
      generalize (getS bs m t).2 = t1 at *
      obtain ⟨p1, e1⟩ := t1
      dsimp only at HM
      have hj1 : (j : Int) < zn := by omega
      go_wp2_with fail
      refine HN.out.mono ?_
      rintro e' W1 ⟨rfl, hr1, hk1⟩
      have HR1 := Lib.hid hr1
      have HK1 := Lib.hid (HK.out.trans hk1)
      clear hr1 hk1 HN HL HK q0
      obtain ⟨c0, c1, c2, f0, f1, f2, lt⟩ := HR1.out.k.box
      simp only at c1 c2
      by_cases h0 : e1 = 0
      · by_cases hv : v = x
        · have HM := Lib.hid (show mustOne bs m t x = (p1, e1) by rw [HM.out, if_neg (fun h => h.2 hv)])
          subst hv
          have g1 : (e1 == 0) = true := by simp [h0]
          have g2 : (v != v) = false := by simp
          clear h0
          go_wp2_with fail
          go_roundg (zn - (j + 1))
          case measure => omega
          case rel => exact ⟨j + 1, by omega, rfl, by go_num, Lib.hid (by rw [HA.out, HM.out]; exact HR1.out), HK1⟩
        · have HM := Lib.hid (show mustOne bs m t x = (p1, 8) by rw [HM.out, if_pos ⟨h0, hv⟩])
          have g1 : (e1 == 0) = true := by simp [h0]
          have g2 : (v != x) = true := by simp [hv]
          clear h0 hv
          go_wp2_with fail
          go_roundg (zn - (j + 1))
          case measure => omega
          case rel => exact ⟨j + 1, by omega, rfl, by go_num, Lib.hid (by rw [HA.out, HM.out]; exact HR1.out.bad 8 (by decide)), Lib.hid (HK1.out.set 2 _)⟩
      · have HM := Lib.hid (show mustOne bs m t x = (p1, e1) by rw [HM.out, if_neg (fun h => h0 h.1)])
        have g1 : (e1 == 0) = false := by simp [h0]
        clear h0
        go_wp2_with fail
        go_roundg (zn - (j + 1))
        case measure => omega
        case rel => exact ⟨j + 1, by omega, rfl, by go_num, Lib.hid (by rw [HA.out, HM.out]; exact HR1.out), HK1⟩
    · obtain rfl : j = zn := by omega
      have HE := Lib.hid (show l.take j = l by rw [List.take_of_length_le (by rw [HZn.out]; exact Nat.le_refl _)])
      rw [HE.out] at HL
      go_wp2_with fail
      go_end0
      exact ⟨rfl, HL.out, HK.out⟩
theorem must_lit (w : World) (g : Nat) (a : Option Addr) (n cap : Nat) (bs : List UInt8) (s : St) (h : RdS w g a n cap bs s) (m : Nat) (h1 : 1 ≤ m) (h4 : m ≤ 4) (k : Nat) (l : List Int) (hk : k = l.length) (hzn : k ≤ 1000) :
    Calls Try.prog 32 #[.pointer (some ⟨g, 0, none⟩), .int .i64 m, .slice (some ⟨w.heap.size, 0, none⟩) k k] (w.alloc (.cells (l.map encZ).toArray 3)) (GotRet g a n cap bs (.tuple #[]) (mustS bs m l s).2 w) :=
  (must_any _ g a n cap bs s (h.below (below_1 _ _)) m h1 h4 _ k k l (Sl.litZ w k l 3 hk) (Off1.new (Nat.ne_of_lt h.lt)) hzn).mono fun _ _ q => ⟨q.1, q.2.1, (Keep1.of (below_1 _ _)).trans q.2.2⟩
/-- What sized and times do when a length is wrong. -/
theorem badS_eq {b : St → Bool} {s : St} : (badS b s).2 = if s.2 = 0 ∧ b s = true then (s.1, 8) else s := by unfold badS; split <;> rfl
set_option maxRecDepth 100000 in
set_option maxHeartbeats 8000000 in
/-- times: J tells what the callback has gathered. -/
theorem times_any {α : Type} (one : RM α) (J : List α → World → Prop) (w : World) (g : Nat) (a : Option Addr) (n cap : Nat) (bs : List UInt8) (s : St) (h : RdS w g a n cap bs s) (k : Nat) (hk : k ≤ 65535) (most : Int) (fn : FuncId) (hen : ∀ (args : Array Value) (W : World), (callFunc fn args).run Try.prog W = .ok (.enter fn args) W) (caps : Array Value)
    (h0 : J [] w) (h8 : J [] (w.setCell ⟨g, 2, none⟩ (.int .i64 8)))
    (hstep : ∀ (W : World) (t : St) (l : List α), t.2 = 0 → RdS W g a n cap bs t → J l W → l.length < k → Calls Try.prog fn caps W fun e W' => e = .returned (.tuple #[]) ∧ RdS W' g a n cap bs (one t).2 ∧ J (l ++ [(one t).1]) W') :
    Calls Try.prog 35 #[.pointer (some ⟨g, 0, none⟩), .int .i64 k, .int .i64 most, .func (.func fn) #[] caps] w fun e w' => e = .returned (.tuple #[]) ∧ RdS w' g a n cap bs (timesS most one k s).2 ∧ J (timesS most one k s).1 w' := by
  have HST := Lib.hid hstep
  have H := Lib.hid h
  have H0 := Lib.hid h0
  have H8 := Lib.hid h8
  obtain ⟨R, hR⟩ : ∃ R, R = timesS most one k s := ⟨_, rfl⟩
  rw [← hR]
  have HR := Lib.hid (show R = rowS one k (if s.2 = 0 ∧ most < k then (s.1, 8) else s) by rw [hR]; unfold timesS bindR; rw [badS_eq]; simp)
  clear hstep h h0 h8 hR
  obtain ⟨p, er⟩ := s
  obtain ⟨c0, c1, c2, f0, f1, f2, lt⟩ := H.out.k.box
  simp only at c1 c2
  go_enter Try.func35, Try.ntmps35
  have HB := Lib.hid (show R = rowS one k (if decide (er = 0 ∧ most < (k : Int)) = true then (p, 8) else (p, er)) by rw [HR.out]; simp only [decide_eq_true_eq])
  have HBZ := Lib.hid (show decide (er = 0 ∧ most < (k : Int)) = ((er == 0) && decide (most < (k : Int))) by rw [Bool.decide_and]; rfl)
  generalize decide (er = 0 ∧ most < (k : Int)) = bb at *
  clear HR
  go_upto_region 0 with fail
  go_cut [17] (fun r wx => r = .bool bb ∧ wx = w)
  case first =>
    by_cases h0 : er = 0
    · have e0 : (er == 0) = true := by simp [h0]
      have HBZ := Lib.hid (show bb = decide (most < (k : Int)) by rw [HBZ.out, e0, Bool.true_and])
      clear h0
      go_wp2_with fail
      go_meet
      exact ⟨by rw [HBZ.out], rfl⟩
    · have e0 : (er == 0) = false := by simp [h0]
      have HBZ := Lib.hid (show bb = false by rw [HBZ.out, e0, Bool.false_and])
      clear h0
      go_wp2_with fail
      go_meet
      exact ⟨by rw [HBZ.out], rfl⟩
  case rest =>
    obtain ⟨rfl, rfl⟩ := hcut
    clear HBZ
    obtain ⟨s0, hs0⟩ : ∃ s0 : St, s0 = if bb = true then (p, 8) else (p, er) := ⟨_, rfl⟩
    have HB := Lib.hid (show R = rowS one k s0 by rw [HB.out, hs0])
    have HS0 := Lib.hid hs0
    clear hs0
    go_upto_if 17 with fail
    go_cut [] (fun wx => Hid (RdS wx g a n cap bs s0) ∧ Hid (J [] wx))
    case first =>
      cases bb
      · have HS0 := Lib.hid (show s0 = (p, er) from HS0.out)
        go_wp2_with fail
        go_meet
        exact ⟨Lib.hid (by rw [HS0.out]; exact H.out), H0⟩
      · have HS0 := Lib.hid (show s0 = (p, 8) from HS0.out)
        go_wp2_with fail
        go_meet
        exact ⟨Lib.hid (by rw [HS0.out]; exact H.out.bad 8 (by decide)), H8⟩
    case rest =>
      clear c0 c1 c2 f0 f1 f2 lt H H0 H8 HS0
      obtain ⟨HR0, HJ0⟩ := hcut
      go_wp2_with fail
      go_loopg [1] k (fun gn i wr => ∃ (r : Nat) (l : List α) (t : St), r ≤ k ∧ gn = r ∧ i = .int .i64 r ∧ Hid (l.length + r = k) ∧ Hid (R = (l ++ (rowS one r t).1, (rowS one r t).2)) ∧ Hid (RdS wr g a n cap bs t) ∧ Hid (J l wr))
      case atStart => exact ⟨k, [], s0, by omega, rfl, rfl, Lib.hid (by simp), Lib.hid (by simpa using HB.out), HR0, HJ0⟩
      case round =>
        clear HR0 HJ0 HB
        obtain ⟨r, l, t, hr, hgn, rfl, HL, HRE, HR1, HJ1⟩ := hrel
        have HGN := Lib.hid hgn
        clear hgn
        obtain ⟨p1, e1⟩ := t
        obtain ⟨c0, c1, c2, f0, f1, f2, lt⟩ := HR1.out.k.box
        simp only at c1 c2
        cases r with
        | zero =>
          have HRE := Lib.hid (show R = (l, (p1, e1)) by rw [HRE.out]; simp [rowS, pureR])
          go_wp2_with fail
          go_end0
          exact ⟨rfl, by rw [HRE.out]; exact HR1.out, by rw [HRE.out]; exact HJ1.out⟩
        | succ q =>
          have g0 : decide (0 < q + 1) = true := by simp
          have g1 : decide ((0 : Int) < ((q + 1 : Nat) : Int)) = true := decide_eq_true (by omega)
          by_cases h0 : e1 = 0
          · have e0 : (e1 == 0) = true := by simp [h0]
            have HRE := Lib.hid (show R = (l ++ [(one (p1, e1)).1] ++ (rowS one q (one (p1, e1)).2).1, (rowS one q (one (p1, e1)).2).2) by
              rw [HRE.out]
              simp only [rowS]
              rw [if_neg (by simp [h0])]
              simp)
            have HC := Lib.hid (HST.out wr (p1, e1) l h0 HR1.out HJ1.out (by have := HL.out; omega))
            have HL2 := Lib.hid (show (l ++ [(one (p1, e1)).1]).length + q = k by rw [List.length_append]; have := HL.out; simp; omega)
            generalize (one (p1, e1)).1 = x at *
            generalize (one (p1, e1)).2 = t2 at *
            obtain ⟨m, hm⟩ : ∃ m, m = q + 1 := ⟨_, rfl⟩
            have hm1 : (m : Int) - 1 = q := by omega
            rw [← hm] at g0 g1
            rw [← hm]
            have hq : q + 1 ≤ 65535 := by omega
            have HM := Lib.hid hm
            clear h0 hm
            go_wp2_with fail
            refine HC.out.mono ?_
            rintro e' W2 ⟨rfl, hr2, hj2⟩
            go_wp2_with fail
            go_roundg q
            case measure => have h1 := HGN.out; have h2 := HM.out; omega
            case rel => exact ⟨q, l ++ [x], t2, by omega, rfl, by go_num, HL2, HRE, Lib.hid hr2, Lib.hid hj2⟩
          · have e0 : (e1 == 0) = false := by simp [h0]
            have HRE := Lib.hid (show R = (l, (p1, e1)) by rw [HRE.out]; simp only [rowS]; rw [if_pos h0]; simp)
            obtain ⟨m, hm⟩ : ∃ m, m = q + 1 := ⟨_, rfl⟩
            rw [← hm] at g0 g1
            rw [← hm]
            clear h0 hm
            go_wp2_with fail
            go_end0
            exact ⟨rfl, by rw [HRE.out]; exact HR1.out, by rw [HRE.out]; exact HJ1.out⟩
set_option maxRecDepth 100000 in
set_option maxHeartbeats 8000000 in
/-- sized: J tells what the callback has gathered. -/
theorem rsized_any {α : Type} (one : RM α) (J : α → World → Prop) (w : World) (g : Nat) (a : Option Addr) (n cap : Nat) (bs : List UInt8) (s : St) (h : RdS w g a n cap bs s) (fn : FuncId) (hen : ∀ (args : Array Value) (W : World), (callFunc fn args).run Try.prog W = .ok (.enter fn args) W) (caps : Array Value)
    (hstep : ∀ (W : World), RdS W g a n cap bs (getS bs 4 s).2 → Keep1 g w W → Calls Try.prog fn caps W fun e W' => e = .returned (.tuple #[]) ∧ RdS W' g a n cap bs (one (getS bs 4 s).2).2 ∧ J (one (getS bs 4 s).2).1 W' ∧ J (one (getS bs 4 s).2).1 (W'.setCell ⟨g, 2, none⟩ (.int .i64 8))) :
    Calls Try.prog 38 #[.pointer (some ⟨g, 0, none⟩), .func (.func fn) #[] caps] w fun e w' => e = .returned (.tuple #[]) ∧ RdS w' g a n cap bs (sizedS bs one s).2 ∧ J (sizedS bs one s).1 w' := by
  have HST := Lib.hid hstep
  have HN := Lib.hid (next_kl w g a n cap bs s h 4 (by decide) (by decide))
  have HV := Lib.hid (getS_val bs 4 (by decide) s)
  obtain ⟨R, hR⟩ : ∃ R, R = sizedS bs one s := ⟨_, rfl⟩
  rw [← hR]
  have HR := Lib.hid (show R = if (one (getS bs 4 s).2).2.2 = 0 ∧ (((one (getS bs 4 s).2).2.1 : Int) - ((getS bs 4 s).2.1 : Int)) ≠ (getS bs 4 s).1 then ((one (getS bs 4 s).2).1, ((one (getS bs 4 s).2).2.1, 8)) else one (getS bs 4 s).2 from hR)
  clear hstep h hR
  generalize (getS bs 4 s).1 = v at *
  generalize (getS bs 4 s).2 = s1 at *
  obtain ⟨x, s2, hone⟩ : ∃ x s2, one s1 = (x, s2) := ⟨_, _, rfl⟩
  rw [hone] at HST HR
  clear hone
  obtain ⟨p1, e1⟩ := s1
  obtain ⟨p2, e2⟩ := s2
  dsimp only at HST HR
  go_enter Try.func38, Try.ntmps38
  go_wp2_with fail
  refine HN.out.mono ?_
  rintro e' W1 ⟨rfl, hr1, hk1⟩
  have HC := Lib.hid (HST.out W1 hr1 hk1)
  have hp1 := hr1.ok.2
  have hsm := hr1.sm
  obtain ⟨c0, c1, c2, f0, f1, f2, lt⟩ := hr1.k.box
  simp only at c1 c2 hp1
  clear hr1 hk1 HST HN
  go_wp2_with fail
  clear c0 c1 c2 f0 f1 f2 lt
  refine HC.out.mono ?_
  rintro e' W2 ⟨rfl, hr2, hj2, hj8⟩
  have HR2 := Lib.hid hr2
  have HJ2 := Lib.hid hj2
  have HJ8 := Lib.hid hj8
  have hp2 := hr2.ok.2
  obtain ⟨c0, c1, c2, f0, f1, f2, lt⟩ := hr2.k.box
  simp only at c1 c2 hp2
  clear hr2 hj2 hj8 HC
  have hv0 := HV.out
  by_cases h0 : e2 = 0
  · by_cases hd : (p2 : Int) - (p1 : Int) = v
    · have HR := Lib.hid (show R = (x, (p2, e2)) by rw [HR.out, if_neg (fun h => h.2 hd)])
      have g1 : (e2 == 0) = true := by simp [h0]
      have g2 : ((p2 : Int) - (p1 : Int) != v) = false := by simp [hd]
      clear h0 hd
      go_wp2_with fail
      go_end0
      exact ⟨rfl, by rw [HR.out]; exact HR2.out, by rw [HR.out]; exact HJ2.out⟩
    · have HR := Lib.hid (show R = (x, (p2, 8)) by rw [HR.out, if_pos ⟨h0, hd⟩])
      have g1 : (e2 == 0) = true := by simp [h0]
      have g2 : ((p2 : Int) - (p1 : Int) != v) = true := by simp [hd]
      clear h0 hd
      go_wp2_with fail
      go_end0
      exact ⟨rfl, by rw [HR.out]; exact HR2.out.bad 8 (by decide), by rw [HR.out]; exact HJ8.out⟩
  · have HR := Lib.hid (show R = (x, (p2, e2)) by rw [HR.out, if_neg (fun h => h0 h.1)])
    have g1 : (e2 == 0) = false := by simp [h0]
    clear h0
    go_wp2_with fail
    go_end0
    exact ⟨rfl, by rw [HR.out]; exact HR2.out, by rw [HR.out]; exact HJ2.out⟩
end Go.Proofs.Ytnfhiakdbakpgaa
/- klass: the reader's bytes. No condition. -/
namespace Go.Proofs.Ytnfhiakdbakpgaa
open Go.ChangeShapes Go.WideShapes Go.ChangeAt Go.RowKit
/-- What a reading of a row leaves. -/
def RowRet (g : Nat) (a : Option Addr) (n cap : Nat) (bs : List UInt8) (xs : List UInt8) (s : St) (w : World) (e : Ending) (w' : World) : Prop := ∃ v m, e = .returned v ∧ w'.ownsRow w.heap.size 5 1 v m (xs.map encB) ∧ RdS w' g a n cap bs s ∧ Keep1 g w w'
theorem bdrewK {B : Nat} {w w' : World} (h : Below B w w') (n : Nat) : Below B w (w'.drewN n) := ⟨h.os, h.tape, h.output, h.size, h.block⟩
set_option maxRecDepth 100000 in
set_option maxHeartbeats 8000000 in
theorem bytes_any (w : World) (g : Nat) (a : Option Addr) (n cap : Nat) (bs : List UInt8) (s : St) (h : RdS w g a n cap bs s) (h0n : 0 < n) (u : Nat) (hu : u < 4294967296) :
    Calls Try.prog 68 #[.pointer (some ⟨g, 0, none⟩), .int .i64 u] w (RowRet g a n cap bs (bytesS bs u s).1 (bytesS bs u s).2 w) := by
  have hst : StOk n s := h.ok
  obtain ⟨p, er⟩ := s
  have H := Lib.hid h
  have HGL := Lib.hid h.lt
  have HK := Lib.hid (Keep1.refl g w)
  have hsm := h.sm
  have hle := h.le
  obtain ⟨c0, c1, c2, f0, f1, f2, lt⟩ := h.k.box
  simp only at c1 c2
  clear h
  generalize hW1 : w = W1 at H HK c0 c1 c2 f0 f1 f2 lt ⊢
  have HW1 := Lib.hid hW1
  clear hW1
  go_enter Try.func68, Try.ntmps68
  go_upto_region 1 with fail
  by_cases h0 : er = 0
  case neg =>
    have HT := Lib.hid (show bytesS bs u (p, er) = ([], (p, er)) by unfold bytesS; rw [if_pos h0])
    have en : (er != 0) = true := by simp [h0]
    have ee : (er == 0) = false := by simp [h0]
    clear h0
    have c0' := fun n => (show (W1.drewN n).cell? ⟨g, 0, none⟩ = some (.slice a _ cap) from c0)
    have c1' := fun n => (show (W1.drewN n).cell? ⟨g, 1, none⟩ = some (.int .i64 (p : Nat)) from c1)
    have c2' := fun n => (show (W1.drewN n).cell? ⟨g, 2, none⟩ = some (.int .i64 er) from c2)
    go_quiet (fail)
    have HR2 := Lib.hid (H.out.below (bdrewK (Below.refl W1.heap.size W1) nq))
    have HK2 := Lib.hid ((Keep1.refl g W1).drewN nq)
    clear c0 c1 c2 f0 f1 f2 lt c0' c1' c2' H HK
    have HZ := Lib.hid (show W1.heap.size ≤ (W1.drewN nq).heap.size from HK2.out.size)
    generalize W1.drewN nq = W2 at *
    obtain ⟨c0, c1, c2, f0, f1, f2, lt⟩ := HR2.out.k.box
    simp only at c2
    go_wp2_with fail
    go_ret
    rw [HT.out]
    exact ⟨_, 0, rfl, World.ownsRow_nil _ _ _ _, HR2.out, HK2.out⟩
  subst h0
  have hp : p ≤ n := hst.1 rfl
  obtain ⟨b, off, rfl, _, _⟩ := H.out.sl.2 h0n
  by_cases hs : (n : Int) - (p : Int) < u
  · have HT := Lib.hid (show bytesS bs u (p, 0) = ([], (p, 6)) by unfold bytesS; rw [if_neg (by simp), if_pos (by rw [H.out.sl.1]; exact hs)])
    have ed := decide_eq_true hs
    clear hs
    go_quiet (fail)
    have HR2 := Lib.hid (H.out.below (bdrewK (Below.refl W1.heap.size W1) nq))
    have HK2 := Lib.hid ((Keep1.refl g W1).drewN nq)
    clear c0 c1 c2 f0 f1 f2 lt H HK
    generalize W1.drewN nq = W2 at *
    obtain ⟨c0, c1, c2, f0, f1, f2, lt⟩ := HR2.out.k.box
    simp only at c1 c2
    go_wp2_with fail
    go_ret
    rw [HT.out]
    exact ⟨_, 0, rfl, World.ownsRow_nil _ _ _ _, HR2.out.bad 6 (by decide), HK2.out.set 2 _⟩
  · have hpu : p + u ≤ n := by omega
    have HT := Lib.hid (show bytesS bs u (p, 0) = ((bs.drop p).take u, (p + u, 0)) by unfold bytesS; rw [if_neg (by simp), if_neg (by rw [H.out.sl.1]; exact hs)]; rfl)
    have ed := decide_eq_false hs
    clear hs
    go_quiet (fail)
    have HR2 := Lib.hid (H.out.below (bdrewK (Below.refl W1.heap.size W1) nq))
    have HK2 := Lib.hid ((Keep1.refl g W1).drewN nq)
    clear c0 c1 c2 f0 f1 f2 lt H HK ed
    have HZ := Lib.hid (show W1.heap.size ≤ (W1.drewN nq).heap.size from HK2.out.size)
    generalize W1.drewN nq = W2 at *
    obtain ⟨c0, c1, c2, f0, f1, f2, lt⟩ := HR2.out.k.box
    simp only at c1 c2
    obtain ⟨q, hq⟩ : ∃ q, q = p + u := ⟨_, rfl⟩
    have eq1 : (p : Int) + (u : Int) = (q : Int) := by omega
    have eq2 : (q : Int) - (u : Int) = (p : Int) := by omega
    have hqn : q ≤ n := by omega
    have hpq : p ≤ q := by omega
    have HQ := Lib.hid (show q - p = u by omega)
    have HQ2 := Lib.hid hq
    clear hq hpu
    go_upto_region 6 with fail
    have HR3 := Lib.hid (show Blk3 (W2.setCell ⟨g, 1, none⟩ (.int .i64 (q : Nat))) g (.slice (some ⟨b, off, none⟩) n cap) (.int .i64 (q : Nat)) (.int .i64 0) 77 from HR2.out.k.set1)
    have HS3 := Lib.hid (HR2.out.sl.keep1 ((Keep1.refl g W2).set 1 (.int .i64 (q : Nat))) HR2.out.off)
    have HK3 := Lib.hid (HK2.out.set 1 (.int .i64 (q : Nat)))
    have HOF := Lib.hid HR2.out.off
    clear c0 c1 c2 f0 f1 f2 lt HR2 HK2
    generalize W2.setCell ⟨g, 1, none⟩ (.int .i64 (q : Nat)) = W3 at *
    obtain ⟨c0, c1, c2, f0, f1, f2, lt⟩ := HR3.out.box
    by_cases hcp : cap = p
    · obtain rfl : q = p := by omega
      obtain rfl : cap = q := hcp
      have HZ0 := Lib.hid (show u = 0 by have := HQ2.out; omega)
      have HSP := Lib.hid (show Sl encB W3.drew (some ⟨b, off, none⟩) 0 [] from Sl.nil _ _)
      have hpc : (cap : Int) ≤ (cap : Int) := by omega
      have hp0 : (0 : Int) ≤ (cap : Int) := by omega
      have hqn' : cap ≤ n := hqn
      have hSw : (Two2 g (.slice (some ⟨b, off, none⟩) n cap) g 1 (.int .i64 (cap : Nat))) W3.drew := ⟨c0, c1⟩
      have l0 := fun z (h : (Two2 g (.slice (some ⟨b, off, none⟩) n cap) g 1 (.int .i64 (cap : Nat))) z) => h.1
      have l1 := fun z (h : (Two2 g (.slice (some ⟨b, off, none⟩) n cap) g 1 (.int .i64 (cap : Nat))) z) => h.2
      clear c0 c1 c2 f0 f1 f2 lt
      have HT := Lib.hid (show bytesS bs u (cap, 0) = ([], (cap, 0)) by rw [HT.out, HZ0.out]; rfl)
      refine wp_region_lex (Two2 g (.slice (some ⟨b, off, none⟩) n cap) g 1 (.int .i64 (cap : Nat))) [(0, true), (1, true), (2, true), (3, true), (4, true), (5, true), (6, true), (7, true), (8, true), (9, true), (10, true), (11, true), (12, true), (13, true), (14, true), (15, false), (16, true)] (by kernel_rfl) (by kernel_rfl) (fun c a d v w h => by cases d <;> exact h) ?_
      iterate 15
        refine lex_step (fun K hK => ?_)
        simp only [lexOp, List.getElem?_toArray, List.getElem?_cons_succ, List.getElem?_cons_zero]
        rw [if_pos (by rfl)]
        apply Exists.intro
        refine ⟨fun w' hS' => ?_, hSw, ?_⟩
        · first | (go_simp <;> with_reducible rfl) | (go_simp; go_bits; with_reducible rfl)
        go_simp
        try go_bits
        refine hK _ _ ?_
        clear hK K
      refine lex_step (fun K hK => ?_)
      simp only [lexOp, List.getElem?_toArray, List.getElem?_cons_succ, List.getElem?_cons_zero]
      rw [if_pos (by rfl)]
      go_step
      refine (Clone_any W3.drew _ _ _ _ HSP.out (by omega)).mono ?_
      rintro e' W4 ⟨v4, m4, rfl, ho4, hb4⟩
      have hb4' : Below W3.heap.size W3 W4 := (Below.refl W3.heap.size W3).drew.trans (hb4.mono (Nat.le_refl _))
      have HR4 := Lib.hid (HR3.out.below hb4')
      have HS4 := Lib.hid (HS3.out.below hb4')
      have HK4 := Lib.hid (HK3.out.trans (Keep1.of hb4'))
      have HO4 := Lib.hid (own_mono ho4 (show W1.heap.size ≤ W3.heap.size from HK3.out.size))
      obtain ⟨a4, c4, rfl, -, -⟩ := Sl.ofOwn ho4
      obtain ⟨d0, d1, d2, f0, f1, f2, lt⟩ := HR4.out.box
      replace hSw : (Two2 g (.slice (some ⟨b, off, none⟩) n cap) g 1 (.int .i64 (cap : Nat))) W4 := ⟨d0, d1⟩
      clear ho4 hb4 hb4' d0 d1 d2 f0 f1 f2 lt HR3 HS3 HK3 HSP
      go_simp
      refine hK _ _ ?_
      clear hK K
      iterate 1
        refine lex_step (fun K hK => ?_)
        simp only [lexOp, List.getElem?_toArray, List.getElem?_cons_succ, List.getElem?_cons_zero]
        rw [if_pos (by rfl)]
        apply Exists.intro
        refine ⟨fun w' hS' => ?_, hSw, ?_⟩
        · first | (go_simp <;> with_reducible rfl) | (go_simp; go_bits; with_reducible rfl)
        go_simp
        try go_bits
        refine hK _ _ ?_
        clear hK K
      refine lex_nil ?_
      go_wp2_with fail
      go_ret
      rw [HT.out]
      exact ⟨_, m4, rfl, HO4.out, ⟨HR4.out, HS4.out, HOF.out, hle, hsm, ⟨fun _ => hqn', by show cap ≤ n + 8; omega⟩⟩, HK4.out⟩
    · have hpt : p + (q - p) ≤ n := by omega
      have HSP := Lib.hid ((HS3.out.part hpt).below (Below.refl W3.heap.size W3).drew)
      have hpc : (p : Int) ≤ (q : Int) := by omega
      have hqc : (q : Int) ≤ (cap : Int) := by omega
      have hp0 : (0 : Int) ≤ (p : Int) := by omega
      have hqn' : q ≤ n := hqn
      have hSw : (Two2 g (.slice (some ⟨b, off, none⟩) n cap) g 1 (.int .i64 (q : Nat))) W3.drew := ⟨c0, c1⟩
      have l0 := fun z (h : (Two2 g (.slice (some ⟨b, off, none⟩) n cap) g 1 (.int .i64 (q : Nat))) z) => h.1
      have l1 := fun z (h : (Two2 g (.slice (some ⟨b, off, none⟩) n cap) g 1 (.int .i64 (q : Nat))) z) => h.2
      clear c0 c1 c2 f0 f1 f2 lt
      have HT := Lib.hid (show bytesS bs u (p, 0) = ((bs.drop p).take (q - p), (q, 0)) by rw [HT.out, HQ.out, HQ2.out])
      refine wp_region_lex (Two2 g (.slice (some ⟨b, off, none⟩) n cap) g 1 (.int .i64 (q : Nat))) [(0, true), (1, true), (2, true), (3, true), (4, true), (5, true), (6, true), (7, true), (8, true), (9, true), (10, true), (11, true), (12, true), (13, true), (14, true), (15, false), (16, true)] (by kernel_rfl) (by kernel_rfl) (fun c a d v w h => by cases d <;> exact h) ?_
      iterate 15
        refine lex_step (fun K hK => ?_)
        simp only [lexOp, List.getElem?_toArray, List.getElem?_cons_succ, List.getElem?_cons_zero]
        rw [if_pos (by rfl)]
        apply Exists.intro
        refine ⟨fun w' hS' => ?_, hSw, ?_⟩
        · first | (go_simp <;> with_reducible rfl) | (go_simp; go_bits; with_reducible rfl)
        go_simp
        try go_bits
        refine hK _ _ ?_
        clear hK K
      refine lex_step (fun K hK => ?_)
      simp only [lexOp, List.getElem?_toArray, List.getElem?_cons_succ, List.getElem?_cons_zero]
      rw [if_pos (by rfl)]
      go_step
      refine (Clone_any W3.drew _ _ _ _ HSP.out (by omega)).mono ?_
      rintro e' W4 ⟨v4, m4, rfl, ho4, hb4⟩
      have hb4' : Below W3.heap.size W3 W4 := (Below.refl W3.heap.size W3).drew.trans (hb4.mono (Nat.le_refl _))
      have HR4 := Lib.hid (HR3.out.below hb4')
      have HS4 := Lib.hid (HS3.out.below hb4')
      have HK4 := Lib.hid (HK3.out.trans (Keep1.of hb4'))
      have HO4 := Lib.hid (own_mono ho4 (show W1.heap.size ≤ W3.heap.size from HK3.out.size))
      obtain ⟨a4, c4, rfl, -, -⟩ := Sl.ofOwn ho4
      obtain ⟨d0, d1, d2, f0, f1, f2, lt⟩ := HR4.out.box
      replace hSw : (Two2 g (.slice (some ⟨b, off, none⟩) n cap) g 1 (.int .i64 (q : Nat))) W4 := ⟨d0, d1⟩
      clear ho4 hb4 hb4' d0 d1 d2 f0 f1 f2 lt HR3 HS3 HK3 HSP
      go_simp
      refine hK _ _ ?_
      clear hK K
      iterate 1
        refine lex_step (fun K hK => ?_)
        simp only [lexOp, List.getElem?_toArray, List.getElem?_cons_succ, List.getElem?_cons_zero]
        rw [if_pos (by rfl)]
        apply Exists.intro
        refine ⟨fun w' hS' => ?_, hSw, ?_⟩
        · first | (go_simp <;> with_reducible rfl) | (go_simp; go_bits; with_reducible rfl)
        go_simp
        try go_bits
        refine hK _ _ ?_
        clear hK K
      refine lex_nil ?_
      go_wp2_with fail
      go_ret
      rw [HT.out]
      exact ⟨_, m4, rfl, HO4.out, ⟨HR4.out, HS4.out, HOF.out, hle, hsm, ⟨fun _ => hqn', by show q ≤ n + 8; omega⟩⟩, HK4.out⟩
end Go.Proofs.Ytnfhiakdbakpgaa
/- klass: the reader's slots (printed by gen/klrd4.py). No condition. -/
namespace Go.Proofs.Ytnfhiakdbakpgaa
open Go.ChangeShapes Go.WideShapes Go.ChangeAt Go.RowKit
theorem Blk3.keptT {e : TypeId} {w w' : World} {g : Nat} {x y z : Value} {t : TypeId} (h : Blk3 w g x y z t) (k : KeptT e w w') (hne : t ≠ e) : Blk3 w' g x y z t := k.2 _ _ _ _ h hne
theorem RdS.keptT {e : TypeId} {w0 w w' : World} {g : Nat} {a : Option Addr} {n cap : Nat} {bs : List UInt8} {s : St} (h : RdS w g a n cap bs s) (k : KeptT e w w') (hne : 77 ≠ e) (h0 : Sl encB w0 a n bs) (hk : Keep1 g w0 w') : RdS w' g a n cap bs s :=
  ⟨h.k.keptT k hne, h0.keep1 hk h.off, h.off, h.le, h.sm, h.ok⟩
/-- A store in another block, the bytes not in it. -/
theorem RdS.set {w : World} {g : Nat} {a : Option Addr} {n cap : Nat} {bs : List UInt8} {s : St} (h : RdS w g a n cap bs s) {c : Nat} (hc : g ≠ c ∧ Off1 a n c) (o : Nat) (v : Value) : RdS (w.setCell ⟨c, o, none⟩ v) g a n cap bs s :=
  ⟨h.k.other hc.1, h.sl.keep1 ((Keep1.refl c w).set o v) hc.2, h.off, h.le, h.sm, h.ok⟩
theorem stSlot : StE 49 119 (.agg #[.int .i64 0, .int .i64 0]) 2 16 := ⟨by kernel_rfl, by kernel_rfl, rfl⟩
/-- What the slots' callback has gathered: the reader's box gr, the row's box go. -/
def SlJ (g gr go : Nat) (w0 : World) (l : List KS) (W : World) : Prop :=
  W.heap[gr]? = some (.cells #[.pointer (some ⟨g, 0, none⟩)] 75) ∧ (∃ v m, W.heap[go]? = some (.cells #[v] 49) ∧ W.ownsRow w0.heap.size 119 2 v m (l.flatMap KS.cells) ∧ m = l.length) ∧ Keep1 g w0 W
set_option maxRecDepth 100000 in
set_option maxHeartbeats 8000000 in
theorem slots1_any (w0 W : World) (g gr go : Nat) (a : Option Addr) (n cap : Nat) (bs : List UInt8) (t : St) (l : List KS) (hs0 : Sl encB w0 a n bs) (hg0 : g < w0.heap.size) (hgr : w0.heap.size ≤ gr) (hgo : w0.heap.size ≤ go) (hne : gr ≠ go) (h : RdS W g a n cap bs t) (hJ : SlJ g gr go w0 l W) (hl : l.length ≤ 65535) :
    Calls Try.prog 86 #[.pointer (some ⟨gr, 0, none⟩), .pointer (some ⟨go, 0, none⟩)] W fun e W' => e = .returned (.tuple #[]) ∧ RdS W' g a n cap bs (slotS bs t).2 ∧ SlJ g gr go w0 (l ++ [(slotS bs t).1]) W' := by
  obtain ⟨hj1, ⟨v0, m0, hj2, hj3, hm0⟩, hk0⟩ := hJ
  have HS0 := Lib.hid hs0
  have HGOB := Lib.hid hgo
  have HN := Lib.hid (next_kl W g a n cap bs t h 1 (by decide) (by decide))
  have hgo' : g ≠ go ∧ Off1 a n go := ⟨by omega, Off1.old hs0 hgo⟩
  have hrg : gr ≠ g := by omega
  have hog : go ≠ g := by omega
  have hgrgo : gr ≠ go := hne
  have hml : m0 ≤ 65535 := by omega
  have HM0 := Lib.hid hm0
  clear hm0
  obtain ⟨a0, cp0, rfl, -, -⟩ := Ss.ofOwn KS.cells_length (by decide) hj3
  have HG := Lib.hid hj1
  have HOB := Lib.hid hj2
  have HO0 := Lib.hid hj3
  have HK0 := Lib.hid hk0
  have HSL := Lib.hid (show slotS bs t = if (getS bs 1 t).1 = 7 then (⟨(getS bs 1 t).1, (getS bs 2 (getS bs 1 t).2).1⟩, (getS bs 2 (getS bs 1 t).2).2) else (⟨(getS bs 1 t).1, 0⟩, (getS bs 1 t).2) by unfold slotS bindR; by_cases h : (getS bs 1 t).1 = 7 <;> simp [h, pureR])
  have hgo := hgo'
  clear hgo' hs0 hgr hne h hl hj1 hj2 hj3 hk0
  have q0 : W.cell? ⟨gr, 0, none⟩ = some (.pointer (some ⟨g, 0, none⟩)) := row_cell HG.out 0 rfl
  generalize (getS bs 1 t).1 = tg at *
  generalize (getS bs 1 t).2 = s1 at *
  go_enter Try.func86, Try.ntmps86
  go_wp2_with fail
  refine HN.out.mono ?_
  rintro e' W1 ⟨rfl, hr1, hk1⟩
  have hal : Below W1.heap.size W1 (W1.alloc (.cells #[.int .i64 tg, .int .i64 0] 119)) := below_1 _ _
  have HG1 := Lib.hid (hk1.blk HG.out hrg)
  have HOB1 := Lib.hid (hk1.blk HOB.out hog)
  have HO1 := Lib.hid (own_keep1 HO0.out hk1 hg0)
  have HK1 := Lib.hid (HK0.out.trans hk1)
  have HKL2 := Lib.hid (Keep1.of (g := g) hal)
  have HR2 := Lib.hid (hr1.below hal)
  have HT2 := Lib.hid (heap_alloc_last W1 (.cells #[.int .i64 tg, .int .i64 0] 119))
  have hbg : W1.heap.size ≠ g := by have := hr1.lt; omega
  have HB1 := Lib.hid (show W1.heap.size ≤ W1.heap.size from Nat.le_refl _)
  have hbo : g ≠ W1.heap.size ∧ Off1 a n W1.heap.size := ⟨Ne.symm hbg, Off1.old HS0.out HK1.out.size⟩
  clear hr1 hk1 hal HN HG HOB HO0 HK0 q0
  go_upto_region 1 with fail
  generalize W1.alloc (.cells #[.int .i64 tg, .int .i64 0] 119) = W2 at *
  obtain ⟨bt, hbt⟩ : ∃ b, b = W1.heap.size := ⟨_, rfl⟩
  rw [← hbt] at HT2 hbg hbo HB1 ⊢
  have HBT := Lib.hid hbt
  clear hbt
  have p0 : W2.cell? ⟨bt, 0, none⟩ = some (.int .i64 tg) := row_cell HT2.out 0 rfl
  by_cases h7 : tg = 7
  · have e7 : (tg == 7) = true := by simp [h7]
    have HSL := Lib.hid (show slotS bs t = (⟨tg, (getS bs 2 s1).1⟩, (getS bs 2 s1).2) by rw [HSL.out, if_pos h7])
    have HN := Lib.hid (ku2_any W2 g a n cap bs s1 HR2.out)
    have q0 : W2.cell? ⟨gr, 0, none⟩ = some (.pointer (some ⟨g, 0, none⟩)) := row_cell (HKL2.out.blk HG1.out hrg) 0 rfl
    generalize (getS bs 2 s1).1 = sa at *
    generalize (getS bs 2 s1).2 = s2 at *
    clear h7
    go_wp2_with fail
    refine HN.out.mono ?_
    rintro e' W3 ⟨rfl, hr3, hk3⟩
    have HR3 := Lib.hid hr3
    have HT3 := Lib.hid (hk3.blk HT2.out hbg)
    have HKL3 := Lib.hid (HKL2.out.trans hk3)
    clear hr3 hk3 HR2 HT2 HKL2 HN q0 p0
    have ft := row_melt HT3.out 1
    have ltt := row_lt HT3.out
    have ct : W3.cell? ⟨bt, 1, none⟩ = some (.int .i64 0) := row_cell HT3.out 1 rfl
    go_upto_region 3 with fail
    have HRX := Lib.hid (RdS.set HR3.out hbo 1 (.int .i64 sa))
    have HTX := Lib.hid (show (W3.setCell ⟨bt, 1, none⟩ (.int .i64 sa)).heap[bt]? = some (.cells #[.int .i64 tg, .int .i64 sa] 119) by simpa using heap_set3 HT3.out 1 (.int .i64 sa))
    have HKL := Lib.hid (keep1_setC HKL3.out (show W1.heap.size ≤ bt by rw [HBT.out]; exact Nat.le_refl _) 1 (.int .i64 sa))
    clear ft ltt ct HR3 HT3 HKL3
    generalize W3.setCell ⟨bt, 1, none⟩ (.int .i64 sa) = WX at *
    have HGX := Lib.hid (HKL.out.blk HG1.out hrg)
    have HOX := Lib.hid (HKL.out.blk HOB1.out hog)
    have HO := Lib.hid (own_keep1 HO1.out HKL.out hg0)
    have HKX := Lib.hid (HK1.out.trans HKL.out)
    have p0 : WX.cell? ⟨bt, 0, none⟩ = some (.int .i64 tg) := row_cell HTX.out 0 rfl
    have p1 : WX.cell? ⟨bt, 1, none⟩ = some (.int .i64 sa) := row_cell HTX.out 1 rfl
    have q1 : WX.cell? ⟨go, 0, none⟩ = some (.slice a0 m0 cp0) := row_cell HOX.out 0 rfl
    clear HG1 HOB1 HO1 HK1 HKL
    go_wp2_with (at_builtin; refine wpList_appS_lit stSlot rfl _ _ rfl w0.heap.size _ m0 _ rfl HO.out _ 1 _ _ rfl (by simp) rfl rfl (by omega) (by unfold maxLen; omega) HKX.out.size ?_; intro v3 W8 hown3 hg3 hb3; have hk3 := KeptT.app HO.out hg3; have HK8 := Lib.hid (keep1_appA HKX.out HO.out hg3); have HR8 := Lib.hid (HRX.out.keptT hk3 (by decide) HS0.out HK8.out); have HGR8 := Lib.hid (hk3.2 _ _ _ _ HGX.out (by decide)); have HGO8 := Lib.hid (hk3.2 _ _ _ _ HOX.out (by decide)); have hown4 : W8.ownsRow w0.heap.size 119 2 v3 (m0 + 1) ((l ++ [(⟨tg, sa⟩ : KS)]).flatMap KS.cells) := (by rw [List.flatMap_append]; exact hown3); obtain ⟨a3, c3, rfl, -, -⟩ := Ss.ofOwn KS.cells_length (by decide) hown4; have HO8 := Lib.hid hown4; have fo := row_melt HGO8.out 0; have lto := row_lt HGO8.out; have co : W8.cell? ⟨go, 0, none⟩ = some (.slice a0 m0 cp0) := row_cell HGO8.out 0 rfl; clear hown3 hown4 hg3 hb3 hk3)
    go_end0
    refine ⟨rfl, ?_, ?_⟩
    · rw [HSL.out]
      exact RdS.set HR8.out hgo 0 _
    · rw [HSL.out]
      have hko := keptT_set HGO8.out 0 (.slice a3 (m0 + 1) c3)
      exact ⟨heap_other HGR8.out hgrgo 0 _, ⟨.slice a3 (m0 + 1) c3, m0 + 1, by simpa using heap_set3 HGO8.out 0 (.slice a3 (m0 + 1) c3), own_keptT HO8.out hko (by decide), by rw [List.length_append, ← HM0.out]; rfl⟩, keep1_setC HK8.out HGOB.out 0 _⟩
  · have e7 : (tg == 7) = false := by simp [h7]
    have HSL := Lib.hid (show slotS bs t = (⟨tg, 0⟩, s1) by rw [HSL.out, if_neg h7])
    clear h7
    have HGX := Lib.hid (HKL2.out.blk HG1.out hrg)
    have HOX := Lib.hid (HKL2.out.blk HOB1.out hog)
    have HO := Lib.hid (own_keep1 HO1.out HKL2.out hg0)
    have HKX := Lib.hid (HK1.out.trans HKL2.out)
    have HRX := HR2
    have p1 : W2.cell? ⟨bt, 1, none⟩ = some (.int .i64 0) := row_cell HT2.out 1 rfl
    have q1 : W2.cell? ⟨go, 0, none⟩ = some (.slice a0 m0 cp0) := row_cell HOX.out 0 rfl
    clear HG1 HOB1 HO1 HK1 HKL2 HR2
    go_wp2_with (at_builtin; refine wpList_appS_lit stSlot rfl _ _ rfl w0.heap.size _ m0 _ rfl HO.out _ 1 _ _ rfl (by simp) rfl rfl (by omega) (by unfold maxLen; omega) HKX.out.size ?_; intro v3 W8 hown3 hg3 hb3; have hk3 := KeptT.app HO.out hg3; have HK8 := Lib.hid (keep1_appA HKX.out HO.out hg3); have HR8 := Lib.hid (HRX.out.keptT hk3 (by decide) HS0.out HK8.out); have HGR8 := Lib.hid (hk3.2 _ _ _ _ HGX.out (by decide)); have HGO8 := Lib.hid (hk3.2 _ _ _ _ HOX.out (by decide)); have hown4 : W8.ownsRow w0.heap.size 119 2 v3 (m0 + 1) ((l ++ [(⟨tg, 0⟩ : KS)]).flatMap KS.cells) := (by rw [List.flatMap_append]; exact hown3); obtain ⟨a3, c3, rfl, -, -⟩ := Ss.ofOwn KS.cells_length (by decide) hown4; have HO8 := Lib.hid hown4; have fo := row_melt HGO8.out 0; have lto := row_lt HGO8.out; have co : W8.cell? ⟨go, 0, none⟩ = some (.slice a0 m0 cp0) := row_cell HGO8.out 0 rfl; clear hown3 hown4 hg3 hb3 hk3)
    go_end0
    refine ⟨rfl, ?_, ?_⟩
    · rw [HSL.out]
      exact RdS.set HR8.out hgo 0 _
    · rw [HSL.out]
      have hko := keptT_set HGO8.out 0 (.slice a3 (m0 + 1) c3)
      exact ⟨heap_other HGR8.out hgrgo 0 _, ⟨.slice a3 (m0 + 1) c3, m0 + 1, by simpa using heap_set3 HGO8.out 0 (.slice a3 (m0 + 1) c3), own_keptT HO8.out hko (by decide), by rw [List.length_append, ← HM0.out]; rfl⟩, keep1_setC HK8.out HGOB.out 0 _⟩
end Go.Proofs.Ytnfhiakdbakpgaa
