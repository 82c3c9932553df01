/- nor: the walk of NorPlays. No condition. -/
import Derived.Test.YtjlcgffcfhfffaaNorDo
import Derived.Deep.DeepMust
namespace Go.Proofs.Ytjlcgffcfhfffaa
open Go.ChangeShapes Go.WideShapes Go.ChangeAt Go.RowKit
open Fl
theorem KeptL.box {bs : List Nat} {b : Nat} {C : Array Value} {t : TypeId} {x y : World} (hk : KeptL bs x y) (h : BoxAt b C t x) (h1 : b ∉ bs) : BoxAt b C t y := by
  unfold BoxAt at *
  rw [hk.block b (Array.getElem?_eq_some_iff.1 h).1 h1]; exact h
theorem BoxAt.melt {b : Nat} {C : Array Value} {t : TypeId} {x : World} (h : BoxAt b C t x) (i : Nat) : x.frozen? ⟨b, i, none⟩ = false := by
  unfold World.frozen?
  rw [show x.heap[b]? = _ from h]
  rfl
theorem BoxAt.lt {b : Nat} {C : Array Value} {t : TypeId} {x : World} (h : BoxAt b C t x) : b < x.heap.size := (Array.getElem?_eq_some_iff.1 h).1
theorem Sl.set1 {α : Type} {enc : α → Value} {w : World} {x : Option Addr} {n g o : Nat} {xs : List α} (h : Sl enc w x n xs) (hx : NotIn x n g) {v : Value} : Sl enc (w.setCell ⟨g, o, none⟩ v) x n xs := by
  refine ⟨h.1, fun hn => ?_⟩
  obtain ⟨b, off, ha, hlt, hc⟩ := h.2 hn
  refine ⟨b, off, ha, by simpa using hlt, fun i hi => ?_⟩
  rw [cell_other (hx hn b off ha)]
  exact hc i hi
theorem IsFl.setO {tF eb ec : TypeId} {w : World} {g gb gc cb cc x o : Nat} {f : Fl} {v : Value} (h : IsFl tF eb ec w g gb gc cb cc f) (h1 : g ≠ x) (h2 : gb ≠ x) (h3 : gc ≠ x) : IsFl tF eb ec (w.setCell ⟨x, o, none⟩ v) g gb gc cb cc f :=
  h.eq (heap_setO h1 _ _) (heap_setO h2 _ _) (heap_setO h3 _ _)
theorem app_own {α : Type} {enc : α → Value} {w : World} {B : Nat} {e : TypeId} {v : Value} {m : Nat} {xs : List α} (h : w.ownsRow B e 1 v (0 + m) ([] ++ xs.map enc)) : ∃ a c, v = .slice a m c ∧ w.ownsRow B e 1 (.slice a m c) m (xs.map enc) := by
  rw [Nat.zero_add, List.nil_append] at h
  obtain ⟨a, c, rfl, _, _⟩ := Sl.ofOwn h
  exact ⟨a, c, rfl, h⟩
/-- Both flashes hold the same. -/
def PlayS (w0 : World) (g gb gc cb cc h hb hc db dc S Z L : Nat) (w : World) : Prop :=
  ∃ f, FlA w g gb gc cb cc f ∧ FlB w h hb hc db dc f ∧ (f.S = S ∧ f.Z = Z ∧ f.L = L) ∧ Below w0.heap.size w0 w
def ActC (kd : Nat) (p q : Int) (x : Option Addr) (m cm : Nat) (keep : Int) (mask : UInt8) : Array Value := #[.int .u8 kd, .int .i64 p, .int .i64 q, .slice x m cm, .int .i64 keep, .int .u8 (mask.toNat : Int)]
/-- Where the acts lie. -/
def ActsAt (w : World) (a : Option Addr) (n : Nat) : Prop := 0 < n → ∃ b off, a = some ⟨b, off, none⟩ ∧ b < w.heap.size ∧ ∀ i, i < n → ∃ kd p q x m cm ds keep mask, ActAt w b (off + i * 6) kd p q x m cm ds keep mask ∧ m ≤ 300
theorem few_any (w w1 : World) (a : Option Addr) (n cap : Nat) (h : IsActs w a n cap) (hb : Below w.heap.size w w1) :
    Calls Try.prog 18 #[.slice a n cap] w1 fun e w' => (∃ r, e = .returned (.bool r) ∧ (r = true → n ≤ 100 ∧ ActsAt w a n)) ∧ Below w1.heap.size w1 w' := by
  obtain ⟨h0, h1, h2⟩ := h
  by_cases hn : 0 < n
  · obtain ⟨b, off, rfl, hlt, hr⟩ := h2 hn
    refine (few_some w1 b off n cap (Nat.lt_of_lt_of_le hlt hb.size) h1 (fun i hi => ?_)).mono ?_
    · obtain ⟨kd, p, q, x, m, cm, ds, keep, mask, h⟩ := hr i hi
      exact ⟨kd, p, q, x, m, cm, ds, keep, mask, h.below hlt hb⟩
    · rintro e w' ⟨r, rfl, hA, hB⟩
      refine ⟨⟨r, rfl, fun hr1 => ⟨(hA hr1).1, fun _ => ⟨b, off, rfl, hlt, fun i hi => ?_⟩⟩⟩, hB⟩
      obtain ⟨kd, p, q, x, m, cm, ds, keep, mask, h⟩ := hr i hi
      obtain ⟨kd', p', q', x', m', cm', ds', keep', mask', h', hm⟩ := (hA hr1).2 i hi
      have e1 := (h.below hlt hb).c3
      rw [h'.c3] at e1
      cases e1
      exact ⟨kd, p, q, x, m, cm, ds, keep, mask, h, hm⟩
  · obtain rfl : n = 0 := by omega
    refine (few_nil w1 a cap).mono ?_
    rintro e w' ⟨rfl, rfl⟩
    exact ⟨⟨true, rfl, fun _ => ⟨by omega, fun h => absurd h (by omega)⟩⟩, Below.refl _ _⟩
set_option maxRecDepth 100000 in
set_option maxHeartbeats 8000000 in
theorem walk_NorPlays (S Z L : Int) (a : Option Addr) (n cap : Nat) (w : World) (hS : (Lit.int .i64 S).wf = true) (hZ : (Lit.int .i64 Z).wf = true) (hL : (Lit.int .i64 L).wf = true) (h0 : IsActs w a n cap) :
    Calls Try.prog 6 #[.agg #[.int .i64 S, .int .i64 Z, .int .i64 L], .slice a n cap] w fun e w' => e = .returned (.bool true) ∧ Below w.heap.size w w' := by
  have hb0 : Below w.heap.size w (w.alloc (.cells #[.int .i64 S, .int .i64 Z, .int .i64 L] 25)) := (Below.refl _ _).alloc (Nat.le_refl _) _
  have BG := Lib.hid (show BoxAt w.heap.size #[.int .i64 S, .int .i64 Z, .int .i64 L] 25 (w.alloc (.cells #[.int .i64 S, .int .i64 Z, .int .i64 L] 25)) from heap_alloc_last w _)
  have HB0 := Lib.hid hb0
  have HI := Lib.hid h0
  have hcp := h0.1
  have hnm := h0.2.1
  unfold maxLen at hnm
  clear hS hZ hL h0 hb0
  go_enter Try.func6, Try.ntmps6
  go_upto_region 1 with fail
  generalize w.alloc (.cells #[.int .i64 S, .int .i64 Z, .int .i64 L] 25) = W0 at BG HB0 ⊢
  have FX := Lib.hid (fixed_any W0)
  go_wp2_with fail
  with_reducible refine FX.out.mono ?_
  rintro e w1 ⟨rfl, hb⟩
  replace BG := Lib.hid (BG.out.below hb)
  have H1 := Lib.hid (show Below w.heap.size w w1 from HB0.out.trans (hb.mono HB0.out.size))
  have BG1 := Lib.hid BG.out
  clear hb FX HB0
  have c0 : w1.cell? ⟨w.heap.size, 0, none⟩ = some (.int .i64 S) := BG.out.cell 0
  have c1 : w1.cell? ⟨w.heap.size, 1, none⟩ = some (.int .i64 Z) := BG.out.cell 1
  have c2 : w1.cell? ⟨w.heap.size, 2, none⟩ = some (.int .i64 L) := BG.out.cell 2
  by_cases hok : newOk S Z L
  case neg =>
    have PN := Lib.hid (New_no w1 S Z L hok)
    go_wp2_with fail
    with_reducible refine PN.out.mono ?_
    rintro e w2 ⟨rfl, hb⟩
    replace BG := Lib.hid (BG.out.below hb)
    replace H1 := Lib.hid (H1.out.trans (hb.mono H1.out.size))
    clear hb c0 c1 c2
    have c0 : w2.cell? ⟨w.heap.size, 0, none⟩ = some (.int .i64 S) := BG.out.cell 0
    have c1 : w2.cell? ⟨w.heap.size, 1, none⟩ = some (.int .i64 Z) := BG.out.cell 1
    have c2 : w2.cell? ⟨w.heap.size, 2, none⟩ = some (.int .i64 L) := BG.out.cell 2
    have PR := Right_any w2 S Z L
    rw [decide_eq_false hok] at PR
    replace PR := Lib.hid PR
    go_wp2_with fail
    with_reducible refine PR.out.mono ?_
    rintro e w3 ⟨rfl, hb⟩
    replace H1 := Lib.hid (H1.out.trans (hb.mono H1.out.size))
    clear hb c0 c1 c2
    go_wp2_with fail
    go_ret
    exact ⟨rfl, H1.out⟩
  obtain ⟨o1, o2, o3⟩ := id hok
  obtain ⟨S, rfl⟩ : ∃ k : Nat, S = k := ⟨S.toNat, by omega⟩
  obtain ⟨Z, rfl⟩ : ∃ k : Nat, Z = k := ⟨Z.toNat, by omega⟩
  obtain ⟨L, rfl⟩ : ∃ k : Nat, L = k := ⟨L.toNat, by omega⟩
  have HOK := Lib.hid hok
  obtain ⟨al, hal⟩ : ∃ al : Nat, S * Z = al := ⟨_, rfl⟩
  have hal1 : al ≤ 4194304 := by rw [← hal]; have := Nat.mul_le_mul (show S ≤ 64 by omega) (show Z ≤ 65536 by omega); omega
  have hali : (S : Int) * (Z : Int) = (al : Int) := by rw [← hal]; simp
  have HAL := Lib.hid hal
  have PN := Lib.hid (New_made w1 S Z L hok)
  clear hok hal
  go_wp2_with fail
  with_reducible refine PN.out.mono ?_
  rintro e w2 ⟨g, gb, gc, cb, cc, rfl, hF, hb⟩
  replace BG := Lib.hid (BG.out.below hb)
  have HF := Lib.hid hF
  have HB := Lib.hid hb
  clear hF hb PN c0 c1 c2
  have c0 : w2.cell? ⟨w.heap.size, 0, none⟩ = some (.int .i64 S) := BG.out.cell 0
  have c1 : w2.cell? ⟨w.heap.size, 1, none⟩ = some (.int .i64 Z) := BG.out.cell 1
  have c2 : w2.cell? ⟨w.heap.size, 2, none⟩ = some (.int .i64 L) := BG.out.cell 2
  have PR := Right_any w2 S Z L
  rw [decide_eq_true HOK.out] at PR
  replace PR := Lib.hid PR
  go_wp2_with fail
  with_reducible refine PR.out.mono ?_
  rintro e w3 ⟨rfl, hb⟩
  replace BG := Lib.hid (BG.out.below hb)
  replace HF := Lib.hid (HF.out.below hb)
  replace HB := Lib.hid (HB.out.trans (hb.mono HB.out.size))
  have PW := Lib.hid (few_any w w3 a n cap HI.out (H1.out.trans (HB.out.mono H1.out.size)))
  clear hb PR c0 c1 c2
  go_wp2_with fail
  with_reducible refine PW.out.mono ?_
  rintro e w4 ⟨⟨r, rfl, hr⟩, hb⟩
  replace BG := Lib.hid (BG.out.below hb)
  replace HF := Lib.hid (HF.out.below hb)
  replace HB := Lib.hid (HB.out.trans (hb.mono HB.out.size))
  have HRR := Lib.hid hr
  clear hb PW hr
  have c0 : w4.cell? ⟨w.heap.size, 0, none⟩ = some (.int .i64 S) := BG.out.cell 0
  have c1 : w4.cell? ⟨w.heap.size, 1, none⟩ = some (.int .i64 Z) := BG.out.cell 1
  have c2 : w4.cell? ⟨w.heap.size, 2, none⟩ = some (.int .i64 L) := BG.out.cell 2
  have HE := Lib.hid (H1.out.trans (HB.out.mono H1.out.size))
  cases r with
  | false =>
    go_wp2_with fail
    go_ret
    exact ⟨rfl, HE.out⟩
  | true =>
    by_cases hbig : 20000 < al
    · go_wp2_with fail
      go_ret
      exact ⟨rfl, HE.out⟩
    obtain ⟨hn100, hacts⟩ := HRR.out rfl
    have HAC := Lib.hid hacts
    have PN := Lib.hid (refNew_made w4 S Z L HOK.out)
    clear hacts HRR
    go_wp2_with fail
    with_reducible refine PN.out.mono ?_
    rintro e w5 ⟨h, hb', hc, db, dc, rfl, hF2, hb⟩
    have hlt4 := HF.out.fl.lt
    have hAP : Apart6 g gb gc h hb' hc := by
      obtain ⟨_, x1, x2, x3⟩ := hF2
      exact ⟨⟨by omega, by omega, by omega⟩, ⟨by omega, by omega, by omega⟩, ⟨by omega, by omega, by omega⟩⟩
    have AP := Lib.hid hAP
    have hge := HB.out.size
    have HGE := Lib.hid (show ∀ x ∈ [g, gb, gc, h, hb', hc], w1.heap.size ≤ x from fun x hx => by
      have y1 := HF.out.b1
      have y2 := HF.out.b2
      have y3 := HF.out.b3
      obtain ⟨_, x1, x2, x3⟩ := hF2
      simp only [List.mem_cons, List.not_mem_nil, or_false] at hx
      rcases hx with rfl | rfl | rfl | rfl | rfl | rfl <;> omega)
    have HP := Lib.hid (show PlayS w1 g gb gc cb cc h hb' hc db dc S Z L w5 from ⟨_, (HF.out.below hb).fl, hF2.fl, ⟨rfl, rfl, rfl⟩, HB.out.trans (hb.mono HB.out.size)⟩)
    clear hAP hlt4 hF2 hb HF HB BG c0 c1 c2 PN hge
    go_wp2_with fail
    go_loopg [48] n (fun gn i wr => ∃ j : Nat, j ≤ n ∧ gn = n - j ∧ i = .int .i64 j ∧ Hid (PlayS w1 g gb gc cb cc h hb' hc db dc S Z L wr))
    case atStart => exact ⟨0, by omega, by omega, by go_num, HP⟩
    case round =>
      obtain ⟨j, hj, rfl, rfl, HP⟩ := hrel
      obtain ⟨f, hA, hB, hgeo, hbel⟩ := HP.out
      have hge1 := hbel.size
      by_cases hlt : j < n
      · obtain ⟨b, off, rfl, hbl, hr⟩ := HAC.out (by omega)
        obtain ⟨kd, p, q, x, m, cm, ds, keep, mask, hact, hm⟩ := hr j hlt
        have sW1 := H1.out.size
        have hact2 := hact.below hbl (H1.out.trans (hbel.mono sW1))
        have HX := Lib.hid (show ∀ y ∈ [g, gb, gc, h, hb', hc], NotIn x m y from fun y hy => NotIn.old hact.sl sW1 (HGE.out y hy))
        obtain ⟨q0, q1, q2, q3, q4, q5, kb, pr, nr, kr, sl, mc⟩ := hact2
        have HACT := Lib.hid (And.intro pr (And.intro nr kr))
        have SL := Lib.hid sl
        have HA := Lib.hid hA
        have HB := Lib.hid hB
        have HGG := Lib.hid hgeo
        have HBL := Lib.hid hbel
        have HLT := Lib.hid (show ∀ y ∈ [g, gb, gc, h, hb', hc], y < wr.heap.size from fun y hy => by
          have l1 := hA.lt
          have l2 := hB.lt
          simp only [List.mem_cons, List.not_mem_nil, or_false] at hy
          rcases hy with rfl | rfl | rfl | rfl | rfl | rfl <;> omega)
        clear hact hr pr nr kr sl hA hB hgeo hbel HP
        go_upto_region 13 with fail
        have hb1 : Below wr.heap.size wr ((wr.alloc (.cells (ActC kd p q x m cm keep mask) 49)).alloc (.cells (ActC kd p q x m cm keep mask) 49)) := ((Below.refl _ _).alloc (Nat.le_refl _) _).alloc (by simp) _
        have B9 : BoxAt wr.heap.size (ActC kd p q x m cm keep mask) 49 ((wr.alloc (.cells (ActC kd p q x m cm keep mask) 49)).alloc (.cells (ActC kd p q x m cm keep mask) 49)) :=
          BoxAt.below (show BoxAt wr.heap.size _ _ (wr.alloc _) from heap_alloc_last wr _) ((Below.refl _ _).alloc (Nat.le_refl _) _)
        have B10 : BoxAt (wr.heap.size + 1) (ActC kd p q x m cm keep mask) 49 ((wr.alloc (.cells (ActC kd p q x m cm keep mask) 49)).alloc (.cells (ActC kd p q x m cm keep mask) 49)) := by
          have := heap_alloc_last (wr.alloc (.cells (ActC kd p q x m cm keep mask) 49)) (.cells (ActC kd p q x m cm keep mask) 49)
          rw [show (wr.alloc (.cells (ActC kd p q x m cm keep mask) 49)).heap.size = wr.heap.size + 1 by simp] at this
          exact this
        unfold ActC at hb1 B9 B10
        generalize hW : (wr.alloc (.cells #[.int .u8 kd, .int .i64 p, .int .i64 q, .slice x m cm, .int .i64 keep, .int .u8 (mask.toNat : Int)] 49)).alloc (.cells #[.int .u8 kd, .int .i64 p, .int .i64 q, .slice x m cm, .int .i64 keep, .int .u8 (mask.toNat : Int)] 49) = W at hb1 B9 B10 ⊢
        have hWs : W.heap.size = wr.heap.size + 2 := by rw [← hW]; simp
        have SLW := Lib.hid (SL.out.below hb1)
        have HW := Lib.hid hb1
        have HB9 := Lib.hid B9
        have HB10 := Lib.hid B10
        have hwl : wr.heap.size < W.heap.size := by omega
        have hwl2 : wr.heap.size + 1 < W.heap.size := by omega
        clear hWs
        have HO0 := Lib.hid (own_empty W W.heap.size 5 (Nat.le_refl _))
        have HB0 := Lib.hid ((Below.refl W.heap.size W).alloc (Nat.le_refl _) (.cells #[] 5))
        have d93 : (W.alloc (.cells #[] 5)).cell? ⟨wr.heap.size, 3, none⟩ = some (.slice x m cm) := (HB0.out.cell hwl).trans (B9.cell 3)
        clear hW hb1 B9 B10 q0 q1 q2 q3 q4 q5
        have HD10 := Lib.hid (show ∀ w', Below W.heap.size W w' → w'.cell? ⟨wr.heap.size + 1, 0, none⟩ = some (.int .u8 kd) ∧ w'.cell? ⟨wr.heap.size + 1, 1, none⟩ = some (.int .i64 p) ∧ w'.cell? ⟨wr.heap.size + 1, 2, none⟩ = some (.int .i64 q) ∧ w'.cell? ⟨wr.heap.size + 1, 3, none⟩ = some (.slice x m cm) ∧
            w'.cell? ⟨wr.heap.size + 1, 4, none⟩ = some (.int .i64 keep) ∧ w'.cell? ⟨wr.heap.size + 1, 5, none⟩ = some (.int .u8 (mask.toNat : Int)) ∧ w'.frozen? ⟨wr.heap.size + 1, 3, none⟩ = false from fun w' hw =>
          ⟨(HB10.out.below hw).cell 0, (HB10.out.below hw).cell 1, (HB10.out.below hw).cell 2, (HB10.out.below hw).cell 3, (HB10.out.below hw).cell 4, (HB10.out.below hw).cell 5, (HB10.out.below hw).melt 3⟩)
        go_wp2_with (at_builtin; first
          | (refine wpList_app1 oneB rfl _ _ _ rfl W.heap.size _ _ _ rfl HO0.out _ _ _ rfl ((SLW.out.below HB0.out).src encB_cell Try.underlying22 _) (by omega) (by unfold maxLen; omega) HB0.out.size ?_; intro v2 w2 hown2 hg2 hb2; obtain ⟨a5, c5, hv5, hown5⟩ := app_own hown2; subst hv5; have HO2 := Lib.hid hown5; have HB2 := Lib.hid (HB0.out.trans hb2); obtain ⟨d0, d1, d2, d10, d4, d5, f10⟩ := HD10.out w2 HB2.out; clear hown2 hown5 hg2 hb2))
        have HO3 := HO2.out
        obtain ⟨hs5, hc5⟩ := Sl.ofOwnS HO3
        have B10s := Lib.hid (show BoxAt (wr.heap.size + 1) #[.int .u8 kd, .int .i64 p, .int .i64 q, .slice a5 m c5, .int .i64 keep, .int .u8 (mask.toNat : Int)] 49 (w2.setCell ⟨wr.heap.size + 1, 3, none⟩ (.slice a5 m c5)) from
          heap_setC (show w2.heap[wr.heap.size + 1]? = _ from HB10.out.below HB2.out) 3 (.slice a5 m c5))
        have B9s := Lib.hid (show BoxAt wr.heap.size #[.int .u8 kd, .int .i64 p, .int .i64 q, .slice x m cm, .int .i64 keep, .int .u8 (mask.toNat : Int)] 49 (w2.setCell ⟨wr.heap.size + 1, 3, none⟩ (.slice a5 m c5)) by
          unfold BoxAt; rw [heap_setO (by omega)]; exact HB9.out.below HB2.out)
        have S5 := Lib.hid (hs5.set1 (o := 3) (v := .slice a5 m c5) (own_notIn HO3 hwl2))
        have SX6 := Lib.hid ((SLW.out.below HB2.out).set1 (g := wr.heap.size + 1) (o := 3) (v := .slice a5 m c5) (SL.out.notIn (by omega)))
        have HX5 := Lib.hid (show ∀ y ∈ [g, gb, gc, h, hb', hc], NotIn a5 m y from fun y hy => own_notIn HO3 (by have := HLT.out y hy; omega))
        have hbw := HW.out.trans (HB2.out.mono (by omega))
        have A6 := Lib.hid ((HA.out.below hbw).setO (x := wr.heap.size + 1) (o := 3) (v := .slice a5 m c5) (by have := HLT.out g (by simp); omega) (by have := HLT.out gb (by simp); omega) (by have := HLT.out gc (by simp); omega))
        have A7 := Lib.hid ((HB.out.below hbw).setO (x := wr.heap.size + 1) (o := 3) (v := .slice a5 m c5) (by have := HLT.out h (by simp); omega) (by have := HLT.out hb' (by simp); omega) (by have := HLT.out hc (by simp); omega))
        have HB6 := Lib.hid ((HBL.out.trans (hbw.mono hge1)).setCell (p := ⟨wr.heap.size + 1, 3, none⟩) (by show w1.heap.size ≤ wr.heap.size + 1; omega) (.slice a5 m c5))
        clear hs5 hbw d0 d1 d2 d4 d5 d10 f10 HO2 HO0 HB0 HB2 HB9 HB10 HW SLW HA HB HBL HO3 d93 SL
        generalize w2.setCell ⟨wr.heap.size + 1, 3, none⟩ (.slice a5 m c5) = W6 at B10s B9s S5 SX6 A6 A7 HB6 ⊢
        have c0 : W6.cell? ⟨wr.heap.size + 1, 0, none⟩ = some (.int .u8 kd) := B10s.out.cell 0
        have c1 : W6.cell? ⟨wr.heap.size + 1, 1, none⟩ = some (.int .i64 p) := B10s.out.cell 1
        have c2 : W6.cell? ⟨wr.heap.size + 1, 2, none⟩ = some (.int .i64 q) := B10s.out.cell 2
        have c3 : W6.cell? ⟨wr.heap.size + 1, 3, none⟩ = some (.slice a5 m c5) := B10s.out.cell 3
        have c4 : W6.cell? ⟨wr.heap.size + 1, 4, none⟩ = some (.int .i64 keep) := B10s.out.cell 4
        have c5' : W6.cell? ⟨wr.heap.size + 1, 5, none⟩ = some (.int .u8 (mask.toNat : Int)) := B10s.out.cell 5
        have DO := Lib.hid (do_any W6 g gb gc cb cc h hb' hc db dc f A6.out A7.out AP.out kd p q a5 m c5 ds keep mask kb HACT.out.1 HACT.out.2.1 HACT.out.2.2 S5.out hc5 (by unfold maxLen; omega) HX5.out)
        clear A6 A7
        go_wp2_with fail
        with_reducible refine DO.out.mono ?_
        rintro e w7 ⟨rfl, ⟨f', hA7, hB7, hg1, hg2, hg3⟩, hk7⟩
        have hni : wr.heap.size ∉ [g, gb, gc, h, hb', hc] := fun hy => absurd (HLT.out _ hy) (by omega)
        have hni2 : wr.heap.size + 1 ∉ [g, gb, gc, h, hb', hc] := fun hy => absurd (HLT.out _ hy) (by omega)
        have d10 : w7.cell? ⟨wr.heap.size + 1, 3, none⟩ = some (.slice a5 m c5) := (hk7.box B10s.out hni2).cell 3
        have d9 : w7.cell? ⟨wr.heap.size, 3, none⟩ = some (.slice x m cm) := (hk7.box B9s.out hni).cell 3
        have cv1 := run_conv (S5.out.keptL hk7 HX5.out) c5
        have cv2 := run_conv (SX6.out.keptL hk7 HX.out) cm
        have HP7 := Lib.hid (show PlayS w1 g gb gc cb cc h hb' hc db dc S Z L w7 from ⟨f', hA7, hB7, ⟨hg1.trans HGG.out.1, hg2.trans HGG.out.2.1, hg3.trans HGG.out.2.2⟩, hk7.below HB6.out (Nat.le_refl _) HGE.out⟩)
        clear DO hA7 hB7 hg1 hg2 hg3 hk7 hni hni2 c0 c1 c2 c3 c4 c5'
        go_wp2_with fail
        go_roundg (n - (j + 1))
        case measure => omega
        case rel => exact ⟨j + 1, by omega, rfl, by go_num, HP7⟩
      · obtain rfl : j = n := by omega
        have HA := Lib.hid hA
        have HB := Lib.hid hB
        have HBL := Lib.hid hbel
        have HGG := Lib.hid hgeo
        have AP2 := Lib.hid AP.out.swap
        clear hA hB hbel hgeo HP
        go_wp2_with fail
        with_reducible refine (Reset_any wr g gb gc cb cc f HA.out).mono ?_
        rintro e w6 ⟨rfl, hF, hkk⟩
        replace HA := Lib.hid hF
        replace HB := Lib.hid (HB.out.apart hkk AP.out)
        have HK := Lib.hid (hkk.list (bs := [g, gb, gc, h, hb', hc]) (by simp) (by simp) (by simp))
        clear hF hkk
        go_wp2_with fail
        with_reducible refine (refReset_any w6 h hb' hc db dc f HB.out).mono ?_
        rintro e w7 ⟨rfl, hF, hkk⟩
        replace HB := Lib.hid hF
        replace HA := Lib.hid (HA.out.apart hkk AP2.out)
        replace HK := Lib.hid (HK.out.trans (hkk.list (by simp) (by simp) (by simp)))
        have HB7 := Lib.hid (HK.out.below HBL.out (Nat.le_refl _) HGE.out)
        clear hF hkk
        have bg7 := BG1.out.below HB7.out
        have c0 : w7.cell? ⟨w.heap.size, 0, none⟩ = some (.int .i64 S) := bg7.cell 0
        have c1 : w7.cell? ⟨w.heap.size, 1, none⟩ = some (.int .i64 Z) := bg7.cell 1
        have hfl : f.reset.bs.length = al := by rw [HA.out.len]; show f.S * f.Z = al; rw [HGG.out.1, HGG.out.2.1]; exact HAL.out
        obtain ⟨r1, r2⟩ := read_all (f := f.reset) rfl hfl
        have PR := Read_any w7 g gb gc cb cc f.reset HA.out 0 al (by unfold IntR; omega) (by unfold IntR; omega)
        unfold ReadRet at PR
        rw [r1, r2] at PR
        replace PR := Lib.hid PR
        clear bg7 hfl r1 r2
        go_wp2_with fail
        with_reducible refine PR.out.mono ?_
        rintro e w8 ⟨a3, m3, k3, rfl, hown, hb8⟩
        have SR := Lib.hid (Sl.ofOwnS hown).1
        replace HA := Lib.hid (HA.out.below hb8)
        replace HB := Lib.hid (HB.out.below hb8)
        have HB8 := Lib.hid (HB7.out.trans (hb8.mono HB7.out.size))
        have hg0 := HGG.out
        obtain ⟨e0, e1, e2, e3, e4, e5, e6, e7, e8⟩ := HB.out.cells
        rw [show f.reset.S = S from hg0.1] at e4
        have BG8 := Lib.hid (BG1.out.below HB8.out)
        clear hown hb8 PR c0 c1 e0 e1 e2 e3 e5 e6 e7 e8 hg0
        go_wp2_with fail
        go_loopg [92] S (fun gn i wr => w8 = wr ∧ ∃ q : Nat, q ≤ S ∧ gn = S - q ∧ i = .int .i64 q)
        case atStart => exact ⟨rfl, 0, by omega, by omega, by go_num⟩
        case round =>
          obtain ⟨rfl, q, hq, rfl, rfl⟩ := hrel
          by_cases hqS : q < S
          · have hcq : w8.cell? ⟨hc, q, none⟩ = some (.int .i64 ((f.reset.cnt.getD q 0 : Nat) : Int)) := by
              have hS : q < f.reset.S := by rw [show f.reset.S = S from HGG.out.1]; exact hqS
              rw [(HB.out.rc.cell q hS).1]
              have : q < f.reset.cnt.length := by rw [HB.out.ok.hc]; exact hS
              simp [List.getD, this, encI]
            have PE := Erases_any w8 g gb gc cb cc f.reset HA.out q (by unfold IntR; omega)
            have hcount : f.reset.count (q : Int) = f.reset.cnt.getD q 0 := by
              unfold Fl.count
              rw [if_pos (by rw [show f.reset.S = S from HGG.out.1]; omega)]
              rfl
            rw [hcount] at PE
            generalize f.reset.cnt.getD q 0 = x at hcq PE
            have z1 : ((x : Int) == (x : Int)) = true := by simp
            have z2 : ((x : Int) != (x : Int)) = false := by simp
            replace PE := Lib.hid PE
            clear hcount
            go_wp2_with fail
            with_reducible refine PE.out.mono ?_
            rintro e w9 ⟨rfl, rfl⟩
            go_wp2_with fail
            go_roundg (S - (q + 1))
            case measure => omega
            case rel => exact ⟨rfl, q + 1, by omega, rfl, by go_num⟩
          · obtain rfl : q = S := by omega
            go_upto_region 26 with fail
            have hfl : f.reset.bs.length = al := by rw [HA.out.len]; show f.S * f.Z = al; rw [HGG.out.1, HGG.out.2.1]; exact HAL.out
            have hg0 := HGG.out
            have PG := HB.out.rb.sl
            rw [show f.reset.S = q from hg0.1, show f.reset.Z = Z from hg0.2.1, HAL.out] at PG
            have SG := Lib.hid PG
            refine wp_region_lexS (Below w8.heap.size w8) (.stir [(0, true), (1, true), (2, true), (3, true), (4, true), (5, true), (6, true), (7, true), (8, true), (9, true), (10, true), (11, true), (12, true), (13, true), (14, true), (15, true), (16, true), (17, true), (18, false), (19, true), (20, true), (21, true), (22, true)]) (by kernel_rfl) (by kernel_rfl) (fun c a d v w h => by cases d <;> exact h) ?_
            have hSw : Below w8.heap.size w8 w8.drew := (Below.refl _ _).drew
            refine lexS_stir (Below w8.heap.size w8) (fun _ h => h) hSw ?_
            have cvA := fun w' (h : Below w8.heap.size w8 w') => run_conv (SR.out.below h) k3
            have cvB := fun w' (h : Below w8.heap.size w8 w') => run_conv (SG.out.below h) db
            have ldB := fun w' (hw : Below w8.heap.size w8 w') => (show w'.cell? ⟨h, 3, none⟩ = some (.slice (some ⟨hb', 0, none⟩) al db) by
              have := (HB.out.below hw).cells.2.2.2.1
              rw [show f.reset.S = q from HGG.out.1, show f.reset.Z = Z from HGG.out.2.1, HAL.out] at this
              exact this)
            have ld0 := fun w' (hw : Below w8.heap.size w8 w') => (show w'.cell? ⟨w.heap.size, 0, none⟩ = some (.int .i64 q) from (BG8.out.below hw).cell 0)
            have ld1 := fun w' (hw : Below w8.heap.size w8 w') => (show w'.cell? ⟨w.heap.size, 1, none⟩ = some (.int .i64 Z) from (BG8.out.below hw).cell 1)
            have ld2 := fun w' (hw : Below w8.heap.size w8 w') => (show w'.cell? ⟨w.heap.size, 2, none⟩ = some (.int .i64 L) from (BG8.out.below hw).cell 2)
            have HC := Lib.hid (show ∀ w', Below w8.heap.size w8 w' → Calls Try.prog 22 #[.pointer (some ⟨g, 0, none⟩)] w' (fun e x' => e = .returned (.agg #[.int .i64 q, .int .i64 Z, .int .i64 L]) ∧ Below w8.heap.size w8 x') from fun w' hw =>
              (Geometry_any w' g gb gc cb cc f.reset (HA.out.below hw)).mono fun e x' hx => by
                obtain ⟨h1, h2⟩ := hx
                rw [show f.reset.S = q from HGG.out.1, show f.reset.Z = Z from HGG.out.2.1, show f.reset.L = L from HGG.out.2.2] at h1
                exact ⟨h1, hw.trans (h2.mono hw.size)⟩)
            have z0 : ((q : Int) == (q : Int)) = true := by simp
            have z1 : ((Z : Int) == (Z : Int)) = true := by simp
            have z2 : ((L : Int) == (L : Int)) = true := by simp
            have HEND := Lib.hid (H1.out.trans (HB8.out.mono H1.out.size))
            clear hg0 hfl PG e4
            iterate 18
              refine stir_step (fun K hK => ?_)
              simp only [stirOp, List.getElem?_toArray, List.getElem?_cons_succ, List.getElem?_cons_zero]
              rw [if_pos (by rfl)]
              apply Exists.intro
              refine ⟨fun w' hS' => ?_, ?_⟩
              · first | (go_simp <;> with_reducible rfl) | (go_simp; go_bits; with_reducible rfl)
              go_simp
              try go_bits
              refine hK _ ?_
              clear hK K
            refine stir_step (fun K hK => ?_)
            simp only [stirOp, List.getElem?_toArray, List.getElem?_cons_succ, List.getElem?_cons_zero]
            rw [if_pos (by rfl)]
            apply Exists.intro
            refine ⟨fun w' hS' => ?_, ?_⟩
            · go_simp
              exact Stirs.call (Calls.mono (HC.out w' hS') fun e w'' h => ⟨h.1, (fun hb'' => hb'') h.2⟩)
            go_simp
            refine hK _ ?_
            clear hK K
            iterate 4
              refine stir_step (fun K hK => ?_)
              simp only [stirOp, List.getElem?_toArray, List.getElem?_cons_succ, List.getElem?_cons_zero]
              rw [if_pos (by rfl)]
              apply Exists.intro
              refine ⟨fun w' hS' => ?_, ?_⟩
              · first | (go_simp <;> with_reducible rfl) | (go_simp; go_bits; with_reducible rfl)
              go_simp
              try go_bits
              refine hK _ ?_
              clear hK K
            refine stir_nil (fun y hy => ?_)
            have HY := Lib.hid (HEND.out.trans (hy.mono HEND.out.size))
            clear hy
            go_wp2_with fail
            go_ret
            exact ⟨rfl, HY.out⟩
end Go.Proofs.Ytjlcgffcfhfffaa
