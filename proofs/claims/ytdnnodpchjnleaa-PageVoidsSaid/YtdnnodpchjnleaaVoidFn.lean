/- page: Look, Open and Void over a flash of two sectors. No condition. -/
import Derived.Test.YtdnnodpchjnleaaVoidP
import Derived.Test.YtdnnodpchjnleaaContains
import Derived.Test.YtdnnodpchjnleaaRegionS
namespace Go.Proofs.Ytdnnodpchjnleaa
open Go.ChangeShapes Go.WideShapes Go.ChangeAt Go.RowKit
theorem infoSec : (Try.prog.info? 33).map (·.size) = some 3 := by kernel_rfl
/-- A block of three cells. -/
def Tri (w : World) (g : Nat) (x y z : Value) (t : TypeId) : Prop := w.heap[g]? = some (.cells #[x, y, z] t)
theorem Tri.below {w w' : World} {g : Nat} {x y z : Value} {t : TypeId} (h : Tri w g x y z t) (hb : Below w.heap.size w w') : Tri w' g x y z t := by
  unfold Tri at *
  rw [hb.block g (Array.getElem?_eq_some_iff.1 h).1]; exact h
theorem Tri.cells {w : World} {g : Nat} {x y z : Value} {t : TypeId} (h : Tri w g x y z t) : (w.cell? ⟨g, 0, none⟩ = some x ∧ w.cell? ⟨g, 1, none⟩ = some y ∧ w.cell? ⟨g, 2, none⟩ = some z) ∧ (∀ i, w.frozen? ⟨g, i, none⟩ = false) ∧ g < w.heap.size := by
  refine ⟨⟨?_, ?_, ?_⟩, fun i => ?_, (Array.getElem?_eq_some_iff.1 h).1⟩
  · rw [cell_of_row w g 0 _ _ _ h]; rfl
  · rw [cell_of_row w g 1 _ _ _ h]; rfl
  · rw [cell_of_row w g 2 _ _ _ h]; rfl
  · unfold World.frozen?; rw [show w.heap[g]? = _ from h]; rfl
theorem Tri.set {w : World} {g : Nat} {x y z x' y' z' : Value} {t : TypeId} (h : Tri w g x y z t) : Tri (((w.setCell ⟨g, 0, none⟩ x').setCell ⟨g, 1, none⟩ y').setCell ⟨g, 2, none⟩ z') g x' y' z' t :=
  heap_set (heap_set (heap_set h 0 x') 1 y') 2 z'
theorem Tri.set0 {w : World} {g : Nat} {x y z x' : Value} {t : TypeId} (h : Tri w g x y z t) : Tri (w.setCell ⟨g, 0, none⟩ x') g x' y z t := heap_set h 0 x'
theorem Tri.set1 {w : World} {g : Nat} {x y z y' : Value} {t : TypeId} (h : Tri w g x y z t) : Tri (w.setCell ⟨g, 1, none⟩ y') g x y' z t := heap_set h 1 y'
theorem Tri.alloc {w : World} {g : Nat} {x y z : Value} {t : TypeId} (h : Tri w g x y z t) (o : Obj) : Tri (w.alloc o) g x y z t := h.below ((Below.refl _ _).alloc (Nat.le_refl _) _)
theorem Tri.other {w : World} {g k o : Nat} {x y z v : Value} {t : TypeId} (h : Tri w g x y z t) (hk : g ≠ k) : Tri (w.setCell ⟨k, o, none⟩ v) g x y z t := by
  unfold Tri at *
  rw [heap_setO hk]; exact h
theorem odd_any (w : World) (c : UInt8) : Calls Try.prog 31 #[.int .u8 (c.toNat : Int)] w fun e w' => e = .returned (.bool (c != 255)) ∧ w = w' := by
  have hO : (c != 255) = ((c.toNat : Int) != 255) := by
    rw [Bool.eq_iff_iff]
    simp only [bne_iff_ne, ne_eq]
    rw [← UInt8.toNat_inj]
    show ¬ c.toNat = 255 ↔ _
    omega
  have HO := Lib.hid hO
  clear hO
  have hx : c.toNat < 256 := c.toNat_lt
  generalize c.toNat = x at *
  go_enter Try.func31, Try.ntmps31
  go_wp2
  go_ret
  exact ⟨by rw [HO.out]; rfl, rfl⟩
theorem enter_odd (args : Array Value) (w : World) : (callFunc 31 args).run Try.prog w = .ok (.enter 31 args) w := by kernel_rfl
theorem any_blank (R : List UInt8) : R.any (fun c => c != 255) = !R.all (fun c => c == 255) := by
  induction R with
  | nil => rfl
  | cons x R ih => simp only [List.any_cons, List.all_cons, ih]; cases h : x == 255 <;> simp [bne, h]
/-- A cell that a drawn region reads. -/
def HdS (g q : Nat) (w : World) : Prop := w.cell? ⟨g, 0, none⟩ = some (.int .u32 (q : Nat))
/-- What Look answers. -/
def LookR (R : List UInt8) (er : Nat) (w : World) (e : Ending) (w' : World) : Prop := e = .returned (.tuple #[.agg #[.int .i64 (stateR R).1, .int .u32 ((stateR R).2 : Nat), .int .i64 er], .int .i64 0]) ∧ Below w.heap.size w w'
set_option maxRecDepth 100000 in
set_option maxHeartbeats 4000000 in
theorem Look_pf (w : World) (g gb gc cb cc : Nat) (A R : List UInt8) (c : List Nat) (keep : Int) (mask : UInt8) (hf : FlA w g gb gc cb cc (pf (A ++ R) c keep mask)) (hA : A.length = 84) (hR : R.length = 84) (er : Nat) (her : c.getD 1 0 = er) :
    Calls Try.prog 11 #[.pointer (some ⟨g, 0, none⟩), .int .i64 1] w (LookR R er w) := by
  have HG := Lib.hid (fun (w1 : World) (h : Below w.heap.size w w1) => (show Calls Try.prog 27 #[.pointer (some ⟨g, 0, none⟩)] w1 (fun e w' => e = .returned (.agg #[.int .i64 2, .int .i64 84, .int .i64 9]) ∧ Below w1.heap.size w1 w') from Geometry_any w1 g gb gc cb cc _ (hf.below h)))
  have HRD := Lib.hid (fun (w1 : World) (h : Below w.heap.size w w1) => Read_any w1 g gb gc cb cc _ (hf.below h) 84 84 (by unfold IntR; omega) (by unfold IntR; omega))
  have HER := Lib.hid (fun (w1 : World) (h : Below w.heap.size w w1) => Erases_any w1 g gb gc cb cc _ (hf.below h) 1 (by unfold IntR; omega))
  rw [show ((pf (A ++ R) c keep mask).count 1) = er by rw [← her]; rfl] at HER
  unfold ReadRet at HRD
  rw [(pf_read A R c keep mask hA hR).1, (pf_read A R c keep mask hA hR).2] at HRD
  have HR := Lib.hid hR
  clear hf hA hR her
  have K0 := Lib.hid (show Tri (w.alloc (.cells #[.int .i64 0, .int .u32 0, .int .i64 0] 33)) w.heap.size _ _ _ _ from heap_alloc_last w _)
  have H0 := Lib.hid ((Below.refl w.heap.size w).alloc (Nat.le_refl _) (.cells #[.int .i64 0, .int .u32 0, .int .i64 0] 33))
  go_enter Try.func11, Try.ntmps11
  go_wp2_with fail
  refine (HG.out _ H0.out).mono ?_
  rintro e w1 ⟨rfl, hb⟩
  have K1 := Lib.hid ((K0.out.below hb).alloc (.cells #[.int .i64 2, .int .i64 84, .int .i64 9] 43))
  have H1 := Lib.hid ((H0.out.trans (hb.mono H0.out.size)).alloc (Nat.le_trans H0.out.size hb.size) (.cells #[.int .i64 2, .int .i64 84, .int .i64 9] 43))
  have hlt1 : w.heap.size < w1.heap.size := by have := (K0.out.below hb).cells.2.2; exact this
  clear hb K0 H0 HG
  go_upto_region 2 with fail
  have T1 := Lib.hid (show Tri (w1.alloc (.cells #[.int .i64 2, .int .i64 84, .int .i64 9] 43)) w1.heap.size _ _ _ _ from heap_alloc_last w1 _)
  generalize w1.alloc (.cells #[.int .i64 2, .int .i64 84, .int .i64 9] 43) = W2 at *
  generalize w1.heap.size = g1 at *
  obtain ⟨⟨c0, c1, c2⟩, cf, clt⟩ := T1.out.cells
  clear cf
  go_wp2_with fail
  refine (HRD.out W2 H1.out).mono ?_
  rintro e W3 ⟨a, m, cp, rfl, hown, hb3⟩
  obtain ⟨hs3, hc3⟩ := Sl.ofOwnS hown
  obtain rfl : m = 84 := by rw [← hs3.1]; exact HR.out
  have HS := Lib.hid hs3
  have K3 := Lib.hid (K1.out.below hb3)
  have H3 := Lib.hid (H1.out.trans (hb3.mono H1.out.size))
  clear c0 c1 c2 clt hown hs3 hb3 HRD K1 H1 T1
  go_wp2_with fail
  refine (HER.out W3 H3.out).mono ?_
  rintro e w4 ⟨rfl, rfl⟩
  go_upto_region 8 with fail
  have T4 := Lib.hid (show Tri (W3.alloc (.cells #[.int .i64 1, .int .u32 0, .int .i64 er] 33)) W3.heap.size _ _ _ _ from heap_alloc_last W3 _)
  have hal : Below W3.heap.size W3 (W3.alloc (.cells #[.int .i64 1, .int .u32 0, .int .i64 er] 33)) := (Below.refl _ _).alloc (Nat.le_refl _) _
  have HS4 := Lib.hid (HS.out.below hal)
  have K4 := Lib.hid (K3.out.below hal)
  have H4 := Lib.hid (H3.out.trans (hal.mono H3.out.size))
  have hlt4 : w.heap.size < W3.heap.size := K3.out.cells.2.2
  clear hal HS K3 H3 HER
  generalize W3.alloc (.cells #[.int .i64 1, .int .u32 0, .int .i64 er] 33) = W4 at *
  generalize W3.heap.size = g4 at *
  have HP := Lib.hid (Parse_any W4 a 84 cp R HS4.out (by omega) hc3)
  unfold HeadRet at HP
  have hst : stateR R = if R.all (fun c => c == 255) = true then (0, 0) else if (headR R).err = 0 ∧ (headR R).live = true ∧ (headR R).void = false then (2, (headR R).seq) else (1, 0) := rfl
  have HC := Lib.hid (fun (w1 : World) (h : Sl encB w1 a 84 R) => ContainsFunc_any w1 a 84 cp R 31 (fun c => c != 255) h (by omega) enter_odd odd_any)
  rw [any_blank] at HC
  generalize headR R = hr at hst HP
  obtain ⟨q, l, v, er2⟩ := hr
  simp only at hst HP
  generalize R.all (fun c => c == 255) = b0 at hst HC
  unfold LookR headV at *
  have HST := Lib.hid hst
  clear hst
  go_wp2_with fail
  refine HP.out.mono ?_
  rintro e W5 ⟨rfl, hb5⟩
  go_upto_region 9 with fail
  have T6 := Lib.hid (show Tri (W5.alloc (.cells #[.int .u32 q, .bool l, .bool v] 26)) W5.heap.size _ _ _ _ from heap_alloc_last W5 _)
  have hal : Below W5.heap.size W5 (W5.alloc (.cells #[.int .u32 q, .bool l, .bool v] 26)) := (Below.refl _ _).alloc (Nat.le_refl _) _
  have hb6 := hb5.trans (hal.mono hb5.size)
  have HS6 := Lib.hid (HS4.out.below hb6)
  have K6 := Lib.hid (K4.out.below hb6)
  have X6 := Lib.hid (T4.out.below hb6)
  have H6 := Lib.hid (H4.out.trans (hb6.mono H4.out.size))
  have hlt6 : g4 < W5.heap.size := by have := (T4.out.below hb5).cells.2.2; exact this
  clear hal hb5 hb6 HS4 K4 T4 H4 HP
  generalize W5.alloc (.cells #[.int .u32 q, .bool l, .bool v] 26) = W6 at *
  generalize W5.heap.size = g6 at *
  go_wp2_with fail
  refine (HC.out W6 HS6.out).mono ?_
  rintro e w7 ⟨rfl, rfl⟩
  have hne : w.heap.size ≠ g4 := by omega
  have hne2 : g6 ≠ g4 := by omega
  cases b0 with
  | true =>
    have HSS := Lib.hid (show stateR R = (0, 0) from HST.out)
    obtain ⟨⟨c0, c1, c2⟩, xf, clt⟩ := X6.out.cells
    have x0 := xf 0
    clear xf
    go_upto_region 13 with fail
    clear c0 c1 c2 x0 clt
    have X7 := Lib.hid (X6.out.set0 (x' := .int .i64 0))
    have K7 := Lib.hid (K6.out.other (o := 0) (v := .int .i64 0) hne)
    have H7 := Lib.hid (H6.out.setCell (p := ⟨g4, 0, none⟩) (by show w.heap.size ≤ g4; omega) (.int .i64 0))
    generalize W6.setCell ⟨g4, 0, none⟩ (.int .i64 0) = W7 at *
    obtain ⟨⟨c0, c1, c2⟩, cf, clt⟩ := X7.out.cells
    obtain ⟨_, kf, klt⟩ := K7.out.cells
    have f0 := kf 0
    have f1 := kf 1
    have f2 := kf 2
    clear kf cf
    go_wp2_with fail
    exact bodyPost_ret (results_cell_row_tmp rfl _ _ w.heap.size _ _ _ _ rfl (K7.out.set (x' := .int .i64 0) (y' := .int .u32 ((0 : Nat) : Int)) (z' := .int .i64 er)) Try.underlying33 rfl infoSec) rfl ⟨by rw [HSS.out]; rfl, H7.out.trans (keep3 w.heap.size W7 (.int .i64 0) (.int .u32 ((0 : Nat) : Int)) (.int .i64 er))⟩
  | false =>
    by_cases hu : er2 = 0 ∧ l = true ∧ v = false
    · have HSS := Lib.hid (show stateR R = (2, q) by rw [HST.out, if_neg (by decide), if_pos hu])
      obtain ⟨rfl, rfl, rfl⟩ := hu
      obtain ⟨⟨c0, c1, c2⟩, xf, clt⟩ := X6.out.cells
      obtain ⟨⟨d0, d1, d2⟩, df, dlt⟩ := T6.out.cells
      clear df
      have x0 := xf 0
      have x1 := xf 1
      clear xf
      go_upto_region 12 with fail
      have ld := fun w' (h : HdS g6 q w') => (show w'.cell? ⟨g6, 0, none⟩ = some (.int .u32 q) from h)
      have hSw : HdS g6 q W6.drew := d0
      refine wp_region_lexS (HdS g6 q) (.of [(0, true), (1, true), (2, true), (3, false), (4, true), (5, false)] (.stir [])) (by kernel_rfl) (by kernel_rfl) (fun c a d v w h => by cases d <;> exact h) ?_
      iterate 3
        refine lexS_step (fun K hK => ?_)
        simp only [lexOp, List.getElem?_toArray, List.getElem?_cons_succ, List.getElem?_cons_zero]
        rw [if_pos (by rfl)]
        apply Exists.intro
        refine ⟨fun w' hS' => ?_, hSw, ?_⟩
        · first | (go_simp <;> with_reducible rfl) | (go_simp; go_bits; with_reducible rfl)
        go_simp
        try go_bits
        refine hK _ _ ?_
        clear hK K
      refine lexS_step (fun K hK => ?_)
      simp only [lexOp, List.getElem?_toArray, List.getElem?_cons_succ, List.getElem?_cons_zero]
      rw [if_pos (by rfl)]
      go_step
      have hS1 : HdS g6 q (W6.drew.setCell ⟨g4, 0, none⟩ (.int .i64 2)) := by
        unfold HdS World.cell?
        rw [heap_setO hne2]
        exact d0
      refine ⟨hS1, hK _ _ ?_⟩
      clear hK K hSw
      have hSw := hS1
      iterate 1
        refine lexS_step (fun K hK => ?_)
        simp only [lexOp, List.getElem?_toArray, List.getElem?_cons_succ, List.getElem?_cons_zero]
        rw [if_pos (by rfl)]
        apply Exists.intro
        refine ⟨fun w' hS' => ?_, hSw, ?_⟩
        · first | (go_simp <;> with_reducible rfl) | (go_simp; go_bits; with_reducible rfl)
        go_simp
        try go_bits
        refine hK _ _ ?_
        clear hK K
      refine lexS_step (fun K hK => ?_)
      simp only [lexOp, List.getElem?_toArray, List.getElem?_cons_succ, List.getElem?_cons_zero]
      rw [if_pos (by rfl)]
      go_step
      have hS2 : HdS g6 q ((W6.drew.setCell ⟨g4, 0, none⟩ (.int .i64 2)).setCell ⟨g4, 1, none⟩ (.int .u32 q)) := by
        unfold HdS World.cell?
        rw [heap_setO hne2]
        exact hS1
      refine ⟨hS2, hK _ _ ?_⟩
      clear hK K
      refine lexS_stir (fun y => y = (W6.drew.setCell ⟨g4, 0, none⟩ (.int .i64 2)).setCell ⟨g4, 1, none⟩ (.int .u32 q)) (fun y hy => hy ▸ hS2) rfl ?_
      refine stir_nil (fun y hy => ?_)
      subst hy
      have X7 := Lib.hid (show Tri ((W6.drew.setCell ⟨g4, 0, none⟩ (.int .i64 2)).setCell ⟨g4, 1, none⟩ (.int .u32 q)) g4 (.int .i64 2) (.int .u32 q) (.int .i64 er) _ from ((X6.out.below (Below.refl _ _).drew).set0).set1)
      have K7 := Lib.hid (show Tri ((W6.drew.setCell ⟨g4, 0, none⟩ (.int .i64 2)).setCell ⟨g4, 1, none⟩ (.int .u32 q)) w.heap.size _ _ _ _ from ((K6.out.below (Below.refl _ _).drew).other hne).other hne)
      have H7 := Lib.hid ((H6.out.drew.setCell (p := ⟨g4, 0, none⟩) (by show w.heap.size ≤ g4; omega) (.int .i64 2)).setCell (p := ⟨g4, 1, none⟩) (by show w.heap.size ≤ g4; omega) (.int .u32 q))
      clear d0 d1 d2 dlt c0 c1 c2 clt x0 x1 hS1 hS2 hSw ld
      generalize (W6.drew.setCell ⟨g4, 0, none⟩ (.int .i64 2)).setCell ⟨g4, 1, none⟩ (.int .u32 q) = W7 at *
      obtain ⟨⟨c0, c1, c2⟩, cf, clt⟩ := X7.out.cells
      obtain ⟨_, kf, klt⟩ := K7.out.cells
      have f0 := kf 0
      have f1 := kf 1
      have f2 := kf 2
      clear kf cf
      go_wp2_with fail
      exact bodyPost_ret (results_cell_row_tmp rfl _ _ w.heap.size _ _ _ _ rfl (K7.out.set (x' := .int .i64 2) (y' := .int .u32 q) (z' := .int .i64 er)) Try.underlying33 rfl infoSec) rfl ⟨by rw [HSS.out]; rfl, H7.out.trans (keep3 w.heap.size W7 (.int .i64 2) (.int .u32 q) (.int .i64 er))⟩
    · have HSS := Lib.hid (show stateR R = (1, 0) by rw [HST.out, if_neg (by decide), if_neg hu])
      have hq : (decide (er2 = 0) && l && !v) = false := by
        rw [Bool.eq_false_iff]
        intro h
        simp at h
        exact hu ⟨h.1.1, h.1.2, h.2⟩
      obtain ⟨⟨d0, d1, d2⟩, df, dlt⟩ := T6.out.cells
      clear df
      by_cases h2 : er2 = 0
      · subst h2
        cases l with
        | false =>
          clear hu hq
          go_upto_region 13 with fail
          clear d0 d1 d2 dlt
          obtain ⟨⟨c0, c1, c2⟩, cf, clt⟩ := X6.out.cells
          obtain ⟨_, kf, klt⟩ := K6.out.cells
          have f0 := kf 0
          have f1 := kf 1
          have f2 := kf 2
          clear kf cf
          go_wp2_with fail
          exact bodyPost_ret (results_cell_row_tmp rfl _ _ w.heap.size _ _ _ _ rfl (K6.out.set (x' := .int .i64 1) (y' := .int .u32 ((0 : Nat) : Int)) (z' := .int .i64 er)) Try.underlying33 rfl infoSec) rfl ⟨by rw [HSS.out]; rfl, H6.out.trans (keep3 w.heap.size W6 (.int .i64 1) (.int .u32 ((0 : Nat) : Int)) (.int .i64 er))⟩
        | true =>
          cases v with
          | false => exact absurd ⟨rfl, rfl, rfl⟩ hu
          | true =>
            clear hu hq
            go_upto_region 13 with fail
            clear d0 d1 d2 dlt
            obtain ⟨⟨c0, c1, c2⟩, cf, clt⟩ := X6.out.cells
            obtain ⟨_, kf, klt⟩ := K6.out.cells
            have f0 := kf 0
            have f1 := kf 1
            have f2 := kf 2
            clear kf cf
            go_wp2_with fail
            exact bodyPost_ret (results_cell_row_tmp rfl _ _ w.heap.size _ _ _ _ rfl (K6.out.set (x' := .int .i64 1) (y' := .int .u32 ((0 : Nat) : Int)) (z' := .int .i64 er)) Try.underlying33 rfl infoSec) rfl ⟨by rw [HSS.out]; rfl, H6.out.trans (keep3 w.heap.size W6 (.int .i64 1) (.int .u32 ((0 : Nat) : Int)) (.int .i64 er))⟩
      · have e1 : (er2 == 0) = false := by simp [h2]
        clear h2 hu hq
        go_upto_region 13 with fail
        clear d0 d1 d2 dlt
        obtain ⟨⟨c0, c1, c2⟩, cf, clt⟩ := X6.out.cells
        obtain ⟨_, kf, klt⟩ := K6.out.cells
        have f0 := kf 0
        have f1 := kf 1
        have f2 := kf 2
        clear kf cf
        go_wp2_with fail
        exact bodyPost_ret (results_cell_row_tmp rfl _ _ w.heap.size _ _ _ _ rfl (K6.out.set (x' := .int .i64 1) (y' := .int .u32 ((0 : Nat) : Int)) (z' := .int .i64 er)) Try.underlying33 rfl infoSec) rfl ⟨by rw [HSS.out]; rfl, H6.out.trans (keep3 w.heap.size W6 (.int .i64 1) (.int .u32 ((0 : Nat) : Int)) (.int .i64 er))⟩
end Go.Proofs.Ytdnnodpchjnleaa
