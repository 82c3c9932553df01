/- nor: the walk of NorWears. No condition. -/
import Derived.Test.YtjlcgffcfhfffaaNorOpen
namespace Go.Proofs.Ytjlcgffcfhfffaa
open Go.ChangeShapes Go.WideShapes Go.ChangeAt Go.RowKit
open Fl
set_option maxRecDepth 100000 in
set_option maxHeartbeats 4000000 in
theorem small_any (w : World) (s b n : Nat) (hs : s ≤ 255) (hb : b ≤ 255) (hn : n ≤ 255) :
    Calls Try.prog 9 #[.int .u8 s, .int .u8 b, .int .u8 n] w fun e w' => e = .returned (.agg #[.int .i64 ((1 + s % 5 : Nat) : Int), .int .i64 ((64 + b % 80 : Nat) : Int), .int .i64 ((1 + n % 6 : Nat) : Int)]) ∧ Below w.heap.size w w' := by
  obtain ⟨a1, h1, k1⟩ : ∃ a : Nat, (s : Int) % 5 = a ∧ s % 5 = a := ⟨_, by omega, rfl⟩
  obtain ⟨a2, h2, k2⟩ : ∃ a : Nat, (b : Int) % 80 = a ∧ b % 80 = a := ⟨_, by omega, rfl⟩
  obtain ⟨a3, h3, k3⟩ : ∃ a : Nat, (n : Int) % 6 = a ∧ n % 6 = a := ⟨_, by omega, rfl⟩
  have l1 : a1 ≤ 4 := by omega
  have l2 : a2 ≤ 79 := by omega
  have l3 : a3 ≤ 5 := by omega
  rw [k1, k2, k3]
  rw [show ((1 + a1 : Nat) : Int) = 1 + (a1 : Int) by omega, show ((64 + a2 : Nat) : Int) = 64 + (a2 : Int) by omega, show ((1 + a3 : Nat) : Int) = 1 + (a3 : Int) by omega]
  clear k1 k2 k3
  go_enter Try.func9, Try.ntmps9
  go_wp2_with fail
  exact bodyPost_ret (results_cell_row rfl _ _ w.heap.size _ _ _ _ rfl (heap_alloc_last w _) Try.underlying25 rfl infoGeo) rfl ⟨rfl, (Below.refl _ _).alloc (Nat.le_refl _) _⟩
/-- A geometry's three cells. -/
structure GeoS (g S Z L : Nat) (w : World) : Prop where
  c0 : w.cell? ⟨g, 0, none⟩ = some (.int .i64 S)
  c1 : w.cell? ⟨g, 1, none⟩ = some (.int .i64 Z)
  c2 : w.cell? ⟨g, 2, none⟩ = some (.int .i64 L)
  lt : g < w.heap.size
theorem GeoS.below {g S Z L : Nat} {w w' : World} (h : GeoS g S Z L w) (hb : Below w.heap.size w w') : GeoS g S Z L w' :=
  ⟨(hb.cell h.lt).trans h.c0, (hb.cell h.lt).trans h.c1, (hb.cell h.lt).trans h.c2, Nat.lt_of_lt_of_le h.lt hb.size⟩
theorem GeoS.new (w : World) (S Z L : Nat) (t : TypeId) : GeoS w.heap.size S Z L (w.alloc (.cells #[.int .i64 S, .int .i64 Z, .int .i64 L] t)) :=
  ⟨by rw [cell_of_row _ w.heap.size 0 _ _ _ (heap_alloc_last w _)]; rfl, by rw [cell_of_row _ w.heap.size 1 _ _ _ (heap_alloc_last w _)]; rfl, by rw [cell_of_row _ w.heap.size 2 _ _ _ (heap_alloc_last w _)]; rfl, by simp⟩
def WornAt (B : Nat) (W0 : World) (g gb gc cb cc S Z L k o i : Nat) (bs : List UInt8) (w : World) : Prop := ∃ f, Worn S Z L k o i bs f ∧ FlAt B w g gb gc cb cc f ∧ Below B W0 w
/-- What the last region keeps. -/
structure KeptF (g gb gc cb cc : Nat) (f : Fl) (w0 x : World) : Prop where
  kp : Kept g gb gc w0 x
  fl : FlA x g gb gc cb cc f
set_option maxRecDepth 100000 in
set_option maxHeartbeats 8000000 in
theorem walk_NorWears (s b n sc : Int) (a : Option Addr) (len cap : Nat) (z : List Int) (w : World) (hs : (Lit.int .u8 s).wf = true) (hb : (Lit.int .u8 b).wf = true) (hn : (Lit.int .u8 n).wf = true) (hc : (Lit.int .u8 sc).wf = true) (h0 : IsRow .u8 w a len cap z) :
    Calls Try.prog 3 #[.int .u8 s, .int .u8 b, .int .u8 n, .int .u8 sc, .slice a len cap] w fun e w' => e = .returned (.bool true) ∧ Below w.heap.size w w' := by
  obtain ⟨s1, s2⟩ := bounds_u8 hs
  obtain ⟨b1, b2⟩ := bounds_u8 hb
  obtain ⟨n1, n2⟩ := bounds_u8 hn
  obtain ⟨c1, c2⟩ := bounds_u8 hc
  clear hs hb hn hc
  obtain ⟨s, rfl⟩ : ∃ k : Nat, s = k := ⟨s.toNat, by omega⟩
  obtain ⟨b, rfl⟩ : ∃ k : Nat, b = k := ⟨b.toNat, by omega⟩
  obtain ⟨n, rfl⟩ : ∃ k : Nat, n = k := ⟨n.toNat, by omega⟩
  obtain ⟨sc, rfl⟩ : ∃ k : Nat, sc = k := ⟨sc.toNat, by omega⟩
  have hcap := Row.cap h0
  obtain ⟨bs, hbs, hln⟩ := Bs.ofRow h0
  unfold maxLen at hln
  have SB := Lib.hid hbs.sl
  have HL := Lib.hid hbs.1
  have FX := Lib.hid (fixed_any w)
  clear h0 hbs
  go_enter Try.func3, Try.ntmps3
  go_wp2_with fail
  with_reducible refine FX.out.mono ?_
  rintro e w1 ⟨rfl, hb⟩
  have HA := Lib.hid hb
  clear hb FX
  by_cases hl : 60 < len
  · go_wp2_with fail
    go_ret
    exact ⟨rfl, HA.out⟩
  have SM := small_any w1 s b n (by omega) (by omega) (by omega)
  obtain ⟨S, hS, hS1⟩ : ∃ S, 1 + s % 5 = S ∧ (1 ≤ S ∧ S ≤ 5) := ⟨_, rfl, by omega⟩
  obtain ⟨Z, hZ, hZ1⟩ : ∃ Z, 64 + b % 80 = Z ∧ (64 ≤ Z ∧ Z ≤ 143) := ⟨_, rfl, by omega⟩
  obtain ⟨L, hL, hL1⟩ : ∃ L, 1 + n % 6 = L ∧ (1 ≤ L ∧ L ≤ 6) := ⟨_, rfl, by omega⟩
  rw [hS, hZ, hL] at SM
  replace SM := Lib.hid SM
  clear hS hZ hL s1 s2 b1 b2 n1 n2
  go_wp2_with fail
  with_reducible refine SM.out.mono ?_
  rintro e w2 ⟨rfl, hb⟩
  go_upto_region 6 with fail
  have HG := Lib.hid (GeoS.new w2 S Z L 25)
  have HA2 := Lib.hid ((HA.out.trans (hb.mono HA.out.size)).alloc (Nat.le_trans HA.out.size hb.size) (.cells #[.int .i64 S, .int .i64 Z, .int .i64 L] 25))
  generalize hG : w2.heap.size = G at HG ⊢
  generalize w2.alloc (.cells #[.int .i64 S, .int .i64 Z, .int .i64 L] 25) = W3 at HG HA2 ⊢
  clear hG hb HA SM
  obtain ⟨g0, g1, g2, glt⟩ := HG.out
  have HOK := Lib.hid (show newOk S Z L from ⟨by omega, by omega, by omega⟩)
  have N1 := Lib.hid (New_made W3 S Z L HOK.out)
  obtain ⟨k, hk, hkS⟩ : ∃ k : Nat, (sc : Int) % (S : Int) = k ∧ k < S := ⟨sc % S, by simp, Nat.mod_lt _ (by omega)⟩
  obtain ⟨o, ho, hoS⟩ : ∃ o : Nat, ((k : Int) + 1) % (S : Int) = o ∧ o < S := ⟨(k + 1) % S, by simp, Nat.mod_lt _ (by omega)⟩
  obtain ⟨p, hp⟩ : ∃ p : Nat, o * Z = p := ⟨_, rfl⟩
  have hpb : p ≤ 715 := by rw [← hp]; have := Nat.mul_le_mul (show o ≤ 5 by omega) hZ1.2; omega
  have hpi : (o : Int) * (Z : Int) = (p : Int) := by rw [← hp]; simp
  have nz : ¬ S = 0 := by omega
  have HP := Lib.hid hp
  clear hp
  go_wp2_with fail
  with_reducible refine N1.out.mono ?_
  rintro e w4 ⟨g, gb, gc, cb, cc, rfl, hF, hb⟩
  have HF := Lib.hid hF
  have HB := Lib.hid hb
  have hG4 := HG.out.below hb
  obtain ⟨d0, d1, d2, dlt⟩ := hG4
  have sB := HA2.out.size
  have hw0 := worn_start (k := k) (Fl.mk0_ok (by omega) (by omega) (by omega) (by omega) (by omega) (by omega) : (Fl.mk0 S Z L).Ok) hoS (show bs.length ≤ Z by have := HL.out; omega)
  have PP := Lib.hid (Program_at W3.heap.size W3 w4 g gb gc cb cc _ HF.out HB.out (Nat.le_refl _) p a len cap bs (SB.out.below (HA2.out.trans (hb.mono sB))) hcap (by unfold IntR; omega) (by unfold maxLen; omega) (NotIn.old SB.out sB HF.out.b1) (NotIn.old SB.out sB HF.out.b2) (NotIn.old SB.out sB HF.out.b3))
  rw [HP.out] at hw0
  generalize (Fl.mk0 S Z L).prog p bs = f0 at hw0 PP
  have HW0 := Lib.hid hw0
  clear hF hb N1 g0 g1 g2 glt hw0
  go_wp2_with fail
  with_reducible refine PP.out.mono ?_
  rintro e w5 ⟨rfl, hF, hb⟩
  have HW := Lib.hid (show WornAt W3.heap.size W3 g gb gc cb cc S Z L k o 0 bs w5 from ⟨f0, HW0.out, hF, hb⟩)
  obtain ⟨d0, d1, d2, dlt⟩ := HG.out.below hb
  clear hF hb PP HF HB HW0
  go_wp2_with fail
  go_loopg [52] L (fun gn i wr => ∃ j : Nat, j ≤ L ∧ gn = L - j ∧ i = .int .i64 j ∧ Hid (WornAt W3.heap.size W3 g gb gc cb cc S Z L k o j bs wr))
  case atStart => exact ⟨0, by omega, by omega, by go_num, HW⟩
  case round =>
    obtain ⟨j, hj, rfl, rfl, HW⟩ := hrel
    obtain ⟨f, hwf, hF, hb⟩ := HW.out
    have HWF := Lib.hid hwf
    have HF := Lib.hid hF
    have HB := Lib.hid hb
    clear d0 d1 d2 dlt
    obtain ⟨d0, d1, d2, dlt⟩ := HG.out.below hb
    by_cases hlt : j < L
    · obtain ⟨e1, e2, e3⟩ := worn_step hwf hkS hoS (by have := HL.out; omega) hlt
      have PC := Lib.hid (Erases_at W3.heap.size wr g gb gc cb cc f HF.out k (by unfold IntR; omega))
      have PE := Lib.hid (Erase_at W3.heap.size W3 wr g gb gc cb cc f HF.out HB.out (Nat.le_refl _) k (by unfold IntR; omega))
      rw [e1] at PC
      rw [e2] at PE
      have HWE := Lib.hid e3
      clear e1 e2 e3 hwf hF hb
      go_wp2_with fail
      with_reducible refine PC.out.mono ?_
      rintro e w6 ⟨rfl, rfl⟩
      go_wp2_with fail
      with_reducible refine PE.out.mono ?_
      rintro e w7 ⟨rfl, hF, hb⟩
      have HW7 := Lib.hid (show WornAt W3.heap.size W3 g gb gc cb cc S Z L k o (j + 1) bs w7 from ⟨_, HWE.out, hF, hb⟩)
      clear hF hb PC PE
      go_wp2_with fail
      go_roundg (L - (j + 1))
      case measure => omega
      case rel => exact ⟨j + 1, by omega, rfl, by go_num, HW7⟩
    · obtain rfl : j = L := by omega
      obtain ⟨e1, e2, e3, e4, e5⟩ := worn_end hwf hkS hoS (show bs.length ≤ Z by have := HL.out; omega)
      have PR := Lib.hid (Read_at W3.heap.size W3 wr g gb gc cb cc f HF.out HB.out (Nat.le_refl _) p len (by unfold IntR; omega) (by unfold IntR; omega))
      rw [HP.out, HL.out] at e4 e5
      rw [e4] at PR
      have HE := Lib.hid (And.intro e1 (And.intro e2 (And.intro e3 e5)))
      have hltf := hF.fl.lt
      clear e1 e2 e3 e4 e5 hwf hF hb
      go_wp2_with fail
      with_reducible refine PR.out.mono ?_
      rintro e w6 ⟨a1, l1, c1, rfl, hown, hmc, hF, hb, hb6⟩
      have SL := Lib.hid (Sl.ofOwnS hown).1
      have M1 := Lib.hid (own_notIn hown hltf.1)
      have M2 := Lib.hid (own_notIn hown hltf.2.1)
      have M3 := Lib.hid (own_notIn hown hltf.2.2)
      have SB6 := Lib.hid (SB.out.below (HA2.out.trans (hb.mono sB)))
      have Q1 := Lib.hid (NotIn.old SB.out sB HF.out.b1)
      have Q2 := Lib.hid (NotIn.old SB.out sB HF.out.b2)
      have Q3 := Lib.hid (NotIn.old SB.out sB HF.out.b3)
      have HB6 := Lib.hid hb
      have HF6 := Lib.hid hF
      have HG6 := Lib.hid (HG.out.below hb)
      have HNE := Lib.hid (show G ≠ g ∧ G ≠ gb ∧ G ≠ gc by have := HF.out.b1; have := HF.out.b2; have := HF.out.b3; have := HG.out.lt; omega)
      have HE17 := Lib.hid (show ∀ x, KeptF g gb gc cb cc f w6 x → Calls Try.prog 13 #[.pointer (some ⟨g, 0, none⟩), .int .i64 k] x (fun e x' => e = .returned (.int .i64 4) ∧ KeptF g gb gc cb cc f w6 x') from fun x hx =>
        (Erase_any x g gb gc cb cc f hx.fl k (by unfold IntR; omega)).mono fun e x' h => by
          obtain ⟨h1, h2, h3⟩ := h
          rw [HE.out.2.1] at h1
          rw [HE.out.2.2.1] at h2
          exact ⟨h1, hx.kp.trans h3, h2⟩)
      have HC17 := Lib.hid (show ∀ x, KeptF g gb gc cb cc f w6 x → Calls Try.prog 12 #[.pointer (some ⟨g, 0, none⟩), .int .i64 k] x (fun e x' => e = .returned (.int .i64 j) ∧ KeptF g gb gc cb cc f w6 x') from fun x hx =>
        (Erases_any x g gb gc cb cc f hx.fl k (by unfold IntR; omega)).mono fun e x' h => by
          obtain ⟨h1, h2⟩ := h
          rw [HE.out.1] at h1
          subst h2
          exact ⟨h1, hx⟩)
      clear hown hF hb hb6 PR hltf
      go_upto_region 17 with fail
      refine wp_region_lexS (KeptF g gb gc cb cc f w6) (.stir [(0, true), (1, true), (2, true), (3, true), (4, true), (5, false), (6, true), (7, true), (8, true), (9, true), (10, true), (11, false), (12, true), (13, true), (14, true), (15, true), (16, true), (17, true), (18, true), (19, true), (20, true), (21, true), (22, true), (23, true), (24, true), (25, true), (26, true), (27, true), (28, true), (29, true), (30, true), (31, true), (32, true)]) (by kernel_rfl) (by kernel_rfl) (fun c a d v w h => by cases d <;> exact h) ?_
      have hSw : KeptF g gb gc cb cc f w6 w6.drew := ⟨(Kept.refl _ _ _ _).drew, HF6.out.fl.drew⟩
      refine lexS_stir (KeptF g gb gc cb cc f w6) (fun _ h => h) hSw ?_
      have cv2 := fun w' (h : KeptF g gb gc cb cc f w6 w') => run_conv (SB6.out.kept h.kp Q1.out Q2.out Q3.out) cap
      have ld := fun w' (h : KeptF g gb gc cb cc f w6 w') => (show w'.cell? ⟨G, 2, none⟩ = some (.int .i64 j) by
        unfold World.cell?
        rw [h.kp.block G HG6.out.lt HNE.out.1 HNE.out.2.1 HNE.out.2.2]
        exact HG6.out.c2)
      by_cases hok : o = k
      · subst hok
        iterate 5
          refine stir_step (fun K hK => ?_)
          simp only [stirOp, List.getElem?_toArray, List.getElem?_cons_succ, List.getElem?_cons_zero]
          rw [if_pos (by rfl)]
          apply Exists.intro
          refine ⟨fun w' hS' => ?_, ?_⟩
          · first | (go_simp <;> with_reducible rfl) | (go_simp; go_bits; with_reducible rfl)
          go_simp
          try go_bits
          refine hK _ ?_
          clear hK K
        refine stir_step (fun K hK => ?_)
        simp only [stirOp, List.getElem?_toArray, List.getElem?_cons_succ, List.getElem?_cons_zero]
        rw [if_pos (by rfl)]
        apply Exists.intro
        refine ⟨fun w' hS' => ?_, ?_⟩
        · go_simp
          exact Stirs.call (Calls.mono (HE17.out w' hS') fun e w'' h => ⟨h.1, (fun hb'' => hb'') h.2⟩)
        go_simp
        refine hK _ ?_
        clear hK K
        iterate 5
          refine stir_step (fun K hK => ?_)
          simp only [stirOp, List.getElem?_toArray, List.getElem?_cons_succ, List.getElem?_cons_zero]
          rw [if_pos (by rfl)]
          apply Exists.intro
          refine ⟨fun w' hS' => ?_, ?_⟩
          · first | (go_simp <;> with_reducible rfl) | (go_simp; go_bits; with_reducible rfl)
          go_simp
          try go_bits
          refine hK _ ?_
          clear hK K
        refine stir_step (fun K hK => ?_)
        simp only [stirOp, List.getElem?_toArray, List.getElem?_cons_succ, List.getElem?_cons_zero]
        rw [if_pos (by rfl)]
        apply Exists.intro
        refine ⟨fun w' hS' => ?_, ?_⟩
        · go_simp
          exact Stirs.call (Calls.mono (HC17.out w' hS') fun e w'' h => ⟨h.1, (fun hb'' => hb'') h.2⟩)
        go_simp
        refine hK _ ?_
        clear hK K
        iterate 13
          refine stir_step (fun K hK => ?_)
          simp only [stirOp, List.getElem?_toArray, List.getElem?_cons_succ, List.getElem?_cons_zero]
          rw [if_pos (by rfl)]
          apply Exists.intro
          refine ⟨fun w' hS' => ?_, ?_⟩
          · first | (go_simp <;> with_reducible rfl) | (go_simp; go_bits; with_reducible rfl)
          go_simp
          try go_bits
          refine hK _ ?_
          clear hK K
        iterate 5
          refine stir_step (fun K hK => ?_)
          simp only [stirOp, List.getElem?_toArray, List.getElem?_cons_succ, List.getElem?_cons_zero]
          rw [if_neg (Bool.eq_false_iff.1 (by rfl))]
          go_simp
          refine hK _ ?_
          clear hK K
        iterate 3
          refine stir_step (fun K hK => ?_)
          simp only [stirOp, List.getElem?_toArray, List.getElem?_cons_succ, List.getElem?_cons_zero]
          rw [if_pos (by rfl)]
          apply Exists.intro
          refine ⟨fun w' hS' => ?_, ?_⟩
          · first | (go_simp <;> with_reducible rfl) | (go_simp; go_bits; with_reducible rfl)
          go_simp
          try go_bits
          refine hK _ ?_
          clear hK K
        refine stir_nil (fun y hy => ?_)
        have HY := Lib.hid (hy.kp.below HB6.out (Nat.le_refl _) HF6.out.b1 HF6.out.b2 HF6.out.b3)
        clear hy
        go_wp2_with fail
        go_ret
        exact ⟨rfl, HA2.out.trans (HY.out.mono HA2.out.size)⟩
      · have cv1 := fun w' (h : KeptF g gb gc cb cc f w6 w') => run_conv (SL.out.kept h.kp M1.out M2.out M3.out) c1
        rw [HE.out.2.2.2 hok] at cv1
        have z1 : ((o : Int) == (k : Int)) = false := eqi_no (by omega)
        have z2 : (o == k) = false := by simpa using hok
        iterate 5
          refine stir_step (fun K hK => ?_)
          simp only [stirOp, List.getElem?_toArray, List.getElem?_cons_succ, List.getElem?_cons_zero]
          rw [if_pos (by rfl)]
          apply Exists.intro
          refine ⟨fun w' hS' => ?_, ?_⟩
          · first | (go_simp <;> with_reducible rfl) | (go_simp; go_bits; with_reducible rfl)
          go_simp
          try go_bits
          refine hK _ ?_
          clear hK K
        refine stir_step (fun K hK => ?_)
        simp only [stirOp, List.getElem?_toArray, List.getElem?_cons_succ, List.getElem?_cons_zero]
        rw [if_pos (by rfl)]
        apply Exists.intro
        refine ⟨fun w' hS' => ?_, ?_⟩
        · go_simp
          exact Stirs.call (Calls.mono (HE17.out w' hS') fun e w'' h => ⟨h.1, (fun hb'' => hb'') h.2⟩)
        go_simp
        refine hK _ ?_
        clear hK K
        iterate 5
          refine stir_step (fun K hK => ?_)
          simp only [stirOp, List.getElem?_toArray, List.getElem?_cons_succ, List.getElem?_cons_zero]
          rw [if_pos (by rfl)]
          apply Exists.intro
          refine ⟨fun w' hS' => ?_, ?_⟩
          · first | (go_simp <;> with_reducible rfl) | (go_simp; go_bits; with_reducible rfl)
          go_simp
          try go_bits
          refine hK _ ?_
          clear hK K
        refine stir_step (fun K hK => ?_)
        simp only [stirOp, List.getElem?_toArray, List.getElem?_cons_succ, List.getElem?_cons_zero]
        rw [if_pos (by rfl)]
        apply Exists.intro
        refine ⟨fun w' hS' => ?_, ?_⟩
        · go_simp
          exact Stirs.call (Calls.mono (HC17.out w' hS') fun e w'' h => ⟨h.1, (fun hb'' => hb'') h.2⟩)
        go_simp
        refine hK _ ?_
        clear hK K
        iterate 21
          refine stir_step (fun K hK => ?_)
          simp only [stirOp, List.getElem?_toArray, List.getElem?_cons_succ, List.getElem?_cons_zero]
          rw [if_pos (by rfl)]
          apply Exists.intro
          refine ⟨fun w' hS' => ?_, ?_⟩
          · first | (go_simp <;> with_reducible rfl) | (go_simp; go_bits; with_reducible rfl)
          go_simp
          try go_bits
          refine hK _ ?_
          clear hK K
        refine stir_nil (fun y hy => ?_)
        have HY := Lib.hid (hy.kp.below HB6.out (Nat.le_refl _) HF6.out.b1 HF6.out.b2 HF6.out.b3)
        clear hy
        go_wp2_with fail
        go_ret
        exact ⟨rfl, HA2.out.trans (HY.out.mono HA2.out.size)⟩
end Go.Proofs.Ytjlcgffcfhfffaa
