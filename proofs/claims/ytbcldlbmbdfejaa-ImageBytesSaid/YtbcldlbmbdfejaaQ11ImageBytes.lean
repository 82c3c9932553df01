/- image: the reader's get and text. No condition. -/
import Derived.Test.YtbcldlbmbdfejaaQ10ImageBytes
import Derived.Test.YtbcldlbmbdfejaaQ04ImageBytes
import Derived.Laws.EntriesVeiled
namespace Go.Proofs.Ytbcldlbmbdfejaa
open Go.ChangeShapes Go.WideShapes Go.ChangeAt Go.RowKit
def EqW (x y : World) : Prop := y = x
theorem Blk3.set1 {w : World} {g : Nat} {x y z v : Value} {t : TypeId} (h : Blk3 w g x y z t) : Blk3 (w.setCell ⟨g, 1, none⟩ v) g x v z t := heap_set3 h 1 v
theorem Blk3.set2 {w : World} {g : Nat} {x y z v : Value} {t : TypeId} (h : Blk3 w g x y z t) : Blk3 (w.setCell ⟨g, 2, none⟩ v) g x y v t := heap_set3 h 2 v
/-- A reader in block g over bytes. -/
structure RdS (w : World) (g : Nat) (a : Option Addr) (n cap : Nat) (bs : List UInt8) (s : St) : Prop where
  k : Blk3 w g (.slice a n cap) (.int .i64 (s.1 : Nat)) (.int .i64 s.2) 79
  sl : Sl encB w a n bs
  off : Off1 a n g
  le : n ≤ cap
  sm : n ≤ 1048500
  ok : StOk n s
  ne : 0 < n
theorem RdS.below {w w' : World} {g : Nat} {a : Option Addr} {n cap : Nat} {bs : List UInt8} {s : St} (h : RdS w g a n cap bs s) (hb : Below w.heap.size w w') : RdS w' g a n cap bs s := ⟨h.k.below hb, h.sl.below hb, h.off, h.le, h.sm, h.ok, h.ne⟩
theorem RdS.lt {w : World} {g : Nat} {a : Option Addr} {n cap : Nat} {bs : List UInt8} {s : St} (h : RdS w g a n cap bs s) : g < w.heap.size := h.k.box.lt
/-- What a reading leaves. -/
def GotRet (g : Nat) (a : Option Addr) (n cap : Nat) (bs : List UInt8) (v : Value) (s : St) (w : World) (e : Ending) (w' : World) : Prop := e = .returned v ∧ RdS w' g a n cap bs s ∧ Keep1 g w w'
set_option maxRecDepth 100000 in
set_option maxHeartbeats 8000000 in
theorem get_any (w : World) (g : Nat) (a : Option Addr) (n cap : Nat) (bs : List UInt8) (s : St) (h : RdS w g a n cap bs s) (m : Nat) (h1 : 1 ≤ m) (h4 : m ≤ 4) :
    Calls Try.prog 67 #[.pointer (some ⟨g, 0, none⟩), .int .i64 m] w (GotRet g a n cap bs (.int .i64 (getS bs m s).1) (getS bs m s).2 w) := by
  obtain ⟨p, er⟩ := s
  by_cases h0 : er = 0
  case neg =>
    have HG := Lib.hid (show getS bs m (p, er) = (0, (p, er)) by unfold getS; rw [if_pos h0])
    rw [HG.out]
    have en : (er != 0) = true := by simp [h0]
    have H := Lib.hid h
    obtain ⟨c0, c1, c2, f0, f1, f2, lt⟩ := h.k.box
    simp only at c1 c2
    clear h h0
    go_enter Try.func67, Try.ntmps67
    go_wp2_with fail
    go_ret
    exact ⟨rfl, H.out, Keep1.refl _ _⟩
  subst h0
  have hl := h.sl.1
  have hok := getS_ok bs m h1 (by omega) (p, 0) (by rw [hl]; exact h.ok)
  have hv := getR_val bs p m h4
  have HG := Lib.hid (show getS bs m (p, 0) = ((getR bs p m).1, (p + m, (getR bs p m).2)) by unfold getS; rw [if_neg (by simp)])
  rw [HG.out] at hok ⊢
  rw [hl] at hok
  have hp : p ≤ n := h.ok.1 rfl
  have hsm := h.sm
  have hle := h.le
  have hne := h.ne
  have HGA := Lib.hid (fun w' (hs : Sl encB w' a n bs) => Get_any w' a n cap bs p m hs (by omega) hle (by unfold IntR; omega) (by unfold IntR; omega))
  have H := Lib.hid h
  have HOK := Lib.hid hok
  generalize (getR bs p m).1 = v at *
  generalize (getR bs p m).2 = er at *
  clear h hok hl HG
  obtain ⟨c0, c1, c2, f0, f1, f2, lt⟩ := H.out.k.box
  simp only at c1 c2
  obtain ⟨u, hu, hu2⟩ : ∃ u : Nat, v = (u : Int) ∧ u < 4294967296 := ⟨v.toNat, by omega, by omega⟩
  subst hu
  have HSW := Lib.hid (H.out.sl.below (Below.refl w.heap.size w).drew)
  go_enter Try.func67, Try.ntmps67
  go_upto_region 3 with fail
  have l0 := fun z (h : EqW w.drew z) => (show z.cell? ⟨g, 0, none⟩ = some (.slice a n cap) by rw [show z = w.drew from h]; exact c0)
  have l1 := fun z (h : EqW w.drew z) => (show z.cell? ⟨g, 1, none⟩ = some (.int .i64 (p : Nat)) by rw [show z = w.drew from h]; exact c1)
  have hSw : EqW w.drew w.drew := rfl
  refine wp_region_lexS (EqW w.drew) (.stir [(0, true), (1, true), (2, true), (3, true), (4, true), (5, true), (6, true), (7, true), (8, true), (9, false), (10, true), (11, true), (12, true), (13, true), (14, true)]) (by kernel_rfl) (by kernel_rfl) (fun c a d v w h => by cases d <;> exact h) ?_
  refine lexS_stir (EqW w.drew) (fun y hy => hy) rfl ?_
  clear c0 c1 c2 f0 f1 f2 lt
  iterate 9
    refine stir_step (fun K hK => ?_)
    simp only [stirOp, List.getElem?_toArray, List.getElem?_cons_succ, List.getElem?_cons_zero]
    rw [if_pos (by rfl)]
    apply Exists.intro
    refine ⟨fun w' hS' => ?_, ?_⟩
    · first | (go_simp <;> with_reducible rfl) | (go_simp; go_bits; with_reducible rfl)
    go_simp
    try go_bits
    refine hK _ ?_
    clear hK K
  refine stir_step (fun K hK => ?_)
  simp only [stirOp, List.getElem?_toArray, List.getElem?_cons_succ, List.getElem?_cons_zero]
  rw [if_pos (by rfl)]
  apply Exists.intro
  refine ⟨fun w' hS' => ?_, ?_⟩
  · go_simp
    exact Stirs.call (Calls.mono (HGA.out w' (by rw [show w' = w.drew from hS']; exact HSW.out)) fun e w'' h => ⟨h.1, (fun hb'' => (by rw [← hb'']; exact hS')) h.2⟩)
  go_simp
  refine hK _ ?_
  clear hK K
  iterate 5
    refine stir_step (fun K hK => ?_)
    simp only [stirOp, List.getElem?_toArray, List.getElem?_cons_succ, List.getElem?_cons_zero]
    rw [if_pos (by rfl)]
    apply Exists.intro
    refine ⟨fun w' hS' => ?_, ?_⟩
    · first | (go_simp <;> with_reducible rfl) | (go_simp; go_bits; with_reducible rfl)
    go_simp
    try go_bits
    refine hK _ ?_
    clear hK K
  refine stir_nil (fun y hy => ?_)
  obtain rfl : y = w.drew := hy
  clear l0 l1 hSw
  have HK := Lib.hid (show Blk3 w.drew g (.slice a n cap) (.int .i64 (p : Nat)) (.int .i64 0) 79 from H.out.k)
  have HKP := Lib.hid (Keep1.refl g w).drew
  have HO := Lib.hid H.out.off
  clear H HGA
  generalize w.drew = W1 at *
  obtain ⟨c0, c1, c2, f0, f1, f2, lt⟩ := HK.out.box
  go_wp2_with fail
  go_ret
  have hpm : ((p : Int) + (m : Int)) = ((p + m : Nat) : Int) := by omega
  rw [hpm]
  exact ⟨rfl, ⟨HK.out.set1.set2, (HSW.out.keep1 (((Keep1.refl g W1).set 1 _).set 2 _) HO.out), HO.out, hle, hsm, HOK.out, hne⟩, (HKP.out.set 1 _).set 2 _⟩
set_option maxRecDepth 100000 in
set_option maxHeartbeats 4000000 in
theorem two_any (w : World) (g : Nat) (a : Option Addr) (n cap : Nat) (bs : List UInt8) (s : St) (h : RdS w g a n cap bs s) :
    Calls Try.prog 29 #[.pointer (some ⟨g, 0, none⟩)] w (GotRet g a n cap bs (.int .i64 (getS bs 2 s).1) (getS bs 2 s).2 w) := by
  have HP := Lib.hid (get_any w g a n cap bs s h 2 (by omega) (by omega))
  go_enter Try.func29, Try.ntmps29
  go_wp2_with fail
  refine HP.out.mono ?_
  rintro e' W1 ⟨rfl, hr⟩
  go_wp2_with fail
  go_ret
  exact ⟨rfl, hr⟩
set_option maxRecDepth 100000 in
set_option maxHeartbeats 4000000 in
theorem less_any (w : World) (g : Nat) (a : Option Addr) (n cap : Nat) (bs : List UInt8) (s : St) (h : RdS w g a n cap bs s) :
    Calls Try.prog 68 #[.pointer (some ⟨g, 0, none⟩)] w (GotRet g a n cap bs (.int .i64 (lessS bs s).1) (lessS bs s).2 w) := by
  have HP := Lib.hid (get_any w g a n cap bs s h 2 (by omega) (by omega))
  have hv := getS_two bs 2 (by omega) s
  unfold lessS
  generalize (getS bs 2 s).1 = v at *
  generalize (getS bs 2 s).2 = s1 at *
  go_enter Try.func68, Try.ntmps68
  go_wp2_with fail
  refine HP.out.mono ?_
  rintro e' W1 ⟨rfl, hr⟩
  go_wp2_with fail
  go_ret
  exact ⟨rfl, hr⟩
theorem Sl.part {w : World} {b off n p m : Nat} {bs : List UInt8} (h : Sl encB w (some ⟨b, off, none⟩) n bs) (hm : p + m ≤ n) : Sl encB w (some ⟨b, off + p, none⟩) m ((bs.drop p).take m) := by
  refine ⟨by rw [List.length_take, List.length_drop, h.1]; omega, fun hn => ?_⟩
  obtain ⟨b', off', ha, hlt, hc⟩ := h.2 (by omega)
  cases ha
  refine ⟨b, off + p, rfl, hlt, fun i hi => ?_⟩
  have hi2 : i < m := by rw [List.length_take] at hi; omega
  rw [Nat.add_assoc, hc (p + i) (by rw [h.1]; omega)]
  simp
set_option maxRecDepth 100000 in
set_option maxHeartbeats 8000000 in
theorem text_any (w : World) (g : Nat) (a : Option Addr) (n cap : Nat) (bs : List UInt8) (s : St) (h : RdS w g a n cap bs s) (m : Nat) (h1 : 1 ≤ m) (h2 : m ≤ 2) :
    Calls Try.prog 69 #[.pointer (some ⟨g, 0, none⟩), .int .i64 m] w (GotRet g a n cap bs (encS (textS bs m s).1) (textS bs m s).2 w) := by
  have HP := Lib.hid (get_any w g a n cap bs s h m (by omega) (by omega))
  have hv := getS_two bs m h2 s
  have hst := getS_ok bs m h1 (by omega) s (by rw [h.sl.1]; exact h.ok)
  have HT := Lib.hid (show textS bs m s = textT bs (getS bs m s).1 (getS bs m s).2 from rfl)
  rw [HT.out]
  rw [h.sl.1] at hst
  clear HT h
  generalize (getS bs m s).1 = v at *
  generalize (getS bs m s).2 = s1 at *
  obtain ⟨p, er⟩ := s1
  obtain ⟨u, rfl⟩ : ∃ u : Nat, v = (u : Int) := ⟨v.toNat, by omega⟩
  go_enter Try.func69, Try.ntmps69
  go_wp2_with fail
  refine HP.out.mono ?_
  rintro e' W1 ⟨rfl, hr, hk⟩
  have H := Lib.hid hr
  have HK := Lib.hid hk
  have hsm := hr.sm
  have hle := hr.le
  obtain ⟨c0, c1, c2, f0, f1, f2, lt⟩ := hr.k.box
  simp only at c1 c2
  clear hr hk HP
  go_upto_region 2 with fail
  by_cases h0 : er = 0
  case neg =>
    have HT := Lib.hid (show textT bs u (p, er) = ([], (p, er)) by unfold textT; rw [if_pos h0])
    have en : (er != 0) = true := by simp [h0]
    have ee : (er == 0) = false := by simp [h0]
    clear h0
    have c0' := fun n => (show (W1.drewN n).cell? ⟨g, 0, none⟩ = some (.slice a _ cap) from c0)
    have c1' := fun n => (show (W1.drewN n).cell? ⟨g, 1, none⟩ = some (.int .i64 (p : Nat)) from c1)
    have c2' := fun n => (show (W1.drewN n).cell? ⟨g, 2, none⟩ = some (.int .i64 er) from c2)
    go_quiet (fail)
    have HR2 := Lib.hid (H.out.below (bdrewN (Below.refl W1.heap.size W1) nq))
    have HK2 := Lib.hid (HK.out.drewN nq)
    clear c0 c1 c2 f0 f1 f2 lt c0' c1' c2' H HK
    generalize W1.drewN nq = W2 at *
    obtain ⟨c0, c1, c2, f0, f1, f2, lt⟩ := HR2.out.k.box
    simp only at c2
    go_wp2_with fail
    go_ret
    rw [HT.out]
    exact ⟨rfl, HR2.out, HK2.out⟩
  subst h0
  have hp : p ≤ n := hst.1 rfl
  have hne := H.out.ne
  obtain ⟨b, off, rfl, _, _⟩ := H.out.sl.2 hne
  by_cases hs : (n : Int) - (p : Int) < u
  · have HT := Lib.hid (show textT bs u (p, 0) = ([], (p, 6)) by unfold textT; rw [if_neg (by simp), if_pos (by rw [H.out.sl.1]; exact hs)])
    have ed := decide_eq_true hs
    clear hs
    go_quiet (fail)
    have HR2 := Lib.hid (H.out.below (bdrewN (Below.refl W1.heap.size W1) nq))
    have HK2 := Lib.hid (HK.out.drewN nq)
    clear c0 c1 c2 f0 f1 f2 lt H HK
    generalize W1.drewN nq = W2 at *
    obtain ⟨c0, c1, c2, f0, f1, f2, lt⟩ := HR2.out.k.box
    simp only at c1 c2
    go_wp2_with fail
    go_ret
    rw [HT.out]
    have hb : W2.heap.size = W2.heap.size := rfl
    exact ⟨rfl, ⟨HR2.out.k.set2, HR2.out.sl.keep1 ((Keep1.refl g W2).set 2 _) HR2.out.off, HR2.out.off, hle, hsm, ⟨fun h => by simp at h, hst.2⟩, hne⟩, HK2.out.set 2 _⟩
  · have hpu : p + u ≤ n := by omega
    have HT := Lib.hid (show textT bs u (p, 0) = ((bs.drop p).take u, (p + u, 0)) by unfold textT; rw [if_neg (by simp), if_neg (by rw [H.out.sl.1]; exact hs)]; rfl)
    have ed := decide_eq_false hs
    clear hs
    go_quiet (fail)
    have HR2 := Lib.hid (H.out.below (bdrewN (Below.refl W1.heap.size W1) nq))
    have HK2 := Lib.hid (HK.out.drewN nq)
    clear c0 c1 c2 f0 f1 f2 lt H HK ed
    generalize W1.drewN nq = W2 at *
    obtain ⟨c0, c1, c2, f0, f1, f2, lt⟩ := HR2.out.k.box
    simp only at c1 c2
    obtain ⟨q, hq⟩ : ∃ q, q = p + u := ⟨_, rfl⟩
    have eq1 : (p : Int) + (u : Int) = (q : Int) := by omega
    have eq2 : (q : Int) - (u : Int) = (p : Int) := by omega
    have hqn : q ≤ n := by omega
    have hpq : p ≤ q := by omega
    have HQ := Lib.hid (show q - p = u by omega)
    have HQ2 := Lib.hid hq
    clear hq hpu
    go_upto_region 7 with fail
    have HR3 := Lib.hid (show Blk3 (W2.setCell ⟨g, 1, none⟩ (.int .i64 (q : Nat))) g (.slice (some ⟨b, off, none⟩) n cap) (.int .i64 (q : Nat)) (.int .i64 0) 79 from HR2.out.k.set1)
    have HS3 := Lib.hid (HR2.out.sl.keep1 ((Keep1.refl g W2).set 1 (.int .i64 (q : Nat))) HR2.out.off)
    have HK3 := Lib.hid (HK2.out.set 1 (.int .i64 (q : Nat)))
    have HOF := Lib.hid HR2.out.off
    clear c0 c1 c2 f0 f1 f2 lt HR2 HK2
    generalize W2.setCell ⟨g, 1, none⟩ (.int .i64 (q : Nat)) = W3 at *
    obtain ⟨c0, c1, c2, f0, f1, f2, lt⟩ := HR3.out.box
    by_cases hcp : cap = p
    · obtain rfl : q = p := by omega
      obtain rfl : cap = q := hcp
      have HZ := Lib.hid (show u = 0 by have := HQ2.out; omega)
      have HSN := Lib.hid (show Sl encB W3.drew (some ⟨b, off, none⟩) 0 [] from Sl.nil _ _)
      have HCV := Lib.hid (run_conv HSN.out 0)
      have hpc : (cap : Int) ≤ (cap : Int) := by omega
      have hqc : (cap : Int) ≤ (cap : Int) := by omega
      have hp0 : (0 : Int) ≤ (cap : Int) := by omega
      have l0 := fun z (h : EqW W3.drew z) => (show z.cell? ⟨g, 0, none⟩ = some (.slice (some ⟨b, off, none⟩) n cap) by rw [show z = W3.drew from h]; exact c0)
      have l1 := fun z (h : EqW W3.drew z) => (show z.cell? ⟨g, 1, none⟩ = some (.int .i64 (cap : Nat)) by rw [show z = W3.drew from h]; exact c1)
      have lcv := fun z (h : EqW W3.drew z) => (show (convert 35 9 (.slice (some ⟨b, off, none⟩) 0 0)).run Try.prog z = .ok (.string ⟨([] : List UInt8).toArray⟩) z by rw [show z = W3.drew from h]; exact HCV.out)
      have hSw : EqW W3.drew W3.drew := rfl
      refine wp_region_lexS (EqW W3.drew) (.stir [(0, true), (1, true), (2, true), (3, true), (4, true), (5, true), (6, true), (7, true), (8, true), (9, true), (10, true), (11, true), (12, true), (13, true), (14, true), (15, true), (16, true)]) (by kernel_rfl) (by kernel_rfl) (fun c a d v w h => by cases d <;> exact h) ?_
      refine lexS_stir (EqW W3.drew) (fun y hy => hy) rfl ?_
      clear c0 c1 c2 f0 f1 f2 lt
      iterate 17
        refine stir_step (fun K hK => ?_)
        simp only [stirOp, List.getElem?_toArray, List.getElem?_cons_succ, List.getElem?_cons_zero]
        rw [if_pos (by rfl)]
        apply Exists.intro
        refine ⟨fun w' hS' => ?_, ?_⟩
        · first | (go_simp <;> with_reducible rfl) | (go_simp; go_bits; with_reducible rfl)
        go_simp
        try go_bits
        refine hK _ ?_
        clear hK K
      refine stir_nil (fun y hy => ?_)
      obtain rfl : y = W3.drew := hy
      go_wp2_with fail
      go_ret
      rw [HT.out, ← HQ2.out]
      exact ⟨by rw [HZ.out]; rfl, ⟨HR3.out, HS3.out, HOF.out, hle, hsm, ⟨fun _ => hqn, by show cap ≤ n + 8; omega⟩, hne⟩, HK3.out.drew⟩
    · have hpt : p + (q - p) ≤ n := by omega
      have HCV := Lib.hid (run_conv ((HS3.out.part hpt).below (Below.refl W3.heap.size W3).drew) (cap - p))
      have hpc : (p : Int) ≤ (q : Int) := by omega
      have hqc : (q : Int) ≤ (cap : Int) := by omega
      have hp0 : (0 : Int) ≤ (p : Int) := by omega
      have l0 := fun z (h : EqW W3.drew z) => (show z.cell? ⟨g, 0, none⟩ = some (.slice (some ⟨b, off, none⟩) n cap) by rw [show z = W3.drew from h]; exact c0)
      have l1 := fun z (h : EqW W3.drew z) => (show z.cell? ⟨g, 1, none⟩ = some (.int .i64 (q : Nat)) by rw [show z = W3.drew from h]; exact c1)
      have lcv := fun z (h : EqW W3.drew z) => (show (convert 35 9 (.slice (some ⟨b, off + p, none⟩) (q - p) (cap - p))).run Try.prog z = .ok (.string ⟨((bs.drop p).take (q - p)).toArray⟩) z by rw [show z = W3.drew from h]; exact HCV.out)
      have hSw : EqW W3.drew W3.drew := rfl
      refine wp_region_lexS (EqW W3.drew) (.stir [(0, true), (1, true), (2, true), (3, true), (4, true), (5, true), (6, true), (7, true), (8, true), (9, true), (10, true), (11, true), (12, true), (13, true), (14, true), (15, true), (16, true)]) (by kernel_rfl) (by kernel_rfl) (fun c a d v w h => by cases d <;> exact h) ?_
      refine lexS_stir (EqW W3.drew) (fun y hy => hy) rfl ?_
      clear c0 c1 c2 f0 f1 f2 lt
      iterate 17
        refine stir_step (fun K hK => ?_)
        simp only [stirOp, List.getElem?_toArray, List.getElem?_cons_succ, List.getElem?_cons_zero]
        rw [if_pos (by rfl)]
        apply Exists.intro
        refine ⟨fun w' hS' => ?_, ?_⟩
        · first | (go_simp <;> with_reducible rfl) | (go_simp; go_bits; with_reducible rfl)
        go_simp
        try go_bits
        refine hK _ ?_
        clear hK K
      refine stir_nil (fun y hy => ?_)
      obtain rfl : y = W3.drew := hy
      go_wp2_with fail
      go_ret
      rw [HT.out, ← HQ2.out]
      exact ⟨by rw [HQ.out]; rfl, ⟨HR3.out, HS3.out, HOF.out, hle, hsm, ⟨fun _ => hqn, by show q ≤ n + 8; omega⟩, hne⟩, HK3.out.drew⟩
end Go.Proofs.Ytbcldlbmbdfejaa
