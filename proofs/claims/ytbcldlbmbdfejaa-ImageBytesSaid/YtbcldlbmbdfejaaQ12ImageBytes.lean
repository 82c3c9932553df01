/- image: the reader's rows (printed by gen/imgrow.py). No condition. -/
import Derived.Test.YtbcldlbmbdfejaaQ11ImageBytes
namespace Go.Proofs.Ytbcldlbmbdfejaa
open Go.ChangeShapes Go.WideShapes Go.ChangeAt Go.RowKit
set_option maxRecDepth 100000 in
set_option maxHeartbeats 4000000 in
theorem name_any (w : World) (g : Nat) (a : Option Addr) (n cap : Nat) (bs : List UInt8) (s : St) (h : RdS w g a n cap bs s) :
    Calls Try.prog 35 #[.pointer (some ⟨g, 0, none⟩)] w (GotRet g a n cap bs (encS (textS bs 1 s).1) (textS bs 1 s).2 w) := by
  have HP := Lib.hid (text_any w g a n cap bs s h 1 (by omega) (by omega))
  go_enter Try.func35, Try.ntmps35
  go_wp2_with fail
  refine HP.out.mono ?_
  rintro e' W1 ⟨rfl, hr⟩
  go_wp2_with fail
  go_ret
  exact ⟨rfl, hr⟩
set_option maxRecDepth 100000 in
set_option maxHeartbeats 4000000 in
theorem long_any (w : World) (g : Nat) (a : Option Addr) (n cap : Nat) (bs : List UInt8) (s : St) (h : RdS w g a n cap bs s) :
    Calls Try.prog 36 #[.pointer (some ⟨g, 0, none⟩)] w (GotRet g a n cap bs (encS (textS bs 2 s).1) (textS bs 2 s).2 w) := by
  have HP := Lib.hid (text_any w g a n cap bs s h 2 (by omega) (by omega))
  go_enter Try.func36, Try.ntmps36
  go_wp2_with fail
  refine HP.out.mono ?_
  rintro e' W1 ⟨rfl, hr⟩
  go_wp2_with fail
  go_ret
  exact ⟨rfl, hr⟩
theorem oneStr : OneE 27 9 (.string ⟨#[]⟩) 16 := ⟨Try.underlying27, by kernel_rfl, rfl⟩
theorem stTrap : StE 60 71 (.agg #[.int .i64 0, .int .i64 0, .int .i64 0, .int .i64 0]) 4 32 := ⟨Try.underlying60, by kernel_rfl, rfl⟩
theorem stMeth : StE 23 87 (.agg #[.int .i64 0, .string ⟨#[]⟩, .string ⟨#[]⟩, .bool false, .int .i64 0, .int .i64 0]) 6 64 := ⟨Try.underlying23, by kernel_rfl, rfl⟩
theorem stClass : StE 22 82 (.agg #[.string ⟨#[]⟩, .int .i64 0, .int .i64 0, .slice none 0 0, .slice none 0 0]) 5 80 := ⟨Try.underlying22, by kernel_rfl, rfl⟩
theorem stCode : StE 28 62 (.agg #[.int .i64 0, .int .i64 0, .int .i64 0, .int .i64 0, .int .i64 0, .slice none 0 0]) 6 64 := ⟨Try.underlying28, by kernel_rfl, rfl⟩
/-- A class whose rows lie from block B on. -/
structure CW.Own (w : World) (B : Nat) (c : CW) : Prop where
  r : w.ownsRow B 3 1 (.slice c.ra c.rn c.rc) c.rn (c.refs.map encZ)
  t : w.ownsRow B 3 1 (.slice c.ta c.tn c.tc) c.tn (c.table.map encZ)
theorem CW.Own.mono {w : World} {B B' : Nat} {c : CW} (h : c.Own w B) (hB : B' ≤ B) : c.Own w B' := ⟨own_mono h.r hB, own_mono h.t hB⟩
theorem CW.Own.keep1 {g : Nat} {w w' : World} {B : Nat} {c : CW} (h : c.Own w B) (k : Keep1 g w w') (hg : g < B) : c.Own w' B := ⟨own_keep1 h.r k hg, own_keep1 h.t k hg⟩
theorem CW.Own.keptT {e : TypeId} {w w' : World} {B : Nat} {c : CW} (h : c.Own w B) (k : KeptT e w w') (hne : 3 ≠ e) : c.Own w' B := ⟨own_keptT h.r k hne, own_keptT h.t k hne⟩
theorem CW.Own.below {w w' : World} {B : Nat} {c : CW} (h : c.Own w B) (k : Below w.heap.size w w') : c.Own w' B := ⟨own_below h.r k, own_below h.t k⟩
theorem CW.Own.rd {w : World} {B : Nat} {c : CW} (h : c.Own w B) : c.Rd w := by
  obtain ⟨a, k, e, hs, hc⟩ := Sl.ofOwn h.r
  obtain ⟨a2, k2, e2, hs2, hc2⟩ := Sl.ofOwn h.t
  simp only [Value.slice.injEq] at e e2
  obtain ⟨rfl, _, rfl⟩ := e
  obtain ⟨rfl, _, rfl⟩ := e2
  exact ⟨hs, hs2, hc, hc2⟩
structure KW.Own (w : World) (B : Nat) (k : KW) : Prop where
  t : w.ownsRow B 71 4 (.slice k.ta k.tn k.tc) k.tn (k.traps.flatMap TW.vals)
theorem KW.Own.mono {w : World} {B B' : Nat} {c : KW} (h : c.Own w B) (hB : B' ≤ B) : c.Own w B' := ⟨own_mono h.t hB⟩
theorem KW.Own.keep1 {g : Nat} {w w' : World} {B : Nat} {c : KW} (h : c.Own w B) (k : Keep1 g w w') (hg : g < B) : c.Own w' B := ⟨own_keep1 h.t k hg⟩
theorem KW.Own.keptT {e : TypeId} {w w' : World} {B : Nat} {c : KW} (h : c.Own w B) (k : KeptT e w w') (hne : 71 ≠ e) : c.Own w' B := ⟨own_keptT h.t k hne⟩
theorem KW.Own.below {w w' : World} {B : Nat} {c : KW} (h : c.Own w B) (k : Below w.heap.size w w') : c.Own w' B := ⟨own_below h.t k⟩
theorem TW.vals_len (t : TW) : t.vals.length = 4 := rfl
theorem MW.vals_len (t : MW) : t.vals.length = 6 := rfl
theorem CW.vals_len (t : CW) : t.vals.length = 5 := rfl
theorem KW.vals_len (t : KW) : t.vals.length = 6 := rfl
theorem KW.Own.rd {w : World} {B : Nat} {c : KW} (h : c.Own w B) : c.Rd w := by
  obtain ⟨a, k, e, hs, hc⟩ := Ss.ofOwn TW.vals_len (by decide) h.t
  simp only [Value.slice.injEq] at e
  obtain ⟨rfl, _, rfl⟩ := e
  exact ⟨hs, hc⟩
theorem rowS_zero {α : Type} (one : RM α) (s : St) : rowS one 0 s = ([], s) := rfl
theorem rowS_bad {α : Type} (one : RM α) (n : Nat) (s : St) (h : s.2 ≠ 0) : rowS one (n + 1) s = ([], s) := by unfold rowS; rw [if_pos h]
theorem rowS_good {α : Type} (one : RM α) (n : Nat) (s : St) (h : s.2 = 0) : rowS one (n + 1) s = ((one s).1 :: (rowS one n (one s).2).1, (rowS one n (one s).2).2) := by
  show (if s.2 ≠ 0 then ([], s) else ((one s).1 :: (rowS one n (one s).2).1, (rowS one n (one s).2).2)) = _
  rw [if_neg (by simp [h])]
theorem RdS.keptT {e : TypeId} {w0 w w' : World} {g : Nat} {a : Option Addr} {n cap : Nat} {bs : List UInt8} {s : St} (h : RdS w g a n cap bs s) (k : KeptT e w w') (hne : 79 ≠ e) (h0 : Sl encB w0 a n bs) (hk : Keep1 g w0 w') : RdS w' g a n cap bs s :=
  ⟨h.k.keptT k hne, h0.keep1 hk h.off, h.off, h.le, h.sm, h.ok, h.ne⟩
def RowRet_int (g : Nat) (a : Option Addr) (n cap : Nat) (bs : List UInt8) (R : List Int × St) (w : World) (e : Ending) (w' : World) : Prop :=
  ∃ (v : Value) (L : List Int), e = .returned v ∧ w'.ownsRow w.heap.size 3 1 v L.length (L.map encZ) ∧ L = R.1 ∧ RdS w' g a n cap bs R.2 ∧ Keep1 g w w'
set_option maxRecDepth 100000 in
set_option maxHeartbeats 8000000 in
theorem rrow_int (w : World) (g : Nat) (a : Option Addr) (n cap : Nat) (bs : List UInt8) (s : St) (h : RdS w g a n cap bs s) (N : Nat) (hN : N ≤ 65535) (one : RM Int)
    (HC : ∀ (W : World) (s' : St), RdS W g a n cap bs s' → Keep1 g w W → Calls Try.prog 29 #[.pointer (some ⟨g, 0, none⟩)] W fun e w' => ∃ x : Int, e = .returned (encZ x) ∧ x = (one s').1 ∧ RdS w' g a n cap bs (one s').2 ∧ Keep1 g W w') :
    Calls Try.prog 33 #[.pointer (some ⟨g, 0, none⟩), .int .i64 N, .func (.func 29) #[.pointer (some ⟨g, 0, none⟩)] #[]] w (RowRet_int g a n cap bs (rowS one N s) w) := by
  have HR0 := Lib.hid h
  have HS0 := Lib.hid h.sl
  have HGL := Lib.hid h.lt
  have HCC := Lib.hid HC
  clear h HC
  go_enter Try.func33, Try.ntmps33
  go_wp2_with fail
  go_loopg [1, 7] N (fun gn t v wr => ∃ (r : Nat) (L : List Int) (sk : St), gn = r ∧ t = .int .i64 r ∧ L.length + r = N ∧ Hid (wr.ownsRow w.heap.size 3 1 v L.length (L.map encZ)) ∧ Hid (RdS wr g a n cap bs sk) ∧ Hid (Keep1 g w wr) ∧ Hid (rowS one N s = (L ++ (rowS one r sk).1, (rowS one r sk).2)))
  case atStart => exact ⟨N, [], s, rfl, rfl, by simp, Lib.hid (World.ownsRow_nil _ _ _ _), HR0, Lib.hid (Keep1.refl _ _), Lib.hid (by simp)⟩
  case round =>
    obtain ⟨r, L, sk, hgr, rfl, hL, HO, HR, HK, HQ⟩ := hrel
    have HGR := Lib.hid hgr
    clear hgr
    by_cases hr0 : r = 0
    · subst hr0
      rw [rowS_zero] at HQ
      go_wp2_with fail
      go_ret
      exact ⟨_, L, rfl, HO.out, by rw [HQ.out]; simp, by rw [HQ.out]; exact HR.out, HK.out⟩
    · obtain ⟨q, hq⟩ : ∃ q, r = q + 1 := ⟨r - 1, by omega⟩
      have hr1 : decide ((0 : Int) < (r : Int)) = true := by simp; omega
      have hr2 : decide (0 < r) = true := by simp; omega
      have HQ1 := Lib.hid hq
      have hrb : r ≤ 65535 := by omega
      obtain ⟨c0, c1, c2, f0, f1, f2, lt⟩ := HR.out.k.box
      obtain ⟨p, er⟩ := sk
      simp only at c1 c2
      clear hr0 hq
      by_cases h0 : er = 0
      case neg =>
        have ee : (er == 0) = false := by simp [h0]
        have HB := Lib.hid (rowS_bad one q (p, er) h0)
        clear h0
        go_wp2_with fail
        go_ret
        have HQ2 := HQ.out
        rw [HQ1.out, HB.out] at HQ2
        exact ⟨_, L, rfl, HO.out, by rw [HQ2]; simp, by rw [HQ2]; exact HR.out, HK.out⟩
      subst h0
      have HB := Lib.hid (rowS_good one q (p, 0) rfl)
      have HV := Lib.hid (HCC.out wr (p, 0) HR.out HK.out)
      go_wp2_with fail
      refine HV.out.mono ?_
      rintro e' W2 ⟨x, rfl, hx, hr2, hk2⟩
      have HX := Lib.hid hx
      have HR2 := Lib.hid hr2
      have HK2 := Lib.hid (HK.out.trans hk2)
      have HO2 := Lib.hid (own_keep1 HO.out hk2 HGL.out)
      clear hx hr2 hk2 HV HR HK HO c0 c1 c2 f0 f1 f2 lt
      have HQ2 := Lib.hid (show rowS one N s = ((L ++ [x]) ++ (rowS one q (one (p, 0)).2).1, (rowS one q (one (p, 0)).2).2) by
        rw [HQ.out, HQ1.out, HB.out, ← HX.out]; simp)
      clear HQ HB
      generalize (one (p, 0)).2 = s2 at *
      unfold encZ
      go_wp2_with (at_builtin; refine wpList_app_lit2 oneI rfl _ _ rfl w.heap.size _ L.length _ rfl HO2.out _ 1 _ _ rfl (by simp) rfl rfl (by omega) (by unfold maxLen; omega) HK2.out.size ?_; intro v3 W3 hown3 hg3 hb3; have hk3 : KeptT 3 W2 W3 := KeptT.app HO2.out hg3; have HK3 := Lib.hid (keep1_appA HK2.out HO2.out hg3); have HR3 := Lib.hid (HR2.out.keptT hk3 (by decide) HS0.out HK3.out); have HO3 := Lib.hid hown3; clear hown3 hg3 hb3 hk3)
      go_roundg q
      case measure => have h1 := HGR.out; have h2 := HQ1.out; omega
      case rel =>
        refine ⟨q, L ++ [x], s2, rfl, by have := HQ1.out; go_num, by have := HQ1.out; simp; omega, Lib.hid ?_, HR3, HK3, HQ2⟩
        rw [List.length_append, List.length_singleton, List.map_append]
        exact HO3.out
def RowRet_str1 (g : Nat) (a : Option Addr) (n cap : Nat) (bs : List UInt8) (R : List (List UInt8) × St) (w : World) (e : Ending) (w' : World) : Prop :=
  ∃ (v : Value) (L : List (List UInt8)), e = .returned v ∧ w'.ownsRow w.heap.size 9 1 v L.length (L.map encS) ∧ L = R.1 ∧ RdS w' g a n cap bs R.2 ∧ Keep1 g w w'
set_option maxRecDepth 100000 in
set_option maxHeartbeats 8000000 in
theorem rrow_str1 (w : World) (g : Nat) (a : Option Addr) (n cap : Nat) (bs : List UInt8) (s : St) (h : RdS w g a n cap bs s) (N : Nat) (hN : N ≤ 65535) (one : RM (List UInt8))
    (HC : ∀ (W : World) (s' : St), RdS W g a n cap bs s' → Keep1 g w W → Calls Try.prog 35 #[.pointer (some ⟨g, 0, none⟩)] W fun e w' => ∃ x : (List UInt8), e = .returned (encS x) ∧ x = (one s').1 ∧ RdS w' g a n cap bs (one s').2 ∧ Keep1 g W w') :
    Calls Try.prog 34 #[.pointer (some ⟨g, 0, none⟩), .int .i64 N, .func (.func 35) #[.pointer (some ⟨g, 0, none⟩)] #[]] w (RowRet_str1 g a n cap bs (rowS one N s) w) := by
  have HR0 := Lib.hid h
  have HS0 := Lib.hid h.sl
  have HGL := Lib.hid h.lt
  have HCC := Lib.hid HC
  clear h HC
  go_enter Try.func34, Try.ntmps34
  go_wp2_with fail
  go_loopg [1, 7] N (fun gn t v wr => ∃ (r : Nat) (L : List (List UInt8)) (sk : St), gn = r ∧ t = .int .i64 r ∧ L.length + r = N ∧ Hid (wr.ownsRow w.heap.size 9 1 v L.length (L.map encS)) ∧ Hid (RdS wr g a n cap bs sk) ∧ Hid (Keep1 g w wr) ∧ Hid (rowS one N s = (L ++ (rowS one r sk).1, (rowS one r sk).2)))
  case atStart => exact ⟨N, [], s, rfl, rfl, by simp, Lib.hid (World.ownsRow_nil _ _ _ _), HR0, Lib.hid (Keep1.refl _ _), Lib.hid (by simp)⟩
  case round =>
    obtain ⟨r, L, sk, hgr, rfl, hL, HO, HR, HK, HQ⟩ := hrel
    have HGR := Lib.hid hgr
    clear hgr
    by_cases hr0 : r = 0
    · subst hr0
      rw [rowS_zero] at HQ
      go_wp2_with fail
      go_ret
      exact ⟨_, L, rfl, HO.out, by rw [HQ.out]; simp, by rw [HQ.out]; exact HR.out, HK.out⟩
    · obtain ⟨q, hq⟩ : ∃ q, r = q + 1 := ⟨r - 1, by omega⟩
      have hr1 : decide ((0 : Int) < (r : Int)) = true := by simp; omega
      have hr2 : decide (0 < r) = true := by simp; omega
      have HQ1 := Lib.hid hq
      have hrb : r ≤ 65535 := by omega
      obtain ⟨c0, c1, c2, f0, f1, f2, lt⟩ := HR.out.k.box
      obtain ⟨p, er⟩ := sk
      simp only at c1 c2
      clear hr0 hq
      by_cases h0 : er = 0
      case neg =>
        have ee : (er == 0) = false := by simp [h0]
        have HB := Lib.hid (rowS_bad one q (p, er) h0)
        clear h0
        go_wp2_with fail
        go_ret
        have HQ2 := HQ.out
        rw [HQ1.out, HB.out] at HQ2
        exact ⟨_, L, rfl, HO.out, by rw [HQ2]; simp, by rw [HQ2]; exact HR.out, HK.out⟩
      subst h0
      have HB := Lib.hid (rowS_good one q (p, 0) rfl)
      have HV := Lib.hid (HCC.out wr (p, 0) HR.out HK.out)
      go_wp2_with fail
      refine HV.out.mono ?_
      rintro e' W2 ⟨x, rfl, hx, hr2, hk2⟩
      have HX := Lib.hid hx
      have HR2 := Lib.hid hr2
      have HK2 := Lib.hid (HK.out.trans hk2)
      have HO2 := Lib.hid (own_keep1 HO.out hk2 HGL.out)
      clear hx hr2 hk2 HV HR HK HO c0 c1 c2 f0 f1 f2 lt
      have HQ2 := Lib.hid (show rowS one N s = ((L ++ [x]) ++ (rowS one q (one (p, 0)).2).1, (rowS one q (one (p, 0)).2).2) by
        rw [HQ.out, HQ1.out, HB.out, ← HX.out]; simp)
      clear HQ HB
      generalize (one (p, 0)).2 = s2 at *
      unfold encS
      go_wp2_with (at_builtin; refine wpList_app_lit2 oneStr rfl _ _ rfl w.heap.size _ L.length _ rfl HO2.out _ 1 _ _ rfl (by simp) rfl rfl (by omega) (by unfold maxLen; omega) HK2.out.size ?_; intro v3 W3 hown3 hg3 hb3; have hk3 : KeptT 9 W2 W3 := KeptT.app HO2.out hg3; have HK3 := Lib.hid (keep1_appA HK2.out HO2.out hg3); have HR3 := Lib.hid (HR2.out.keptT hk3 (by decide) HS0.out HK3.out); have HO3 := Lib.hid hown3; clear hown3 hg3 hb3 hk3)
      go_roundg q
      case measure => have h1 := HGR.out; have h2 := HQ1.out; omega
      case rel =>
        refine ⟨q, L ++ [x], s2, rfl, by have := HQ1.out; go_num, by have := HQ1.out; simp; omega, Lib.hid ?_, HR3, HK3, HQ2⟩
        rw [List.length_append, List.length_singleton, List.map_append]
        exact HO3.out
def RowRet_str2 (g : Nat) (a : Option Addr) (n cap : Nat) (bs : List UInt8) (R : List (List UInt8) × St) (w : World) (e : Ending) (w' : World) : Prop :=
  ∃ (v : Value) (L : List (List UInt8)), e = .returned v ∧ w'.ownsRow w.heap.size 9 1 v L.length (L.map encS) ∧ L = R.1 ∧ RdS w' g a n cap bs R.2 ∧ Keep1 g w w'
set_option maxRecDepth 100000 in
set_option maxHeartbeats 8000000 in
theorem rrow_str2 (w : World) (g : Nat) (a : Option Addr) (n cap : Nat) (bs : List UInt8) (s : St) (h : RdS w g a n cap bs s) (N : Nat) (hN : N ≤ 65535) (one : RM (List UInt8))
    (HC : ∀ (W : World) (s' : St), RdS W g a n cap bs s' → Keep1 g w W → Calls Try.prog 36 #[.pointer (some ⟨g, 0, none⟩)] W fun e w' => ∃ x : (List UInt8), e = .returned (encS x) ∧ x = (one s').1 ∧ RdS w' g a n cap bs (one s').2 ∧ Keep1 g W w') :
    Calls Try.prog 34 #[.pointer (some ⟨g, 0, none⟩), .int .i64 N, .func (.func 36) #[.pointer (some ⟨g, 0, none⟩)] #[]] w (RowRet_str2 g a n cap bs (rowS one N s) w) := by
  have HR0 := Lib.hid h
  have HS0 := Lib.hid h.sl
  have HGL := Lib.hid h.lt
  have HCC := Lib.hid HC
  clear h HC
  go_enter Try.func34, Try.ntmps34
  go_wp2_with fail
  go_loopg [1, 7] N (fun gn t v wr => ∃ (r : Nat) (L : List (List UInt8)) (sk : St), gn = r ∧ t = .int .i64 r ∧ L.length + r = N ∧ Hid (wr.ownsRow w.heap.size 9 1 v L.length (L.map encS)) ∧ Hid (RdS wr g a n cap bs sk) ∧ Hid (Keep1 g w wr) ∧ Hid (rowS one N s = (L ++ (rowS one r sk).1, (rowS one r sk).2)))
  case atStart => exact ⟨N, [], s, rfl, rfl, by simp, Lib.hid (World.ownsRow_nil _ _ _ _), HR0, Lib.hid (Keep1.refl _ _), Lib.hid (by simp)⟩
  case round =>
    obtain ⟨r, L, sk, hgr, rfl, hL, HO, HR, HK, HQ⟩ := hrel
    have HGR := Lib.hid hgr
    clear hgr
    by_cases hr0 : r = 0
    · subst hr0
      rw [rowS_zero] at HQ
      go_wp2_with fail
      go_ret
      exact ⟨_, L, rfl, HO.out, by rw [HQ.out]; simp, by rw [HQ.out]; exact HR.out, HK.out⟩
    · obtain ⟨q, hq⟩ : ∃ q, r = q + 1 := ⟨r - 1, by omega⟩
      have hr1 : decide ((0 : Int) < (r : Int)) = true := by simp; omega
      have hr2 : decide (0 < r) = true := by simp; omega
      have HQ1 := Lib.hid hq
      have hrb : r ≤ 65535 := by omega
      obtain ⟨c0, c1, c2, f0, f1, f2, lt⟩ := HR.out.k.box
      obtain ⟨p, er⟩ := sk
      simp only at c1 c2
      clear hr0 hq
      by_cases h0 : er = 0
      case neg =>
        have ee : (er == 0) = false := by simp [h0]
        have HB := Lib.hid (rowS_bad one q (p, er) h0)
        clear h0
        go_wp2_with fail
        go_ret
        have HQ2 := HQ.out
        rw [HQ1.out, HB.out] at HQ2
        exact ⟨_, L, rfl, HO.out, by rw [HQ2]; simp, by rw [HQ2]; exact HR.out, HK.out⟩
      subst h0
      have HB := Lib.hid (rowS_good one q (p, 0) rfl)
      have HV := Lib.hid (HCC.out wr (p, 0) HR.out HK.out)
      go_wp2_with fail
      refine HV.out.mono ?_
      rintro e' W2 ⟨x, rfl, hx, hr2, hk2⟩
      have HX := Lib.hid hx
      have HR2 := Lib.hid hr2
      have HK2 := Lib.hid (HK.out.trans hk2)
      have HO2 := Lib.hid (own_keep1 HO.out hk2 HGL.out)
      clear hx hr2 hk2 HV HR HK HO c0 c1 c2 f0 f1 f2 lt
      have HQ2 := Lib.hid (show rowS one N s = ((L ++ [x]) ++ (rowS one q (one (p, 0)).2).1, (rowS one q (one (p, 0)).2).2) by
        rw [HQ.out, HQ1.out, HB.out, ← HX.out]; simp)
      clear HQ HB
      generalize (one (p, 0)).2 = s2 at *
      unfold encS
      go_wp2_with (at_builtin; refine wpList_app_lit2 oneStr rfl _ _ rfl w.heap.size _ L.length _ rfl HO2.out _ 1 _ _ rfl (by simp) rfl rfl (by omega) (by unfold maxLen; omega) HK2.out.size ?_; intro v3 W3 hown3 hg3 hb3; have hk3 : KeptT 9 W2 W3 := KeptT.app HO2.out hg3; have HK3 := Lib.hid (keep1_appA HK2.out HO2.out hg3); have HR3 := Lib.hid (HR2.out.keptT hk3 (by decide) HS0.out HK3.out); have HO3 := Lib.hid hown3; clear hown3 hg3 hb3 hk3)
      go_roundg q
      case measure => have h1 := HGR.out; have h2 := HQ1.out; omega
      case rel =>
        refine ⟨q, L ++ [x], s2, rfl, by have := HQ1.out; go_num, by have := HQ1.out; simp; omega, Lib.hid ?_, HR3, HK3, HQ2⟩
        rw [List.length_append, List.length_singleton, List.map_append]
        exact HO3.out
def RowRet_trap (g : Nat) (a : Option Addr) (n cap : Nat) (bs : List UInt8) (R : List TW × St) (w : World) (e : Ending) (w' : World) : Prop :=
  ∃ (v : Value) (L : List TW), e = .returned v ∧ w'.ownsRow w.heap.size 71 4 v L.length (L.flatMap TW.vals) ∧ L = R.1 ∧ RdS w' g a n cap bs R.2 ∧ Keep1 g w w'
set_option maxRecDepth 100000 in
set_option maxHeartbeats 8000000 in
theorem rrow_trap (w : World) (g : Nat) (a : Option Addr) (n cap : Nat) (bs : List UInt8) (s : St) (h : RdS w g a n cap bs s) (N : Nat) (hN : N ≤ 65535) (one : RM TW)
    (HC : ∀ (W : World) (s' : St), RdS W g a n cap bs s' → Keep1 g w W → Calls Try.prog 71 #[.pointer (some ⟨g, 0, none⟩)] W fun e w' => ∃ x : TW, e = .returned (.agg x.vals.toArray) ∧ x = (one s').1 ∧ RdS w' g a n cap bs (one s').2 ∧ Keep1 g W w') :
    Calls Try.prog 70 #[.pointer (some ⟨g, 0, none⟩), .int .i64 N, .func (.func 71) #[.pointer (some ⟨g, 0, none⟩)] #[]] w (RowRet_trap g a n cap bs (rowS one N s) w) := by
  have HR0 := Lib.hid h
  have HS0 := Lib.hid h.sl
  have HGL := Lib.hid h.lt
  have HCC := Lib.hid HC
  clear h HC
  go_enter Try.func70, Try.ntmps70
  go_wp2_with fail
  go_loopg [1, 7] N (fun gn t v wr => ∃ (r : Nat) (L : List TW) (sk : St), gn = r ∧ t = .int .i64 r ∧ L.length + r = N ∧ Hid (wr.ownsRow w.heap.size 71 4 v L.length (L.flatMap TW.vals)) ∧ Hid (RdS wr g a n cap bs sk) ∧ Hid (Keep1 g w wr) ∧ Hid (rowS one N s = (L ++ (rowS one r sk).1, (rowS one r sk).2)))
  case atStart => exact ⟨N, [], s, rfl, rfl, by simp, Lib.hid (World.ownsRow_nil _ _ _ _), HR0, Lib.hid (Keep1.refl _ _), Lib.hid (by simp)⟩
  case round =>
    obtain ⟨r, L, sk, hgr, rfl, hL, HO, HR, HK, HQ⟩ := hrel
    have HGR := Lib.hid hgr
    clear hgr
    by_cases hr0 : r = 0
    · subst hr0
      rw [rowS_zero] at HQ
      go_wp2_with fail
      go_ret
      exact ⟨_, L, rfl, HO.out, by rw [HQ.out]; simp, by rw [HQ.out]; exact HR.out, HK.out⟩
    · obtain ⟨q, hq⟩ : ∃ q, r = q + 1 := ⟨r - 1, by omega⟩
      have hr1 : decide ((0 : Int) < (r : Int)) = true := by simp; omega
      have hr2 : decide (0 < r) = true := by simp; omega
      have HQ1 := Lib.hid hq
      have hrb : r ≤ 65535 := by omega
      obtain ⟨c0, c1, c2, f0, f1, f2, lt⟩ := HR.out.k.box
      obtain ⟨p, er⟩ := sk
      simp only at c1 c2
      clear hr0 hq
      by_cases h0 : er = 0
      case neg =>
        have ee : (er == 0) = false := by simp [h0]
        have HB := Lib.hid (rowS_bad one q (p, er) h0)
        clear h0
        go_wp2_with fail
        go_ret
        have HQ2 := HQ.out
        rw [HQ1.out, HB.out] at HQ2
        exact ⟨_, L, rfl, HO.out, by rw [HQ2]; simp, by rw [HQ2]; exact HR.out, HK.out⟩
      subst h0
      have HB := Lib.hid (rowS_good one q (p, 0) rfl)
      have HV := Lib.hid (HCC.out wr (p, 0) HR.out HK.out)
      go_wp2_with fail
      refine HV.out.mono ?_
      rintro e' W2 ⟨x, rfl, hx, hr2, hk2⟩
      have HX := Lib.hid hx
      have HR2 := Lib.hid hr2
      have HK2 := Lib.hid (HK.out.trans hk2)
      have HO2 := Lib.hid (own_keep1 HO.out hk2 HGL.out)
      clear hx hr2 hk2 HV HR HK HO c0 c1 c2 f0 f1 f2 lt
      have HQ2 := Lib.hid (show rowS one N s = ((L ++ [x]) ++ (rowS one q (one (p, 0)).2).1, (rowS one q (one (p, 0)).2).2) by
        rw [HQ.out, HQ1.out, HB.out, ← HX.out]; simp)
      clear HQ HB
      generalize (one (p, 0)).2 = s2 at *
      have HXV := Lib.hid (show L.flatMap TW.vals ++ (TW.vals x) = (L ++ [x]).flatMap TW.vals by simp)
      obtain ⟨x0, x1, x2, x3⟩ := x
      unfold TW.vals
      go_wp2_with (at_builtin; refine wpList_appS_lit stTrap rfl _ _ rfl w.heap.size _ L.length _ rfl HO2.out _ 1 _ _ rfl (by simp) rfl rfl (by omega) (by unfold maxLen; omega) HK2.out.size ?_; intro v3 W3 hown3 hg3 hb3; have hk3 : KeptT 71 W2 W3 := KeptT.app HO2.out hg3; have HK3 := Lib.hid (keep1_appA HK2.out HO2.out hg3); have HR3 := Lib.hid (HR2.out.keptT hk3 (by decide) HS0.out HK3.out); have HO3 := Lib.hid hown3; clear hown3 hg3 hb3 hk3)
      go_roundg q
      case measure => have h1 := HGR.out; have h2 := HQ1.out; omega
      case rel =>
        refine ⟨q, L ++ [⟨x0, x1, x2, x3⟩], s2, rfl, by have := HQ1.out; go_num, by have := HQ1.out; simp; omega, Lib.hid ?_, HR3, HK3, HQ2⟩
        rw [List.length_append, List.length_singleton, ← HXV.out]
        exact HO3.out
def RowRet_meth (g : Nat) (a : Option Addr) (n cap : Nat) (bs : List UInt8) (R : List MW × St) (w : World) (e : Ending) (w' : World) : Prop :=
  ∃ (v : Value) (L : List MW), e = .returned v ∧ w'.ownsRow w.heap.size 87 6 v L.length (L.flatMap MW.vals) ∧ L = R.1 ∧ RdS w' g a n cap bs R.2 ∧ Keep1 g w w'
set_option maxRecDepth 100000 in
set_option maxHeartbeats 8000000 in
theorem rrow_meth (w : World) (g : Nat) (a : Option Addr) (n cap : Nat) (bs : List UInt8) (s : St) (h : RdS w g a n cap bs s) (N : Nat) (hN : N ≤ 65535) (one : RM MW)
    (HC : ∀ (W : World) (s' : St), RdS W g a n cap bs s' → Keep1 g w W → Calls Try.prog 32 #[.pointer (some ⟨g, 0, none⟩)] W fun e w' => ∃ x : MW, e = .returned (.agg x.vals.toArray) ∧ x = (one s').1 ∧ RdS w' g a n cap bs (one s').2 ∧ Keep1 g W w') :
    Calls Try.prog 31 #[.pointer (some ⟨g, 0, none⟩), .int .i64 N, .func (.func 32) #[.pointer (some ⟨g, 0, none⟩)] #[]] w (RowRet_meth g a n cap bs (rowS one N s) w) := by
  have HR0 := Lib.hid h
  have HS0 := Lib.hid h.sl
  have HGL := Lib.hid h.lt
  have HCC := Lib.hid HC
  clear h HC
  go_enter Try.func31, Try.ntmps31
  go_wp2_with fail
  go_loopg [1, 7] N (fun gn t v wr => ∃ (r : Nat) (L : List MW) (sk : St), gn = r ∧ t = .int .i64 r ∧ L.length + r = N ∧ Hid (wr.ownsRow w.heap.size 87 6 v L.length (L.flatMap MW.vals)) ∧ Hid (RdS wr g a n cap bs sk) ∧ Hid (Keep1 g w wr) ∧ Hid (rowS one N s = (L ++ (rowS one r sk).1, (rowS one r sk).2)))
  case atStart => exact ⟨N, [], s, rfl, rfl, by simp, Lib.hid (World.ownsRow_nil _ _ _ _), HR0, Lib.hid (Keep1.refl _ _), Lib.hid (by simp)⟩
  case round =>
    obtain ⟨r, L, sk, hgr, rfl, hL, HO, HR, HK, HQ⟩ := hrel
    have HGR := Lib.hid hgr
    clear hgr
    by_cases hr0 : r = 0
    · subst hr0
      rw [rowS_zero] at HQ
      go_wp2_with fail
      go_ret
      exact ⟨_, L, rfl, HO.out, by rw [HQ.out]; simp, by rw [HQ.out]; exact HR.out, HK.out⟩
    · obtain ⟨q, hq⟩ : ∃ q, r = q + 1 := ⟨r - 1, by omega⟩
      have hr1 : decide ((0 : Int) < (r : Int)) = true := by simp; omega
      have hr2 : decide (0 < r) = true := by simp; omega
      have HQ1 := Lib.hid hq
      have hrb : r ≤ 65535 := by omega
      obtain ⟨c0, c1, c2, f0, f1, f2, lt⟩ := HR.out.k.box
      obtain ⟨p, er⟩ := sk
      simp only at c1 c2
      clear hr0 hq
      by_cases h0 : er = 0
      case neg =>
        have ee : (er == 0) = false := by simp [h0]
        have HB := Lib.hid (rowS_bad one q (p, er) h0)
        clear h0
        go_wp2_with fail
        go_ret
        have HQ2 := HQ.out
        rw [HQ1.out, HB.out] at HQ2
        exact ⟨_, L, rfl, HO.out, by rw [HQ2]; simp, by rw [HQ2]; exact HR.out, HK.out⟩
      subst h0
      have HB := Lib.hid (rowS_good one q (p, 0) rfl)
      have HV := Lib.hid (HCC.out wr (p, 0) HR.out HK.out)
      go_wp2_with fail
      refine HV.out.mono ?_
      rintro e' W2 ⟨x, rfl, hx, hr2, hk2⟩
      have HX := Lib.hid hx
      have HR2 := Lib.hid hr2
      have HK2 := Lib.hid (HK.out.trans hk2)
      have HO2 := Lib.hid (own_keep1 HO.out hk2 HGL.out)
      clear hx hr2 hk2 HV HR HK HO c0 c1 c2 f0 f1 f2 lt
      have HQ2 := Lib.hid (show rowS one N s = ((L ++ [x]) ++ (rowS one q (one (p, 0)).2).1, (rowS one q (one (p, 0)).2).2) by
        rw [HQ.out, HQ1.out, HB.out, ← HX.out]; simp)
      clear HQ HB
      generalize (one (p, 0)).2 = s2 at *
      have HXV := Lib.hid (show L.flatMap MW.vals ++ (MW.vals x) = (L ++ [x]).flatMap MW.vals by simp)
      obtain ⟨x0, x1, x2, x3, x4, x5⟩ := x
      unfold MW.vals
      go_wp2_with (at_builtin; refine wpList_appS_lit stMeth rfl _ _ rfl w.heap.size _ L.length _ rfl HO2.out _ 1 _ _ rfl (by simp) rfl rfl (by omega) (by unfold maxLen; omega) HK2.out.size ?_; intro v3 W3 hown3 hg3 hb3; have hk3 : KeptT 87 W2 W3 := KeptT.app HO2.out hg3; have HK3 := Lib.hid (keep1_appA HK2.out HO2.out hg3); have HR3 := Lib.hid (HR2.out.keptT hk3 (by decide) HS0.out HK3.out); have HO3 := Lib.hid hown3; clear hown3 hg3 hb3 hk3)
      go_roundg q
      case measure => have h1 := HGR.out; have h2 := HQ1.out; omega
      case rel =>
        refine ⟨q, L ++ [⟨x0, x1, x2, x3, x4, x5⟩], s2, rfl, by have := HQ1.out; go_num, by have := HQ1.out; simp; omega, Lib.hid ?_, HR3, HK3, HQ2⟩
        rw [List.length_append, List.length_singleton, ← HXV.out]
        exact HO3.out
def RowRet_class (g : Nat) (a : Option Addr) (n cap : Nat) (bs : List UInt8) (R : List CP × St) (w : World) (e : Ending) (w' : World) : Prop :=
  ∃ (v : Value) (L : List CW), e = .returned v ∧ w'.ownsRow w.heap.size 82 5 v L.length (L.flatMap CW.vals) ∧ (∀ x ∈ L, x.Own w' w.heap.size) ∧ L.map CW.p = R.1 ∧ RdS w' g a n cap bs R.2 ∧ Keep1 g w w'
set_option maxRecDepth 100000 in
set_option maxHeartbeats 8000000 in
theorem rrow_class (w : World) (g : Nat) (a : Option Addr) (n cap : Nat) (bs : List UInt8) (s : St) (h : RdS w g a n cap bs s) (N : Nat) (hN : N ≤ 65535) (one : RM CP)
    (HC : ∀ (W : World) (s' : St), RdS W g a n cap bs s' → Keep1 g w W → Calls Try.prog 30 #[.pointer (some ⟨g, 0, none⟩)] W fun e w' => ∃ x : CW, e = .returned (.agg x.vals.toArray) ∧ CW.p x = (one s').1 ∧ x.Own w' W.heap.size ∧ RdS w' g a n cap bs (one s').2 ∧ Keep1 g W w') :
    Calls Try.prog 28 #[.pointer (some ⟨g, 0, none⟩), .int .i64 N, .func (.func 30) #[.pointer (some ⟨g, 0, none⟩)] #[]] w (RowRet_class g a n cap bs (rowS one N s) w) := by
  have HR0 := Lib.hid h
  have HS0 := Lib.hid h.sl
  have HGL := Lib.hid h.lt
  have HCC := Lib.hid HC
  clear h HC
  go_enter Try.func28, Try.ntmps28
  go_wp2_with fail
  go_loopg [1, 7] N (fun gn t v wr => ∃ (r : Nat) (L : List CW) (sk : St), gn = r ∧ t = .int .i64 r ∧ L.length + r = N ∧ Hid (wr.ownsRow w.heap.size 82 5 v L.length (L.flatMap CW.vals)) ∧ Hid (∀ x ∈ L, x.Own wr w.heap.size) ∧ Hid (RdS wr g a n cap bs sk) ∧ Hid (Keep1 g w wr) ∧ Hid (rowS one N s = (L.map CW.p ++ (rowS one r sk).1, (rowS one r sk).2)))
  case atStart => exact ⟨N, [], s, rfl, rfl, by simp, Lib.hid (World.ownsRow_nil _ _ _ _), Lib.hid (fun x hx => by cases hx), HR0, Lib.hid (Keep1.refl _ _), Lib.hid (by simp)⟩
  case round =>
    obtain ⟨r, L, sk, hgr, rfl, hL, HO, HOW, HR, HK, HQ⟩ := hrel
    have HGR := Lib.hid hgr
    clear hgr
    by_cases hr0 : r = 0
    · subst hr0
      rw [rowS_zero] at HQ
      go_wp2_with fail
      go_ret
      exact ⟨_, L, rfl, HO.out, HOW.out, by rw [HQ.out]; simp, by rw [HQ.out]; exact HR.out, HK.out⟩
    · obtain ⟨q, hq⟩ : ∃ q, r = q + 1 := ⟨r - 1, by omega⟩
      have hr1 : decide ((0 : Int) < (r : Int)) = true := by simp; omega
      have hr2 : decide (0 < r) = true := by simp; omega
      have HQ1 := Lib.hid hq
      have hrb : r ≤ 65535 := by omega
      obtain ⟨c0, c1, c2, f0, f1, f2, lt⟩ := HR.out.k.box
      obtain ⟨p, er⟩ := sk
      simp only at c1 c2
      clear hr0 hq
      by_cases h0 : er = 0
      case neg =>
        have ee : (er == 0) = false := by simp [h0]
        have HB := Lib.hid (rowS_bad one q (p, er) h0)
        clear h0
        go_wp2_with fail
        go_ret
        have HQ2 := HQ.out
        rw [HQ1.out, HB.out] at HQ2
        exact ⟨_, L, rfl, HO.out, HOW.out, by rw [HQ2]; simp, by rw [HQ2]; exact HR.out, HK.out⟩
      subst h0
      have HB := Lib.hid (rowS_good one q (p, 0) rfl)
      have HV := Lib.hid (HCC.out wr (p, 0) HR.out HK.out)
      go_wp2_with fail
      refine HV.out.mono ?_
      rintro e' W2 ⟨x, rfl, hx, hox, hr2, hk2⟩
      have HX := Lib.hid hx
      have HR2 := Lib.hid hr2
      have HK2 := Lib.hid (HK.out.trans hk2)
      have HO2 := Lib.hid (own_keep1 HO.out hk2 HGL.out)
      have HOX := Lib.hid (hox.mono HK.out.size)
      have HOW2 := Lib.hid (fun y hy => (HOW.out y hy).keep1 hk2 HGL.out)
      clear hox HOW
      clear hx hr2 hk2 HV HR HK HO c0 c1 c2 f0 f1 f2 lt
      have HQ2 := Lib.hid (show rowS one N s = ((L ++ [x]).map CW.p ++ (rowS one q (one (p, 0)).2).1, (rowS one q (one (p, 0)).2).2) by
        rw [HQ.out, HQ1.out, HB.out, ← HX.out]; simp)
      clear HQ HB
      generalize (one (p, 0)).2 = s2 at *
      have HXV := Lib.hid (show L.flatMap CW.vals ++ (CW.vals x) = (L ++ [x]).flatMap CW.vals by simp)
      obtain ⟨x0, x1, x2, xra, xrn, xrc, xr, xta, xtn, xtc, xt⟩ := x
      unfold CW.vals
      go_wp2_with (at_builtin; refine wpList_appS_lit stClass rfl _ _ rfl w.heap.size _ L.length _ rfl HO2.out _ 1 _ _ rfl (by simp) rfl rfl (by omega) (by unfold maxLen; omega) HK2.out.size ?_; intro v3 W3 hown3 hg3 hb3; have hk3 : KeptT 82 W2 W3 := KeptT.app HO2.out hg3; have HK3 := Lib.hid (keep1_appA HK2.out HO2.out hg3); have HR3 := Lib.hid (HR2.out.keptT hk3 (by decide) HS0.out HK3.out); have HO3 := Lib.hid hown3; have HOX3 := Lib.hid (HOX.out.keptT hk3 (by decide)); have HOW3 := Lib.hid (fun y hy => (HOW2.out y hy).keptT hk3 (by decide)); clear hown3 hg3 hb3 hk3)
      go_roundg q
      case measure => have h1 := HGR.out; have h2 := HQ1.out; omega
      case rel =>
        refine ⟨q, L ++ [⟨x0, x1, x2, xra, xrn, xrc, xr, xta, xtn, xtc, xt⟩], s2, rfl, by have := HQ1.out; go_num, by have := HQ1.out; simp; omega, Lib.hid ?_, Lib.hid (fun y hy => by rcases List.mem_append.1 hy with h | h; exact HOW3.out y h; rw [List.mem_singleton.1 h]; exact HOX3.out), HR3, HK3, HQ2⟩
        rw [List.length_append, List.length_singleton, ← HXV.out]
        exact HO3.out
def RowRet_code (g : Nat) (a : Option Addr) (n cap : Nat) (bs : List UInt8) (R : List KP × St) (w : World) (e : Ending) (w' : World) : Prop :=
  ∃ (v : Value) (L : List KW), e = .returned v ∧ w'.ownsRow w.heap.size 62 6 v L.length (L.flatMap KW.vals) ∧ (∀ x ∈ L, x.Own w' w.heap.size) ∧ L.map KW.p = R.1 ∧ RdS w' g a n cap bs R.2 ∧ Keep1 g w w'
set_option maxRecDepth 100000 in
set_option maxHeartbeats 8000000 in
theorem rrow_code (w : World) (g : Nat) (a : Option Addr) (n cap : Nat) (bs : List UInt8) (s : St) (h : RdS w g a n cap bs s) (N : Nat) (hN : N ≤ 65535) (one : RM KP)
    (HC : ∀ (W : World) (s' : St), RdS W g a n cap bs s' → Keep1 g w W → Calls Try.prog 38 #[.pointer (some ⟨g, 0, none⟩)] W fun e w' => ∃ x : KW, e = .returned (.agg x.vals.toArray) ∧ KW.p x = (one s').1 ∧ x.Own w' W.heap.size ∧ RdS w' g a n cap bs (one s').2 ∧ Keep1 g W w') :
    Calls Try.prog 37 #[.pointer (some ⟨g, 0, none⟩), .int .i64 N, .func (.func 38) #[.pointer (some ⟨g, 0, none⟩)] #[]] w (RowRet_code g a n cap bs (rowS one N s) w) := by
  have HR0 := Lib.hid h
  have HS0 := Lib.hid h.sl
  have HGL := Lib.hid h.lt
  have HCC := Lib.hid HC
  clear h HC
  go_enter Try.func37, Try.ntmps37
  go_wp2_with fail
  go_loopg [1, 7] N (fun gn t v wr => ∃ (r : Nat) (L : List KW) (sk : St), gn = r ∧ t = .int .i64 r ∧ L.length + r = N ∧ Hid (wr.ownsRow w.heap.size 62 6 v L.length (L.flatMap KW.vals)) ∧ Hid (∀ x ∈ L, x.Own wr w.heap.size) ∧ Hid (RdS wr g a n cap bs sk) ∧ Hid (Keep1 g w wr) ∧ Hid (rowS one N s = (L.map KW.p ++ (rowS one r sk).1, (rowS one r sk).2)))
  case atStart => exact ⟨N, [], s, rfl, rfl, by simp, Lib.hid (World.ownsRow_nil _ _ _ _), Lib.hid (fun x hx => by cases hx), HR0, Lib.hid (Keep1.refl _ _), Lib.hid (by simp)⟩
  case round =>
    obtain ⟨r, L, sk, hgr, rfl, hL, HO, HOW, HR, HK, HQ⟩ := hrel
    have HGR := Lib.hid hgr
    clear hgr
    by_cases hr0 : r = 0
    · subst hr0
      rw [rowS_zero] at HQ
      go_wp2_with fail
      go_ret
      exact ⟨_, L, rfl, HO.out, HOW.out, by rw [HQ.out]; simp, by rw [HQ.out]; exact HR.out, HK.out⟩
    · obtain ⟨q, hq⟩ : ∃ q, r = q + 1 := ⟨r - 1, by omega⟩
      have hr1 : decide ((0 : Int) < (r : Int)) = true := by simp; omega
      have hr2 : decide (0 < r) = true := by simp; omega
      have HQ1 := Lib.hid hq
      have hrb : r ≤ 65535 := by omega
      obtain ⟨c0, c1, c2, f0, f1, f2, lt⟩ := HR.out.k.box
      obtain ⟨p, er⟩ := sk
      simp only at c1 c2
      clear hr0 hq
      by_cases h0 : er = 0
      case neg =>
        have ee : (er == 0) = false := by simp [h0]
        have HB := Lib.hid (rowS_bad one q (p, er) h0)
        clear h0
        go_wp2_with fail
        go_ret
        have HQ2 := HQ.out
        rw [HQ1.out, HB.out] at HQ2
        exact ⟨_, L, rfl, HO.out, HOW.out, by rw [HQ2]; simp, by rw [HQ2]; exact HR.out, HK.out⟩
      subst h0
      have HB := Lib.hid (rowS_good one q (p, 0) rfl)
      have HV := Lib.hid (HCC.out wr (p, 0) HR.out HK.out)
      go_wp2_with fail
      refine HV.out.mono ?_
      rintro e' W2 ⟨x, rfl, hx, hox, hr2, hk2⟩
      have HX := Lib.hid hx
      have HR2 := Lib.hid hr2
      have HK2 := Lib.hid (HK.out.trans hk2)
      have HO2 := Lib.hid (own_keep1 HO.out hk2 HGL.out)
      have HOX := Lib.hid (hox.mono HK.out.size)
      have HOW2 := Lib.hid (fun y hy => (HOW.out y hy).keep1 hk2 HGL.out)
      clear hox HOW
      clear hx hr2 hk2 HV HR HK HO c0 c1 c2 f0 f1 f2 lt
      have HQ2 := Lib.hid (show rowS one N s = ((L ++ [x]).map KW.p ++ (rowS one q (one (p, 0)).2).1, (rowS one q (one (p, 0)).2).2) by
        rw [HQ.out, HQ1.out, HB.out, ← HX.out]; simp)
      clear HQ HB
      generalize (one (p, 0)).2 = s2 at *
      have HXV := Lib.hid (show L.flatMap KW.vals ++ (KW.vals x) = (L ++ [x]).flatMap KW.vals by simp)
      obtain ⟨x0, x1, x2, x3, x4, xta, xtn, xtc, xt⟩ := x
      unfold KW.vals
      go_wp2_with (at_builtin; refine wpList_appS_lit stCode rfl _ _ rfl w.heap.size _ L.length _ rfl HO2.out _ 1 _ _ rfl (by simp) rfl rfl (by omega) (by unfold maxLen; omega) HK2.out.size ?_; intro v3 W3 hown3 hg3 hb3; have hk3 : KeptT 62 W2 W3 := KeptT.app HO2.out hg3; have HK3 := Lib.hid (keep1_appA HK2.out HO2.out hg3); have HR3 := Lib.hid (HR2.out.keptT hk3 (by decide) HS0.out HK3.out); have HO3 := Lib.hid hown3; have HOX3 := Lib.hid (HOX.out.keptT hk3 (by decide)); have HOW3 := Lib.hid (fun y hy => (HOW2.out y hy).keptT hk3 (by decide)); clear hown3 hg3 hb3 hk3)
      go_roundg q
      case measure => have h1 := HGR.out; have h2 := HQ1.out; omega
      case rel =>
        refine ⟨q, L ++ [⟨x0, x1, x2, x3, x4, xta, xtn, xtc, xt⟩], s2, rfl, by have := HQ1.out; go_num, by have := HQ1.out; simp; omega, Lib.hid ?_, Lib.hid (fun y hy => by rcases List.mem_append.1 hy with h | h; exact HOW3.out y h; rw [List.mem_singleton.1 h]; exact HOX3.out), HR3, HK3, HQ2⟩
        rw [List.length_append, List.length_singleton, ← HXV.out]
        exact HO3.out
end Go.Proofs.Ytbcldlbmbdfejaa
