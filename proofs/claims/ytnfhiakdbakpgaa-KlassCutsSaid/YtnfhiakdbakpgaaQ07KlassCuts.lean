/- pool: the reader's one (printed by gen/pool4.py). No condition. -/
import Derived.Test.YtnfhiakdbakpgaaQ06KlassCuts
namespace Go.Proofs.Ytnfhiakdbakpgaa
open Go.ChangeShapes Go.WideShapes Go.ChangeAt Go.RowKit
/-- A constant alone in a block. -/
def KBlk (w : World) (b : Nat) (ct ca cb cn : Int) (cs : List UInt8) : Prop := w.heap[b]? = some (.cells #[.int .i64 ct, .int .i64 ca, .int .i64 cb, .int .i64 cn, .string ⟨cs.toArray⟩] 42)
theorem KBlk.grown {w w' : World} {b g : Nat} {ct ca cb cn : Int} {cs : List UInt8} (h : KBlk w b ct ca cb cn cs) (hg : w.grownBy w' (some g)) (hne : b ≠ g) : KBlk w' b ct ca cb cn cs := by
  unfold KBlk
  rw [hg.block b (Array.getElem?_eq_some_iff.1 h).1 (fun e => hne (by cases e; rfl))]
  exact h
theorem KBlk.alloc {w : World} {b : Nat} {ct ca cb cn : Int} {cs : List UInt8} (h : KBlk w b ct ca cb cn cs) (ob : Obj) : KBlk (w.alloc ob) b ct ca cb cn cs := by
  unfold KBlk
  rw [Below.heap_alloc _ _ _ (Array.getElem?_eq_some_iff.1 h).1]
  exact h
theorem KBlk.box {w : World} {b : Nat} {ct ca cb cn : Int} {cs : List UInt8} (h : KBlk w b ct ca cb cn cs) : KBox w b ct ca cb cn cs ∧ (w.frozen? ⟨b, 0, none⟩ = false ∧ w.frozen? ⟨b, 1, none⟩ = false ∧ w.frozen? ⟨b, 2, none⟩ = false ∧ w.frozen? ⟨b, 3, none⟩ = false ∧ w.frozen? ⟨b, 4, none⟩ = false) ∧ b < w.heap.size := by
  refine ⟨⟨?_, ?_, ?_, ?_, ?_⟩, ⟨?_, ?_, ?_, ?_, ?_⟩, (Array.getElem?_eq_some_iff.1 h).1⟩
  · rw [cell_of_row w b 0 _ _ _ h]; rfl
  · rw [cell_of_row w b 1 _ _ _ h]; rfl
  · rw [cell_of_row w b 2 _ _ _ h]; rfl
  · rw [cell_of_row w b 3 _ _ _ h]; rfl
  · rw [cell_of_row w b 4 _ _ _ h]; rfl
  all_goals (unfold World.frozen?; rw [h]; rfl)
theorem KBlk.other {w : World} {b g i : Nat} {v : Value} {ct ca cb cn : Int} {cs : List UInt8} (h : KBlk w b ct ca cb cn cs) (hne : b ≠ g) : KBlk (w.setCell ⟨g, i, none⟩ v) b ct ca cb cn cs := by
  unfold KBlk
  rw [heap_setKX hne]
  exact h
theorem RdBlk.other {w : World} {b g i : Nat} {v : Value} {a : Option Addr} {n cap p : Nat} {e : Int} (h : RdBlk w g a n cap p e) (hne : g ≠ b) : RdBlk (w.setCell ⟨b, i, none⟩ v) g a n cap p e := by
  unfold RdBlk
  rw [heap_setKX hne]
  exact h
theorem RdBlk.alloc {w : World} {g : Nat} {a : Option Addr} {n cap p : Nat} {e : Int} (h : RdBlk w g a n cap p e) (ob : Obj) : RdBlk (w.alloc ob) g a n cap p e := by
  unfold RdBlk
  rw [Below.heap_alloc _ _ _ (Array.getElem?_eq_some_iff.1 h).1]
  exact h
theorem KBlk.set {w : World} {b : Nat} {ct ca cb cn ct' ca' cb' cn' : Int} {cs cs' : List UInt8} (h : KBlk w b ct ca cb cn cs) :
    KBlk (((((w.setCell ⟨b, 0, none⟩ (.int .i64 ct')).setCell ⟨b, 1, none⟩ (.int .i64 ca')).setCell ⟨b, 2, none⟩ (.int .i64 cb')).setCell ⟨b, 3, none⟩ (.int .i64 cn')).setCell ⟨b, 4, none⟩ (.string ⟨cs'.toArray⟩)) b ct' ca' cb' cn' cs' :=
  heap_setK (heap_setK (heap_setK (heap_setK (heap_setK h 0 _) 1 _) 2 _) 3 _) 4 _
theorem grown_new {w w' : World} {g b i : Nat} {v : Value} (h : w.grownBy w' (some g)) (hb : w.heap.size ≤ b) : w.grownBy (w'.setCell ⟨b, i, none⟩ v) (some g) :=
  ⟨h.os, h.tape, h.output, by rw [size_setK]; exact h.size, fun k hk hne => by rw [heap_setKX (by omega)]; exact h.block k hk hne⟩
theorem grown_trans {w w' w'' : World} {g : Nat} (h : w.grownBy w' (some g)) (h' : w'.grownBy w'' (some g)) : w.grownBy w'' (some g) :=
  ⟨h'.os.trans h.os, h'.tape.trans h.tape, h'.output.trans h.output, Nat.le_trans h.size h'.size, fun k hk hne => (h'.block k (Nat.lt_of_lt_of_le hk h.size) hne).trans (h.block k hk hne)⟩
theorem grown_alloc {w w' : World} {g : Nat} (h : w.grownBy w' (some g)) (ob : Obj) : w.grownBy (w'.alloc ob) (some g) :=
  grown_trans h (World.grownBy_alloc w' ob (some g))
theorem grown_set5 {w w' : World} {g b : Nat} {v0 v1 v2 v3 v4 : Value} (h : w.grownBy w' (some g)) (hb : w.heap.size ≤ b) :
    w.grownBy (((((w'.setCell ⟨b, 0, none⟩ v0).setCell ⟨b, 1, none⟩ v1).setCell ⟨b, 2, none⟩ v2).setCell ⟨b, 3, none⟩ v3).setCell ⟨b, 4, none⟩ v4) (some g) :=
  grown_new (grown_new (grown_new (grown_new (grown_new h hb) hb) hb) hb) hb
theorem RdBlk.other5 {w : World} {b g : Nat} {v0 v1 v2 v3 v4 : Value} {a : Option Addr} {n cap p : Nat} {e : Int} (h : RdBlk w g a n cap p e) (hne : g ≠ b) :
    RdBlk (((((w.setCell ⟨b, 0, none⟩ v0).setCell ⟨b, 1, none⟩ v1).setCell ⟨b, 2, none⟩ v2).setCell ⟨b, 3, none⟩ v3).setCell ⟨b, 4, none⟩ v4) g a n cap p e :=
  ((((h.other hne).other hne).other hne).other hne).other hne
def OneRet (bs : List UInt8) (g : Nat) (a : Option Addr) (n cap p : Nat) (w : World) (en : Ending) (w' : World) : Prop :=
  en = .returned (kV (oneR bs p).1) ∧ RdBlk w' g a n cap (oneR bs p).2.1 (oneR bs p).2.2 ∧ w.grownBy w' (some g)
set_option maxRecDepth 100000 in
set_option maxHeartbeats 16000000 in
theorem one_any (w : World) (a : Option Addr) (n cap : Nat) (bs : List UInt8) (g p : Nat) (hs : Sl encB w a n bs) (hn : n ≤ 1048576) (hcap : n ≤ cap) (hp : p ≤ 1048576) (hb : RdBlk w g a n cap p 0) (hbg : ∀ b off, a = some ⟨b, off, none⟩ → b ≠ g) :
    Calls Try.prog 67 #[.pointer (some ⟨g, 0, none⟩)] w (OneRet bs g a n cap p w) := by
  have HS := Lib.hid hs
  have HNG := Lib.hid hbg
  have HLn := Lib.hid hs.1
  have hgw := (Array.getElem?_eq_some_iff.1 hb).1
  have HN1 := Lib.hid (next_any (w.alloc (.cells #[.int .i64 0, .int .i64 0, .int .i64 0, .int .i64 0, .string ⟨#[]⟩] 42)) a n cap bs g p 0 1 (hs.below (below_1 _ _)) hn hcap (by omega) (by decide) (hb.alloc _))
  have HNB := Lib.hid (next_bound bs p 0 1 (by decide))
  have HNP := Lib.hid (next_place bs p 0 1)
  have HNK := Lib.hid (next_ok bs p 1)
  have HGO := Lib.hid (show oneR bs p = oneR bs p from rfl)
  obtain ⟨R, hR⟩ : ∃ R, R = oneR bs p := ⟨_, rfl⟩
  have HR := Lib.hid hR
  unfold OneRet
  rw [← hR]
  clear hR hs hb hbg HGO
  have HON0 : Hid (R = oneR bs p) := HR
  unfold oneR at HON0
  unfold NextRet at HN1
  simp only at HON0
  generalize (nextR bs p 0 1).1 = t at *
  generalize (nextR bs p 0 1).2.1 = p1 at *
  generalize (nextR bs p 0 1).2.2 = e1 at *
  obtain ⟨t0, t1⟩ := HNB.out
  rw [show ((256 ^ 1 : Nat) : Int) = 256 from rfl] at t1
  have hp1 : p1 ≤ p + 1 := HNP.out
  go_enter Try.func67, Try.ntmps67
  go_wp2_with fail
  refine HN1.out.mono ?_
  rintro e w2 ⟨rfl, hr2, hg2⟩
  go_upto_region 2 with fail
  have hb0 : w.heap.size < (w.alloc (.cells #[.int .i64 0, .int .i64 0, .int .i64 0, .int .i64 0, .string ⟨#[]⟩] 42)).heap.size := by simp
  have hw2 : w.heap.size < w2.heap.size := Nat.lt_of_lt_of_le hb0 hg2.size
  have hgb : g ≠ w.heap.size := by omega
  have HO3 := Lib.hid (((show KBlk (w.alloc (.cells #[.int .i64 0, .int .i64 0, .int .i64 0, .int .i64 0, .string ⟨#[]⟩] 42)) w.heap.size 0 0 0 0 [] from heap_alloc_last w _).grown hg2 (Ne.symm hgb)).alloc (.cells #[.int .i64 t, .int .i64 0, .int .i64 0, .int .i64 0, .string ⟨#[]⟩] 42))
  have HC3 := Lib.hid (show KBlk (w2.alloc (.cells #[.int .i64 t, .int .i64 0, .int .i64 0, .int .i64 0, .string ⟨#[]⟩] 42)) w2.heap.size t 0 0 0 [] from heap_alloc_last w2 _)
  have HG3 := Lib.hid (grown_alloc (grown_trans (World.grownBy_alloc w (.cells #[.int .i64 0, .int .i64 0, .int .i64 0, .int .i64 0, .string ⟨#[]⟩] 42) (some g)) hg2) (.cells #[.int .i64 t, .int .i64 0, .int .i64 0, .int .i64 0, .string ⟨#[]⟩] 42))
  have HR3 := Lib.hid (hr2.alloc (.cells #[.int .i64 t, .int .i64 0, .int .i64 0, .int .i64 0, .string ⟨#[]⟩] 42))
  have HS3 := Lib.hid (HS.out.grownK HG3.out HNG.out)
  clear hr2 hg2 hb0
  generalize w2.alloc (.cells #[.int .i64 t, .int .i64 0, .int .i64 0, .int .i64 0, .string ⟨#[]⟩] 42) = W at *
  have hkg : w2.heap.size ≠ g := by omega
  have hkb : w2.heap.size ≠ w.heap.size := by omega
  generalize w2.heap.size = k at *
  obtain ⟨⟨r0, r1, r2⟩, ⟨s1, s2⟩, hgl⟩ := HR3.out.box
  obtain ⟨⟨k0, k1, k2, k3, k4⟩, ⟨f0, f1, f2, f3, f4⟩, hkl⟩ := HC3.out.box
  obtain ⟨⟨b0, b1, b2, b3, b4⟩, ⟨d0, d1, d2, d3, d4⟩, hbl⟩ := HO3.out.box
  by_cases he : e1 = 0
  case' neg =>
    have HON := Lib.hid (show R = (⟨t, 0, 0, 0, []⟩, p1, e1) by rw [HON0.out, if_pos he])
    have ee : (e1 != 0) = true := by simp [he]
    have HOX := HO3
    have HRX := HR3
    have HGX := HG3
    clear he HON0
    go_wp2_with fail
    exact bodyPost_ret (results_cell_row rfl _ _ w.heap.size _ _ _ _ rfl (KBlk.set (ct' := t) (ca' := 0) (cb' := 0) (cn' := 0) (cs' := []) HOX.out) Try.underlying42 rfl infoConst) rfl ⟨by rw [HON.out]; rfl, by rw [HON.out]; exact HRX.out.other5 hgb, grown_set5 HGX.out (Nat.le_refl _)⟩
  subst he
  have hpn := (HNK.out rfl).2
  rw [HLn.out] at hpn
  clear HNK HN1
  have hwk : w.heap.size ≤ k := by omega
  by_cases t1x : t = 1
  · subst t1x
    have HN4 := Lib.hid (next_any W a n cap bs g p1 0 2 HS3.out hn hcap (by omega) (by decide) HR3.out)
    have HNB4 := Lib.hid (next_bound bs p1 0 2 (by decide))
    have HNP4 := Lib.hid (next_place bs p1 0 2)
    unfold NextRet at HN4
    have HON := Lib.hid (show R = (⟨1, 0, 0, 0, (textR bs (nextR bs p1 0 2).2.1 (nextR bs p1 0 2).2.2 (nextR bs p1 0 2).1.toNat).1⟩, (textR bs (nextR bs p1 0 2).2.1 (nextR bs p1 0 2).2.2 (nextR bs p1 0 2).1.toNat).2.1, (textR bs (nextR bs p1 0 2).2.1 (nextR bs p1 0 2).2.2 (nextR bs p1 0 2).1.toNat).2.2) by rw [HON0.out, if_neg (by decide), if_pos (by decide)])
    clear HON0
    generalize (nextR bs p1 0 2).1 = v at *
    generalize (nextR bs p1 0 2).2.1 = p2 at *
    generalize (nextR bs p1 0 2).2.2 = e2 at *
    obtain ⟨v0, v1⟩ := HNB4.out
    rw [show ((256 ^ 2 : Nat) : Int) = 65536 from rfl] at v1
    have hp2 : p2 ≤ p1 + 2 := HNP4.out
    obtain ⟨q, rfl⟩ : ∃ q : Nat, v = q := ⟨v.toNat, by omega⟩
    rw [Int.toNat_natCast] at HON
    go_wp2_with fail
    clear r0 r1 r2 s1 s2 k0 k1 k2 k3 k4 f0 f1 f2 f3 f4 b0 b1 b2 b3 b4 d0 d1 d2 d3 d4
    refine HN4.out.mono ?_
    rintro e w4 ⟨rfl, hr4, hg4⟩
    have HR4 := Lib.hid hr4
    have HG4 := Lib.hid (grown_trans HG3.out hg4)
    have HC4 := Lib.hid (HC3.out.grown hg4 hkg)
    have HO4 := Lib.hid (HO3.out.grown hg4 (Ne.symm hgb))
    clear hr4 hg4
    have HTX := Lib.hid (text_any w4 a n cap bs g p2 e2 q (HS.out.grownK HG4.out HNG.out) hn hcap (by omega) (by omega) HR4.out (fun _ => by omega) HNG.out)
    unfold TextRd at HTX
    generalize (textR bs p2 e2 q).1 = st at *
    generalize (textR bs p2 e2 q).2.1 = p3 at *
    generalize (textR bs p2 e2 q).2.2 = e3 at *
    go_wp2_with fail
    refine HTX.out.mono ?_
    rintro e w5 ⟨rfl, hr5, hg5⟩
    replace HR4 := Lib.hid hr5
    replace HG4 := Lib.hid (grown_trans HG4.out hg5)
    replace HC4 := Lib.hid (HC4.out.grown hg5 hkg)
    replace HO4 := Lib.hid (HO4.out.grown hg5 (Ne.symm hgb))
    clear hr5 hg5
    obtain ⟨⟨r0, r1, r2⟩, ⟨s1, s2⟩, hgl4⟩ := HR4.out.box
    obtain ⟨⟨k0, k1, k2, k3, k4⟩, ⟨f0, f1, f2, f3, f4⟩, hkl4⟩ := HC4.out.box
    obtain ⟨⟨b0, b1, b2, b3, b4⟩, ⟨d0, d1, d2, d3, d4⟩, hbl4⟩ := HO4.out.box
    have HOX := Lib.hid (show KBlk (w5.setCell ⟨k, 4, none⟩ (.string ⟨st.toArray⟩)) w.heap.size 0 0 0 0 [] from HO4.out.other (Ne.symm hkb))
    have HRX := Lib.hid (show RdBlk (w5.setCell ⟨k, 4, none⟩ (.string ⟨st.toArray⟩)) g a n cap _ _ from HR4.out.other (Ne.symm hkg))
    have HGX := Lib.hid (show w.grownBy (w5.setCell ⟨k, 4, none⟩ (.string ⟨st.toArray⟩)) (some g) from (grown_new HG4.out hwk))
    go_wp2_with fail
    exact bodyPost_ret (results_cell_row rfl _ _ w.heap.size _ _ _ _ rfl (KBlk.set (ct' := 1) (ca' := 0) (cb' := 0) (cn' := 0) (cs' := st) HOX.out) Try.underlying42 rfl infoConst) rfl ⟨by rw [HON.out]; rfl, by rw [HON.out]; exact HRX.out.other5 hgb, grown_set5 HGX.out (Nat.le_refl _)⟩
  by_cases t3x : t = 3
  · subst t3x
    have HN4 := Lib.hid (next_any W a n cap bs g p1 0 4 HS3.out hn hcap (by omega) (by decide) HR3.out)
    have HNB4 := Lib.hid (next_bound bs p1 0 4 (by decide))
    have HNP4 := Lib.hid (next_place bs p1 0 4)
    unfold NextRet at HN4
    have HON := Lib.hid (show R = (⟨3, 0, 0, signB (nextR bs p1 0 4).1 4, []⟩, (nextR bs p1 0 4).2.1, (nextR bs p1 0 4).2.2) by rw [HON0.out, if_neg (by decide), if_neg (by decide), if_pos (by decide)])
    clear HON0
    generalize (nextR bs p1 0 4).1 = v at *
    generalize (nextR bs p1 0 4).2.1 = p2 at *
    generalize (nextR bs p1 0 4).2.2 = e2 at *
    obtain ⟨v0, v1⟩ := HNB4.out
    rw [show ((256 ^ 4 : Nat) : Int) = 4294967296 from rfl] at v1
    go_wp2_with fail
    clear r0 r1 r2 s1 s2 k0 k1 k2 k3 k4 f0 f1 f2 f3 f4 b0 b1 b2 b3 b4 d0 d1 d2 d3 d4
    refine HN4.out.mono ?_
    rintro e w4 ⟨rfl, hr4, hg4⟩
    have HR4 := Lib.hid hr4
    have HG4 := Lib.hid (grown_trans HG3.out hg4)
    have HC4 := Lib.hid (HC3.out.grown hg4 hkg)
    have HO4 := Lib.hid (HO3.out.grown hg4 (Ne.symm hgb))
    clear hr4 hg4
    have HSG := Lib.hid (Sign_any w4 v 4 ⟨v0, by omega⟩ (by unfold IntR; omega))
    generalize signB v 4 = sg at *
    go_wp2_with fail
    refine HSG.out.mono ?_
    rintro e w' ⟨rfl, rfl⟩
    obtain ⟨⟨r0, r1, r2⟩, ⟨s1, s2⟩, hgl4⟩ := HR4.out.box
    obtain ⟨⟨k0, k1, k2, k3, k4⟩, ⟨f0, f1, f2, f3, f4⟩, hkl4⟩ := HC4.out.box
    obtain ⟨⟨b0, b1, b2, b3, b4⟩, ⟨d0, d1, d2, d3, d4⟩, hbl4⟩ := HO4.out.box
    have HOX := Lib.hid (show KBlk (w4.setCell ⟨k, 3, none⟩ (.int .i64 sg)) w.heap.size 0 0 0 0 [] from HO4.out.other (Ne.symm hkb))
    have HRX := Lib.hid (show RdBlk (w4.setCell ⟨k, 3, none⟩ (.int .i64 sg)) g a n cap _ _ from HR4.out.other (Ne.symm hkg))
    have HGX := Lib.hid (show w.grownBy (w4.setCell ⟨k, 3, none⟩ (.int .i64 sg)) (some g) from (grown_new HG4.out hwk))
    go_wp2_with fail
    exact bodyPost_ret (results_cell_row rfl _ _ w.heap.size _ _ _ _ rfl (KBlk.set (ct' := 3) (ca' := 0) (cb' := 0) (cn' := sg) (cs' := []) HOX.out) Try.underlying42 rfl infoConst) rfl ⟨by rw [HON.out]; rfl, by rw [HON.out]; exact HRX.out.other5 hgb, grown_set5 HGX.out (Nat.le_refl _)⟩
  by_cases t5x : t = 5
  · subst t5x
    have HN4 := Lib.hid (next_any W a n cap bs g p1 0 8 HS3.out hn hcap (by omega) (by decide) HR3.out)
    have HNB4 := Lib.hid (next_bound bs p1 0 8 (by decide))
    have HNP4 := Lib.hid (next_place bs p1 0 8)
    unfold NextRet at HN4
    have HON := Lib.hid (show R = (⟨5, 0, 0, signB (nextR bs p1 0 8).1 8, []⟩, (nextR bs p1 0 8).2.1, (nextR bs p1 0 8).2.2) by rw [HON0.out, if_neg (by decide), if_neg (by decide), if_neg (by decide), if_pos (by decide)])
    clear HON0
    generalize (nextR bs p1 0 8).1 = v at *
    generalize (nextR bs p1 0 8).2.1 = p2 at *
    generalize (nextR bs p1 0 8).2.2 = e2 at *
    obtain ⟨v0, v1⟩ := HNB4.out
    rw [show ((256 ^ 8 : Nat) : Int) = 18446744073709551616 from rfl] at v1
    go_wp2_with fail
    clear r0 r1 r2 s1 s2 k0 k1 k2 k3 k4 f0 f1 f2 f3 f4 b0 b1 b2 b3 b4 d0 d1 d2 d3 d4
    refine HN4.out.mono ?_
    rintro e w4 ⟨rfl, hr4, hg4⟩
    have HR4 := Lib.hid hr4
    have HG4 := Lib.hid (grown_trans HG3.out hg4)
    have HC4 := Lib.hid (HC3.out.grown hg4 hkg)
    have HO4 := Lib.hid (HO3.out.grown hg4 (Ne.symm hgb))
    clear hr4 hg4
    have HSG := Lib.hid (Sign_any w4 v 8 ⟨v0, by omega⟩ (by unfold IntR; omega))
    generalize signB v 8 = sg at *
    go_wp2_with fail
    refine HSG.out.mono ?_
    rintro e w' ⟨rfl, rfl⟩
    obtain ⟨⟨r0, r1, r2⟩, ⟨s1, s2⟩, hgl4⟩ := HR4.out.box
    obtain ⟨⟨k0, k1, k2, k3, k4⟩, ⟨f0, f1, f2, f3, f4⟩, hkl4⟩ := HC4.out.box
    obtain ⟨⟨b0, b1, b2, b3, b4⟩, ⟨d0, d1, d2, d3, d4⟩, hbl4⟩ := HO4.out.box
    have HOX := Lib.hid (show KBlk (w4.setCell ⟨k, 3, none⟩ (.int .i64 sg)) w.heap.size 0 0 0 0 [] from HO4.out.other (Ne.symm hkb))
    have HRX := Lib.hid (show RdBlk (w4.setCell ⟨k, 3, none⟩ (.int .i64 sg)) g a n cap _ _ from HR4.out.other (Ne.symm hkg))
    have HGX := Lib.hid (show w.grownBy (w4.setCell ⟨k, 3, none⟩ (.int .i64 sg)) (some g) from (grown_new HG4.out hwk))
    go_wp2_with fail
    exact bodyPost_ret (results_cell_row rfl _ _ w.heap.size _ _ _ _ rfl (KBlk.set (ct' := 5) (ca' := 0) (cb' := 0) (cn' := sg) (cs' := []) HOX.out) Try.underlying42 rfl infoConst) rfl ⟨by rw [HON.out]; rfl, by rw [HON.out]; exact HRX.out.other5 hgb, grown_set5 HGX.out (Nat.le_refl _)⟩
  by_cases t7x : t = 7
  · subst t7x
    have HN4 := Lib.hid (next_any W a n cap bs g p1 0 2 HS3.out hn hcap (by omega) (by decide) HR3.out)
    have HNB4 := Lib.hid (next_bound bs p1 0 2 (by decide))
    have HNP4 := Lib.hid (next_place bs p1 0 2)
    unfold NextRet at HN4
    have HON := Lib.hid (show R = (⟨7, (nextR bs p1 0 2).1, 0, 0, []⟩, (nextR bs p1 0 2).2.1, (nextR bs p1 0 2).2.2) by rw [HON0.out, if_neg (by decide), if_neg (by decide), if_neg (by decide), if_neg (by decide), if_pos (by decide)])
    clear HON0
    generalize (nextR bs p1 0 2).1 = v at *
    generalize (nextR bs p1 0 2).2.1 = p2 at *
    generalize (nextR bs p1 0 2).2.2 = e2 at *
    obtain ⟨v0, v1⟩ := HNB4.out
    rw [show ((256 ^ 2 : Nat) : Int) = 65536 from rfl] at v1
    go_wp2_with fail
    clear r0 r1 r2 s1 s2 k0 k1 k2 k3 k4 f0 f1 f2 f3 f4 b0 b1 b2 b3 b4 d0 d1 d2 d3 d4
    refine HN4.out.mono ?_
    rintro e w4 ⟨rfl, hr4, hg4⟩
    have HR4 := Lib.hid hr4
    have HG4 := Lib.hid (grown_trans HG3.out hg4)
    have HC4 := Lib.hid (HC3.out.grown hg4 hkg)
    have HO4 := Lib.hid (HO3.out.grown hg4 (Ne.symm hgb))
    clear hr4 hg4
    obtain ⟨⟨r0, r1, r2⟩, ⟨s1, s2⟩, hgl4⟩ := HR4.out.box
    obtain ⟨⟨k0, k1, k2, k3, k4⟩, ⟨f0, f1, f2, f3, f4⟩, hkl4⟩ := HC4.out.box
    obtain ⟨⟨b0, b1, b2, b3, b4⟩, ⟨d0, d1, d2, d3, d4⟩, hbl4⟩ := HO4.out.box
    have HOX := Lib.hid (show KBlk (w4.setCell ⟨k, 1, none⟩ (.int .i64 v)) w.heap.size 0 0 0 0 [] from HO4.out.other (Ne.symm hkb))
    have HRX := Lib.hid (show RdBlk (w4.setCell ⟨k, 1, none⟩ (.int .i64 v)) g a n cap _ _ from HR4.out.other (Ne.symm hkg))
    have HGX := Lib.hid (show w.grownBy (w4.setCell ⟨k, 1, none⟩ (.int .i64 v)) (some g) from (grown_new HG4.out hwk))
    go_wp2_with fail
    exact bodyPost_ret (results_cell_row rfl _ _ w.heap.size _ _ _ _ rfl (KBlk.set (ct' := 7) (ca' := v) (cb' := 0) (cn' := 0) (cs' := []) HOX.out) Try.underlying42 rfl infoConst) rfl ⟨by rw [HON.out]; rfl, by rw [HON.out]; exact HRX.out.other5 hgb, grown_set5 HGX.out (Nat.le_refl _)⟩
  by_cases t8x : t = 8
  · subst t8x
    have HN4 := Lib.hid (next_any W a n cap bs g p1 0 2 HS3.out hn hcap (by omega) (by decide) HR3.out)
    have HNB4 := Lib.hid (next_bound bs p1 0 2 (by decide))
    have HNP4 := Lib.hid (next_place bs p1 0 2)
    unfold NextRet at HN4
    have HON := Lib.hid (show R = (⟨8, (nextR bs p1 0 2).1, 0, 0, []⟩, (nextR bs p1 0 2).2.1, (nextR bs p1 0 2).2.2) by rw [HON0.out, if_neg (by decide), if_neg (by decide), if_neg (by decide), if_neg (by decide), if_pos (by decide)])
    clear HON0
    generalize (nextR bs p1 0 2).1 = v at *
    generalize (nextR bs p1 0 2).2.1 = p2 at *
    generalize (nextR bs p1 0 2).2.2 = e2 at *
    obtain ⟨v0, v1⟩ := HNB4.out
    rw [show ((256 ^ 2 : Nat) : Int) = 65536 from rfl] at v1
    go_wp2_with fail
    clear r0 r1 r2 s1 s2 k0 k1 k2 k3 k4 f0 f1 f2 f3 f4 b0 b1 b2 b3 b4 d0 d1 d2 d3 d4
    refine HN4.out.mono ?_
    rintro e w4 ⟨rfl, hr4, hg4⟩
    have HR4 := Lib.hid hr4
    have HG4 := Lib.hid (grown_trans HG3.out hg4)
    have HC4 := Lib.hid (HC3.out.grown hg4 hkg)
    have HO4 := Lib.hid (HO3.out.grown hg4 (Ne.symm hgb))
    clear hr4 hg4
    obtain ⟨⟨r0, r1, r2⟩, ⟨s1, s2⟩, hgl4⟩ := HR4.out.box
    obtain ⟨⟨k0, k1, k2, k3, k4⟩, ⟨f0, f1, f2, f3, f4⟩, hkl4⟩ := HC4.out.box
    obtain ⟨⟨b0, b1, b2, b3, b4⟩, ⟨d0, d1, d2, d3, d4⟩, hbl4⟩ := HO4.out.box
    have HOX := Lib.hid (show KBlk (w4.setCell ⟨k, 1, none⟩ (.int .i64 v)) w.heap.size 0 0 0 0 [] from HO4.out.other (Ne.symm hkb))
    have HRX := Lib.hid (show RdBlk (w4.setCell ⟨k, 1, none⟩ (.int .i64 v)) g a n cap _ _ from HR4.out.other (Ne.symm hkg))
    have HGX := Lib.hid (show w.grownBy (w4.setCell ⟨k, 1, none⟩ (.int .i64 v)) (some g) from (grown_new HG4.out hwk))
    go_wp2_with fail
    exact bodyPost_ret (results_cell_row rfl _ _ w.heap.size _ _ _ _ rfl (KBlk.set (ct' := 8) (ca' := v) (cb' := 0) (cn' := 0) (cs' := []) HOX.out) Try.underlying42 rfl infoConst) rfl ⟨by rw [HON.out]; rfl, by rw [HON.out]; exact HRX.out.other5 hgb, grown_set5 HGX.out (Nat.le_refl _)⟩
  by_cases t9x : t = 9
  · subst t9x
    have HN4 := Lib.hid (next_any W a n cap bs g p1 0 4 HS3.out hn hcap (by omega) (by decide) HR3.out)
    have HNB4 := Lib.hid (next_bound bs p1 0 4 (by decide))
    have HNP4 := Lib.hid (next_place bs p1 0 4)
    unfold NextRet at HN4
    have HON := Lib.hid (show R = (⟨9, (nextR bs p1 0 4).1 / 65536, (nextR bs p1 0 4).1 % 65536, 0, []⟩, (nextR bs p1 0 4).2.1, (nextR bs p1 0 4).2.2) by rw [HON0.out, if_neg (by decide), if_neg (by decide), if_neg (by decide), if_neg (by decide), if_neg (by decide), if_pos (by decide)])
    clear HON0
    generalize (nextR bs p1 0 4).1 = v at *
    generalize (nextR bs p1 0 4).2.1 = p2 at *
    generalize (nextR bs p1 0 4).2.2 = e2 at *
    obtain ⟨v0, v1⟩ := HNB4.out
    rw [show ((256 ^ 4 : Nat) : Int) = 4294967296 from rfl] at v1
    obtain ⟨q, rfl⟩ : ∃ q : Nat, v = q := ⟨v.toNat, by omega⟩
    obtain ⟨x1, hx1⟩ : ∃ x : Nat, x = q / 65536 := ⟨_, rfl⟩
    obtain ⟨x2, hx2⟩ : ∃ x : Nat, x = q % 65536 := ⟨_, rfl⟩
    have y1 : (q : Int) / 65536 = (x1 : Int) := by omega
    have y2 : (q : Int) % 65536 = (x2 : Int) := by omega
    have b1' : x1 < 65536 := by omega
    have b2' : x2 < 65536 := by omega
    rw [y1, y2] at HON
    have hand : bits .and .u64 (q : Int) 65535 = (x2 : Int) := by
      rw [show (65535 : Int) = ((65535 : Nat) : Int) from rfl, u64_and_nat q 65535 (by omega) (by decide), hx2]
      congr 1
      exact Nat.and_two_pow_sub_one_eq_mod q 16
    clear hx1 hx2 y2
    have HY1 := Lib.hid y1
    have HAND := Lib.hid hand
    clear y1 hand
    go_wp2_with fail
    clear r0 r1 r2 s1 s2 k0 k1 k2 k3 k4 f0 f1 f2 f3 f4 b0 b1 b2 b3 b4 d0 d1 d2 d3 d4
    refine HN4.out.mono ?_
    rintro e w4 ⟨rfl, hr4, hg4⟩
    have HR4 := Lib.hid hr4
    have HG4 := Lib.hid (grown_trans HG3.out hg4)
    have HC4 := Lib.hid (HC3.out.grown hg4 hkg)
    have HO4 := Lib.hid (HO3.out.grown hg4 (Ne.symm hgb))
    clear hr4 hg4
    obtain ⟨⟨r0, r1, r2⟩, ⟨s1, s2⟩, hgl4⟩ := HR4.out.box
    obtain ⟨⟨k0, k1, k2, k3, k4⟩, ⟨f0, f1, f2, f3, f4⟩, hkl4⟩ := HC4.out.box
    obtain ⟨⟨b0, b1, b2, b3, b4⟩, ⟨d0, d1, d2, d3, d4⟩, hbl4⟩ := HO4.out.box
    have HOX := Lib.hid (show KBlk ((w4.setCell ⟨k, 1, none⟩ (.int .i64 (x1 : Nat))).setCell ⟨k, 2, none⟩ (.int .i64 (x2 : Nat))) w.heap.size 0 0 0 0 [] from (HO4.out.other (Ne.symm hkb)).other (Ne.symm hkb))
    have HRX := Lib.hid (show RdBlk ((w4.setCell ⟨k, 1, none⟩ (.int .i64 (x1 : Nat))).setCell ⟨k, 2, none⟩ (.int .i64 (x2 : Nat))) g a n cap _ _ from (HR4.out.other (Ne.symm hkg)).other (Ne.symm hkg))
    have HGX := Lib.hid (show w.grownBy ((w4.setCell ⟨k, 1, none⟩ (.int .i64 (x1 : Nat))).setCell ⟨k, 2, none⟩ (.int .i64 (x2 : Nat))) (some g) from (grown_new (grown_new HG4.out hwk) hwk))
    have y1 := HY1.out
    have hand := HAND.out
    go_upto_region 20 with fail
    have HCX := Lib.hid (show KBlk ((w4.setCell ⟨k, 1, none⟩ (.int .i64 (x1 : Nat))).setCell ⟨k, 2, none⟩ (.int .i64 (x2 : Nat))) k 9 (x1 : Nat) (x2 : Nat) 0 [] from heap_setK (heap_setK HC4.out 1 _) 2 _)
    clear y1 hand r0 r1 r2 s1 s2 k0 k1 k2 k3 k4 f0 f1 f2 f3 f4 b0 b1 b2 b3 b4 d0 d1 d2 d3 d4 hgl4 hkl4 hbl4
    generalize (w4.setCell ⟨k, 1, none⟩ (.int .i64 (x1 : Nat))).setCell ⟨k, 2, none⟩ (.int .i64 (x2 : Nat)) = X at *
    obtain ⟨⟨k0, k1, k2, k3, k4⟩, ⟨f0, f1, f2, f3, f4⟩, hkl4⟩ := HCX.out.box
    obtain ⟨⟨b0, b1, b2, b3, b4⟩, ⟨d0, d1, d2, d3, d4⟩, hbl4⟩ := HOX.out.box
    go_wp2_with fail
    exact bodyPost_ret (results_cell_row rfl _ _ w.heap.size _ _ _ _ rfl (KBlk.set (ct' := 9) (ca' := (x1 : Nat)) (cb' := (x2 : Nat)) (cn' := 0) (cs' := []) HOX.out) Try.underlying42 rfl infoConst) rfl ⟨by rw [HON.out]; rfl, by rw [HON.out]; exact HRX.out.other5 hgb, grown_set5 HGX.out (Nat.le_refl _)⟩
  by_cases t10x : t = 10
  · subst t10x
    have HN4 := Lib.hid (next_any W a n cap bs g p1 0 4 HS3.out hn hcap (by omega) (by decide) HR3.out)
    have HNB4 := Lib.hid (next_bound bs p1 0 4 (by decide))
    have HNP4 := Lib.hid (next_place bs p1 0 4)
    unfold NextRet at HN4
    have HON := Lib.hid (show R = (⟨10, (nextR bs p1 0 4).1 / 65536, (nextR bs p1 0 4).1 % 65536, 0, []⟩, (nextR bs p1 0 4).2.1, (nextR bs p1 0 4).2.2) by rw [HON0.out, if_neg (by decide), if_neg (by decide), if_neg (by decide), if_neg (by decide), if_neg (by decide), if_pos (by decide)])
    clear HON0
    generalize (nextR bs p1 0 4).1 = v at *
    generalize (nextR bs p1 0 4).2.1 = p2 at *
    generalize (nextR bs p1 0 4).2.2 = e2 at *
    obtain ⟨v0, v1⟩ := HNB4.out
    rw [show ((256 ^ 4 : Nat) : Int) = 4294967296 from rfl] at v1
    obtain ⟨q, rfl⟩ : ∃ q : Nat, v = q := ⟨v.toNat, by omega⟩
    obtain ⟨x1, hx1⟩ : ∃ x : Nat, x = q / 65536 := ⟨_, rfl⟩
    obtain ⟨x2, hx2⟩ : ∃ x : Nat, x = q % 65536 := ⟨_, rfl⟩
    have y1 : (q : Int) / 65536 = (x1 : Int) := by omega
    have y2 : (q : Int) % 65536 = (x2 : Int) := by omega
    have b1' : x1 < 65536 := by omega
    have b2' : x2 < 65536 := by omega
    rw [y1, y2] at HON
    have hand : bits .and .u64 (q : Int) 65535 = (x2 : Int) := by
      rw [show (65535 : Int) = ((65535 : Nat) : Int) from rfl, u64_and_nat q 65535 (by omega) (by decide), hx2]
      congr 1
      exact Nat.and_two_pow_sub_one_eq_mod q 16
    clear hx1 hx2 y2
    have HY1 := Lib.hid y1
    have HAND := Lib.hid hand
    clear y1 hand
    go_wp2_with fail
    clear r0 r1 r2 s1 s2 k0 k1 k2 k3 k4 f0 f1 f2 f3 f4 b0 b1 b2 b3 b4 d0 d1 d2 d3 d4
    refine HN4.out.mono ?_
    rintro e w4 ⟨rfl, hr4, hg4⟩
    have HR4 := Lib.hid hr4
    have HG4 := Lib.hid (grown_trans HG3.out hg4)
    have HC4 := Lib.hid (HC3.out.grown hg4 hkg)
    have HO4 := Lib.hid (HO3.out.grown hg4 (Ne.symm hgb))
    clear hr4 hg4
    obtain ⟨⟨r0, r1, r2⟩, ⟨s1, s2⟩, hgl4⟩ := HR4.out.box
    obtain ⟨⟨k0, k1, k2, k3, k4⟩, ⟨f0, f1, f2, f3, f4⟩, hkl4⟩ := HC4.out.box
    obtain ⟨⟨b0, b1, b2, b3, b4⟩, ⟨d0, d1, d2, d3, d4⟩, hbl4⟩ := HO4.out.box
    have HOX := Lib.hid (show KBlk ((w4.setCell ⟨k, 1, none⟩ (.int .i64 (x1 : Nat))).setCell ⟨k, 2, none⟩ (.int .i64 (x2 : Nat))) w.heap.size 0 0 0 0 [] from (HO4.out.other (Ne.symm hkb)).other (Ne.symm hkb))
    have HRX := Lib.hid (show RdBlk ((w4.setCell ⟨k, 1, none⟩ (.int .i64 (x1 : Nat))).setCell ⟨k, 2, none⟩ (.int .i64 (x2 : Nat))) g a n cap _ _ from (HR4.out.other (Ne.symm hkg)).other (Ne.symm hkg))
    have HGX := Lib.hid (show w.grownBy ((w4.setCell ⟨k, 1, none⟩ (.int .i64 (x1 : Nat))).setCell ⟨k, 2, none⟩ (.int .i64 (x2 : Nat))) (some g) from (grown_new (grown_new HG4.out hwk) hwk))
    have y1 := HY1.out
    have hand := HAND.out
    go_upto_region 20 with fail
    have HCX := Lib.hid (show KBlk ((w4.setCell ⟨k, 1, none⟩ (.int .i64 (x1 : Nat))).setCell ⟨k, 2, none⟩ (.int .i64 (x2 : Nat))) k 10 (x1 : Nat) (x2 : Nat) 0 [] from heap_setK (heap_setK HC4.out 1 _) 2 _)
    clear y1 hand r0 r1 r2 s1 s2 k0 k1 k2 k3 k4 f0 f1 f2 f3 f4 b0 b1 b2 b3 b4 d0 d1 d2 d3 d4 hgl4 hkl4 hbl4
    generalize (w4.setCell ⟨k, 1, none⟩ (.int .i64 (x1 : Nat))).setCell ⟨k, 2, none⟩ (.int .i64 (x2 : Nat)) = X at *
    obtain ⟨⟨k0, k1, k2, k3, k4⟩, ⟨f0, f1, f2, f3, f4⟩, hkl4⟩ := HCX.out.box
    obtain ⟨⟨b0, b1, b2, b3, b4⟩, ⟨d0, d1, d2, d3, d4⟩, hbl4⟩ := HOX.out.box
    go_wp2_with fail
    exact bodyPost_ret (results_cell_row rfl _ _ w.heap.size _ _ _ _ rfl (KBlk.set (ct' := 10) (ca' := (x1 : Nat)) (cb' := (x2 : Nat)) (cn' := 0) (cs' := []) HOX.out) Try.underlying42 rfl infoConst) rfl ⟨by rw [HON.out]; rfl, by rw [HON.out]; exact HRX.out.other5 hgb, grown_set5 HGX.out (Nat.le_refl _)⟩
  by_cases t12x : t = 12
  · subst t12x
    have HN4 := Lib.hid (next_any W a n cap bs g p1 0 4 HS3.out hn hcap (by omega) (by decide) HR3.out)
    have HNB4 := Lib.hid (next_bound bs p1 0 4 (by decide))
    have HNP4 := Lib.hid (next_place bs p1 0 4)
    unfold NextRet at HN4
    have HON := Lib.hid (show R = (⟨12, (nextR bs p1 0 4).1 / 65536, (nextR bs p1 0 4).1 % 65536, 0, []⟩, (nextR bs p1 0 4).2.1, (nextR bs p1 0 4).2.2) by rw [HON0.out, if_neg (by decide), if_neg (by decide), if_neg (by decide), if_neg (by decide), if_neg (by decide), if_pos (by decide)])
    clear HON0
    generalize (nextR bs p1 0 4).1 = v at *
    generalize (nextR bs p1 0 4).2.1 = p2 at *
    generalize (nextR bs p1 0 4).2.2 = e2 at *
    obtain ⟨v0, v1⟩ := HNB4.out
    rw [show ((256 ^ 4 : Nat) : Int) = 4294967296 from rfl] at v1
    obtain ⟨q, rfl⟩ : ∃ q : Nat, v = q := ⟨v.toNat, by omega⟩
    obtain ⟨x1, hx1⟩ : ∃ x : Nat, x = q / 65536 := ⟨_, rfl⟩
    obtain ⟨x2, hx2⟩ : ∃ x : Nat, x = q % 65536 := ⟨_, rfl⟩
    have y1 : (q : Int) / 65536 = (x1 : Int) := by omega
    have y2 : (q : Int) % 65536 = (x2 : Int) := by omega
    have b1' : x1 < 65536 := by omega
    have b2' : x2 < 65536 := by omega
    rw [y1, y2] at HON
    have hand : bits .and .u64 (q : Int) 65535 = (x2 : Int) := by
      rw [show (65535 : Int) = ((65535 : Nat) : Int) from rfl, u64_and_nat q 65535 (by omega) (by decide), hx2]
      congr 1
      exact Nat.and_two_pow_sub_one_eq_mod q 16
    clear hx1 hx2 y2
    have HY1 := Lib.hid y1
    have HAND := Lib.hid hand
    clear y1 hand
    go_wp2_with fail
    clear r0 r1 r2 s1 s2 k0 k1 k2 k3 k4 f0 f1 f2 f3 f4 b0 b1 b2 b3 b4 d0 d1 d2 d3 d4
    refine HN4.out.mono ?_
    rintro e w4 ⟨rfl, hr4, hg4⟩
    have HR4 := Lib.hid hr4
    have HG4 := Lib.hid (grown_trans HG3.out hg4)
    have HC4 := Lib.hid (HC3.out.grown hg4 hkg)
    have HO4 := Lib.hid (HO3.out.grown hg4 (Ne.symm hgb))
    clear hr4 hg4
    obtain ⟨⟨r0, r1, r2⟩, ⟨s1, s2⟩, hgl4⟩ := HR4.out.box
    obtain ⟨⟨k0, k1, k2, k3, k4⟩, ⟨f0, f1, f2, f3, f4⟩, hkl4⟩ := HC4.out.box
    obtain ⟨⟨b0, b1, b2, b3, b4⟩, ⟨d0, d1, d2, d3, d4⟩, hbl4⟩ := HO4.out.box
    have HOX := Lib.hid (show KBlk ((w4.setCell ⟨k, 1, none⟩ (.int .i64 (x1 : Nat))).setCell ⟨k, 2, none⟩ (.int .i64 (x2 : Nat))) w.heap.size 0 0 0 0 [] from (HO4.out.other (Ne.symm hkb)).other (Ne.symm hkb))
    have HRX := Lib.hid (show RdBlk ((w4.setCell ⟨k, 1, none⟩ (.int .i64 (x1 : Nat))).setCell ⟨k, 2, none⟩ (.int .i64 (x2 : Nat))) g a n cap _ _ from (HR4.out.other (Ne.symm hkg)).other (Ne.symm hkg))
    have HGX := Lib.hid (show w.grownBy ((w4.setCell ⟨k, 1, none⟩ (.int .i64 (x1 : Nat))).setCell ⟨k, 2, none⟩ (.int .i64 (x2 : Nat))) (some g) from (grown_new (grown_new HG4.out hwk) hwk))
    have y1 := HY1.out
    have hand := HAND.out
    go_upto_region 20 with fail
    have HCX := Lib.hid (show KBlk ((w4.setCell ⟨k, 1, none⟩ (.int .i64 (x1 : Nat))).setCell ⟨k, 2, none⟩ (.int .i64 (x2 : Nat))) k 12 (x1 : Nat) (x2 : Nat) 0 [] from heap_setK (heap_setK HC4.out 1 _) 2 _)
    clear y1 hand r0 r1 r2 s1 s2 k0 k1 k2 k3 k4 f0 f1 f2 f3 f4 b0 b1 b2 b3 b4 d0 d1 d2 d3 d4 hgl4 hkl4 hbl4
    generalize (w4.setCell ⟨k, 1, none⟩ (.int .i64 (x1 : Nat))).setCell ⟨k, 2, none⟩ (.int .i64 (x2 : Nat)) = X at *
    obtain ⟨⟨k0, k1, k2, k3, k4⟩, ⟨f0, f1, f2, f3, f4⟩, hkl4⟩ := HCX.out.box
    obtain ⟨⟨b0, b1, b2, b3, b4⟩, ⟨d0, d1, d2, d3, d4⟩, hbl4⟩ := HOX.out.box
    go_wp2_with fail
    exact bodyPost_ret (results_cell_row rfl _ _ w.heap.size _ _ _ _ rfl (KBlk.set (ct' := 12) (ca' := (x1 : Nat)) (cb' := (x2 : Nat)) (cn' := 0) (cs' := []) HOX.out) Try.underlying42 rfl infoConst) rfl ⟨by rw [HON.out]; rfl, by rw [HON.out]; exact HRX.out.other5 hgb, grown_set5 HGX.out (Nat.le_refl _)⟩
  have HON := Lib.hid (show R = (⟨t, 0, 0, 0, []⟩, p1, 8) by rw [HON0.out, if_neg (by decide), if_neg t1x, if_neg t3x, if_neg t5x, if_neg (by omega), if_neg (by omega)])
  have e1x : (t == 1) = false := by simp [t1x]
  have e3x : (t == 3) = false := by simp [t3x]
  have e5x : (t == 5) = false := by simp [t5x]
  have e7x : (t == 7) = false := by simp [t7x]
  have e8x : (t == 8) = false := by simp [t8x]
  have e9x : (t == 9) = false := by simp [t9x]
  have e10x : (t == 10) = false := by simp [t10x]
  have e12x : (t == 12) = false := by simp [t12x]
  have HOX := Lib.hid (show KBlk (W.setCell ⟨g, 2, none⟩ (.int .i64 8)) w.heap.size 0 0 0 0 [] from HO3.out.other (Ne.symm hgb))
  have HRX := Lib.hid (show RdBlk (W.setCell ⟨g, 2, none⟩ (.int .i64 8)) g a n cap p1 8 from HR3.out.set2)
  have HGX := Lib.hid (show w.grownBy (W.setCell ⟨g, 2, none⟩ (.int .i64 8)) (some g) from grown_setK HG3.out)
  clear HON0 t1x t3x t5x t7x t8x t9x t10x t12x
  go_wp2_with fail
  exact bodyPost_ret (results_cell_row rfl _ _ w.heap.size _ _ _ _ rfl (KBlk.set (ct' := t) (ca' := 0) (cb' := 0) (cn' := 0) (cs' := []) HOX.out) Try.underlying42 rfl infoConst) rfl ⟨by rw [HON.out]; rfl, by rw [HON.out]; exact HRX.out.other5 hgb, grown_set5 HGX.out (Nat.le_refl _)⟩
end Go.Proofs.Ytnfhiakdbakpgaa
