/- rec: Parse where there is a record. No condition. -/
import Derived.Test.YtechkdnoekffmaaQ06ScanTorn
import Derived.Test.YtechkdnoekffmaaQ03ScanTorn
namespace Go.Proofs.Ytechkdnoekffmaa
open Go.ChangeShapes Go.WideShapes Go.ChangeAt Go.RowKit
theorem own_heap {w w' : World} {B n : Nat} {e : TypeId} {v : Value} {xs : List Value} (h : w.ownsRow B e 1 v n xs) (hh : ∀ k, B ≤ k → k < w.heap.size → w'.heap[k]? = w.heap[k]?) : w'.ownsRow B e 1 v n xs := by
  obtain ⟨h1, h2⟩ := h
  refine ⟨h1, ?_⟩
  rcases h2 with h2 | ⟨g, cap, cur, hv, hb, hg, r⟩
  · exact .inl h2
  · exact .inr ⟨g, cap, cur, hv, hb, by rw [hh g hb (Array.getElem?_eq_some_iff.1 hg).1]; exact hg, r⟩
theorem own_keep5 {w : World} {B n : Nat} {e : TypeId} {v : Value} {xs : List Value} (h : w.ownsRow B e 1 v n xs) {g : Nat} (hg : g < B) (a b c d f : Value) :
    (((((w.setCell ⟨g, 0, none⟩ a).setCell ⟨g, 1, none⟩ b).setCell ⟨g, 2, none⟩ c).setCell ⟨g, 3, none⟩ d).setCell ⟨g, 4, none⟩ f).ownsRow B e 1 v n xs :=
  ownsRow_setCell_below (ownsRow_setCell_below (ownsRow_setCell_below (ownsRow_setCell_below (ownsRow_setCell_below h hg a) hg b) hg c) hg d) hg f
theorem Blk5.other5 {w : World} {g h : Nat} {x y z u v0 : Value} {t : TypeId} (k : Blk5 w g x y z u v0 t) (hne : g ≠ h) (a b c d f : Value) :
    Blk5 (((((w.setCell ⟨h, 0, none⟩ a).setCell ⟨h, 1, none⟩ b).setCell ⟨h, 2, none⟩ c).setCell ⟨h, 3, none⟩ d).setCell ⟨h, 4, none⟩ f) g x y z u v0 t :=
  ((((k.other hne).other hne).other hne).other hne).other hne
/-- What Parse returns of a record. -/
def ParseOk (kd tx ct : Nat) (kb bb : List UInt8) (sz : Int) (last : Bool) (w : World) (e : Ending) (w' : World) : Prop :=
  ∃ a m c, e = .returned (.tuple #[recL kd tx kb a m c ct, .int .i64 sz, .bool last, .int .i64 0]) ∧ w'.ownsRow w.heap.size 5 1 (.slice a m c) m (bb.map encB) ∧ Below w.heap.size w w'
set_option maxRecDepth 100000 in
set_option maxHeartbeats 8000000 in
theorem Parse_good (w : World) (a : Option Addr) (n cap : Nat) (bs : List UInt8) (hs : Sl encB w a n bs) (hn : n ≤ 65536) (hcap : n ≤ cap) (h1 : bs.getD 0 0 ≠ 255) (h : 11 ≤ n) (h9 : crcN (bs.take 9) / 256 = (bs.getD 9 0).toNat) (h10 : crcN (bs.take 9) % 256 = (bs.getD 10 0).toNat) (hr : recOk (getN ((bs.drop 0).take 1)) (getN ((bs.drop 1).take 4)) (getN ((bs.drop 5).take 1)) (getN ((bs.drop 6).take 2)) (getN ((bs.drop 8).take 1)) = true) (hsz : 11 + getN ((bs.drop 5).take 1) + getN ((bs.drop 6).take 2) + 5 ≤ n) (hsum : sumN (bs.take (11 + getN ((bs.drop 5).take 1) + getN ((bs.drop 6).take 2))) = getN ((bs.drop (11 + getN ((bs.drop 5).take 1) + getN ((bs.drop 6).take 2))).take 4)) :
    Calls Try.prog 15 #[.slice a n cap] w (ParseOk (getN ((bs.drop 0).take 1)) (getN ((bs.drop 1).take 4)) (getN ((bs.drop 8).take 1)) ((bs.drop 11).take (getN ((bs.drop 5).take 1))) ((bs.drop (11 + getN ((bs.drop 5).take 1))).take (getN ((bs.drop 6).take 2))) (11 + (getN ((bs.drop 5).take 1) : Int) + (getN ((bs.drop 6).take 2) : Int) + 5) (((getN ((bs.drop (11 + getN ((bs.drop 5).take 1) + getN ((bs.drop 6).take 2) + 4)).take 1) : Nat) : Int) == 0) w) := by
  have HR := Lib.hid hr
  clear hr
  have K0 := Lib.hid (show Blk5 (w.alloc (.cells #[.int .i64 0, .int .u32 0, .string ⟨#[]⟩, .slice none 0 0, .int .i64 0] 28)) w.heap.size (.int .i64 0) (.int .u32 0) (.string ⟨#[]⟩) (.slice none 0 0) (.int .i64 0) 28 from heap_alloc_last w _)
  have HB := Lib.hid ((Below.refl w.heap.size w).alloc (Nat.le_refl _) (.cells #[.int .i64 0, .int .u32 0, .string ⟨#[]⟩, .slice none 0 0, .int .i64 0] 28))
  obtain ⟨b, off, rfl, hlt, c0, e255, hcell⟩ := first_cell hs (by omega) h1
  have c9 := hcell 9 (by omega)
  have c10 := hcell 10 (by omega)
  have HE := Lib.hid hs
  have HS9 := Lib.hid (hs.take (j := 9) (by omega))
  have hcr := crcN_lt (bs.take 9)
  have hM := fun w' (hb : Below w.heap.size w w') => Sum16_n w' (some ⟨b, off, none⟩) 9 cap (bs.take 9) (HS9.out.below hb) (by omega)
  have HXX := Lib.hid (And.intro h9 h10)
  generalize ((bs.getD 0 0).toNat : Int) = x0 at c0 e255
  have hx9 := u8_lt (bs.getD 9 0)
  have hx10 := u8_lt (bs.getD 10 0)
  generalize (bs.getD 9 0).toNat = x9 at c9 hx9 h9 HXX
  generalize (bs.getD 10 0).toNat = x10 at c10 hx10 h10 HXX
  generalize crcN (bs.take 9) = cr at hcr hM h9 h10 HXX
  have HM := Lib.hid hM
  have HC9 := Lib.hid c9
  have HC10 := Lib.hid c10
  have g1 : (0 : Int) < (n : Int) := by omega
  have g2 : (9 : Int) ≤ (cap : Int) := by omega
  have g3 : (9 : Int) < (n : Int) := by omega
  have g4 : (10 : Int) < (n : Int) := by omega
  have e0 : ((n : Int) == 0) = false := eqi_no (by omega)
  clear h1 hs hcell hM c9 c10
  go_enter Try.func15, Try.ntmps15
  go_wp2_with fail
  have ld9 : ∀ w', Below (w.heap.size + 1) (w.alloc (.cells #[.int .i64 0, .int .u32 0, .string ⟨#[]⟩, .slice none 0 0, .int .i64 0] 28)) w' → w'.cell? ⟨b, off + 9, none⟩ = some (.int .u8 (x9 : Int)) := fun w' h => by
    rw [(HB.out.trans (h.mono (by simp))).cell (by simpa using hlt)]; exact HC9.out
  have hSw : Below (w.heap.size + 1) (w.alloc (.cells #[.int .i64 0, .int .u32 0, .string ⟨#[]⟩, .slice none 0 0, .int .i64 0] 28)) (w.alloc (.cells #[.int .i64 0, .int .u32 0, .string ⟨#[]⟩, .slice none 0 0, .int .i64 0] 28)).drew := (Below.refl _ _).drew
  refine wp_region_lex2 (Below (w.heap.size + 1) (w.alloc (.cells #[.int .i64 0, .int .u32 0, .string ⟨#[]⟩, .slice none 0 0, .int .i64 0] 28))) [(0, true), (1, true), (7, true), (8, true), (9, true), (2, false), (3, true), (4, false), (5, true), (6, true), (10, true), (11, true)] (by kernel_rfl) (by kernel_rfl) (fun c a d v w h => by cases d <;> exact h) ?_
  iterate 5
    refine lex2_step (fun K hK => ?_)
    simp only [lexOp, List.getElem?_toArray, List.getElem?_cons_succ, List.getElem?_cons_zero]
    rw [if_pos (by rfl)]
    apply Exists.intro
    refine ⟨fun w' hS' => ?_, hSw, ?_⟩
    · first | (go_simp <;> with_reducible rfl) | (go_simp; go_bits; with_reducible rfl)
    go_simp
    try go_bits
    refine hK _ _ ?_
    clear hK K
  refine lex2_step (fun K hK => ?_)
  simp only [lexOp, List.getElem?_toArray, List.getElem?_cons_succ, List.getElem?_cons_zero]
  rw [if_pos (by rfl)]
  go_step
  refine (HM.out _ (HB.out.trans (hSw.mono (by omega)))).mono ?_
  rintro e w5 ⟨rfl, hb5⟩
  replace hSw : Below (w.heap.size + 1) (w.alloc (.cells #[.int .i64 0, .int .u32 0, .string ⟨#[]⟩, .slice none 0 0, .int .i64 0] 28)) w5 := hSw.trans (hb5.mono (by simp))
  have sz5 : w.heap.size + 1 ≤ w5.heap.size := by have := hSw.size; simpa using this
  clear hb5
  go_simp
  refine hK _ _ ?_
  clear hK K
  iterate 1
    refine lex2_step (fun K hK => ?_)
    simp only [lexOp, List.getElem?_toArray, List.getElem?_cons_succ, List.getElem?_cons_zero]
    rw [if_pos (by rfl)]
    apply Exists.intro
    refine ⟨fun w' hS' => ?_, hSw, ?_⟩
    · first | (go_simp <;> with_reducible rfl) | (go_simp; go_bits; with_reducible rfl)
    go_simp
    try go_bits
    refine hK _ _ ?_
    clear hK K
  refine lex2_step (fun K hK => ?_)
  simp only [lexOp, List.getElem?_toArray, List.getElem?_cons_succ, List.getElem?_cons_zero]
  rw [if_pos (by rfl)]
  go_step
  refine (Put_any _ none 0 0 [] cr 2 (Sl.nil _ _) (by omega) (by omega) (by omega) (by omega) (by omega)).mono ?_
  rintro e w6 ⟨v6, m6, rfl, hown, hb6⟩
  rw [List.nil_append, putB_two] at hown
  obtain rfl : m6 = 2 := by have h := hown.1; simp at h; omega
  obtain ⟨a6, c6, rfl, _, hc6⟩ := Sl.ofOwn hown
  obtain ⟨g6, rfl, _, _⟩ := own_addr hown (by omega)
  have hcell := own_cell hown 0 (by simp)
  rw [show encB ([UInt8.ofNat (cr / 256 % 256), UInt8.ofNat (cr % 256)][0]'(by simp)) = .int .u8 (x9 : Int) by
    show encB (UInt8.ofNat (cr / 256 % 256)) = _
    rw [← encB_num (cr / 256 % 256) (by omega), Nat.mod_eq_of_lt (by omega), h9]] at hcell
  have HC6 := Lib.hid hcell
  replace hSw : Below (w.heap.size + 1) (w.alloc (.cells #[.int .i64 0, .int .u32 0, .string ⟨#[]⟩, .slice none 0 0, .int .i64 0] 28)) w6 := hSw.trans (hb6.mono sz5)
  have H6 := Lib.hid (HB.out.trans (hSw.mono (by omega)))
  have K6 := Lib.hid (K0.out.belowB hSw (by omega))
  clear hown hb6 hcell h9 h10
  go_simp
  refine hK _ _ ?_
  clear hK K
  refine lex2_strong (Below w6.heap.size w6) (fun x h => hSw.trans (h.mono (by have := hSw.size; simpa using this))) ?_
  have ld6 : ∀ w', Below w6.heap.size w6 w' → w'.cell? ⟨g6, 0, none⟩ = some (.int .u8 (x9 : Int)) := fun w' h => by
    rw [h.cell (by assumption)]; exact HC6.out
  clear hSw ld9
  have hSw : Below w6.heap.size w6 w6 := Below.refl _ _
  iterate 4
    refine lex2_step (fun K hK => ?_)
    simp only [lexOp, List.getElem?_toArray, List.getElem?_cons_succ, List.getElem?_cons_zero]
    rw [if_pos (by rfl)]
    apply Exists.intro
    refine ⟨fun w' hS' => ?_, hSw, ?_⟩
    · first | (go_simp <;> with_reducible rfl) | (go_simp; go_bits; with_reducible rfl)
    go_simp
    try go_bits
    refine hK _ _ ?_
    clear hK K
  refine lex2_nil ?_
  clear ld6 hSw HC6 HC9 K0 sz5
  obtain ⟨h9, h10⟩ := HXX.out
  go_wp2_with fail
  have ld10 : ∀ w', Below w6.heap.size w6 w' → w'.cell? ⟨b, off + 10, none⟩ = some (.int .u8 (x10 : Int)) := fun w' h => by
    rw [(H6.out.trans (h.mono H6.out.size)).cell (by simpa using hlt)]; exact HC10.out
  have hSw : Below w6.heap.size w6 w6.drew := (Below.refl _ _).drew
  have hmod : (cr : Int) % 256 = ((cr % 256 : Nat) : Int) := by omega
  refine wp_region_lex (Below w6.heap.size w6) [(0, true), (1, true), (4, true), (5, true), (6, true), (2, false), (3, true), (7, true), (8, true)] (by kernel_rfl) (by kernel_rfl) (fun c a d v w h => by cases d <;> exact h) ?_
  iterate 5
    refine lex_step (fun K hK => ?_)
    simp only [lexOp, List.getElem?_toArray, List.getElem?_cons_succ, List.getElem?_cons_zero]
    rw [if_pos (by rfl)]
    apply Exists.intro
    refine ⟨fun w' hS' => ?_, hSw, ?_⟩
    · first | (go_simp <;> with_reducible rfl) | (go_simp; go_bits; with_reducible rfl)
    go_simp
    try go_bits
    refine hK _ _ ?_
    clear hK K
  refine lex_step (fun K hK => ?_)
  simp only [lexOp, List.getElem?_toArray, List.getElem?_cons_succ, List.getElem?_cons_zero]
  rw [if_pos (by rfl)]
  go_step
  refine (HM.out _ (H6.out.trans (hSw.mono H6.out.size))).mono ?_
  rintro e w7 ⟨rfl, hb7⟩
  replace hSw : Below w6.heap.size w6 w7 := hSw.trans (hb7.mono hSw.size)
  have H7 := Lib.hid (H6.out.trans (hSw.mono H6.out.size))
  have K7 := Lib.hid (K6.out.below hSw)
  clear hb7
  go_simp
  refine hK _ _ ?_
  clear hK K
  have e10 : ((cr % 256 : Nat) : Int) = (x10 : Int) := by omega
  rw [e10] at hmod
  clear h9 h10 HXX e10
  iterate 3
    refine lex_step (fun K hK => ?_)
    simp only [lexOp, List.getElem?_toArray, List.getElem?_cons_succ, List.getElem?_cons_zero]
    rw [if_pos (by rfl)]
    apply Exists.intro
    refine ⟨fun w' hS' => ?_, hSw, ?_⟩
    · first | (go_simp <;> with_reducible rfl) | (go_simp; go_bits; with_reducible rfl)
    go_simp
    try go_bits
    refine hK _ _ ?_
    clear hK K
  refine lex_nil ?_
  clear ld10 hSw hmod HC10 H6 K6 HM
  obtain ⟨kd, hkd⟩ : ∃ v, v = getN ((bs.drop 0).take 1) := ⟨_, rfl⟩
  obtain ⟨tx, htx⟩ : ∃ v, v = getN ((bs.drop 1).take 4) := ⟨_, rfl⟩
  obtain ⟨ky, hky⟩ : ∃ v, v = getN ((bs.drop 5).take 1) := ⟨_, rfl⟩
  obtain ⟨bl, hbl⟩ : ∃ v, v = getN ((bs.drop 6).take 2) := ⟨_, rfl⟩
  obtain ⟨ct, hct⟩ : ∃ v, v = getN ((bs.drop 8).take 1) := ⟨_, rfl⟩
  have lkd : kd < 256 := by rw [hkd]; exact getN_small bs 0 1
  have ltx : tx < 4294967296 := by rw [htx]; exact getN_small bs 1 4
  have lky : ky < 256 := by rw [hky]; exact getN_small bs 5 1
  have lbl : bl < 65536 := by rw [hbl]; exact getN_small bs 6 2
  have lct : ct < 256 := by rw [hct]; exact getN_small bs 8 1
  rw [← hkd, ← htx, ← hky, ← hbl, ← hct] at HR
  rw [← hky, ← hbl] at hsz
  obtain ⟨sm, hsm⟩ : ∃ v, sumN (bs.take (11 + ky + bl)) = v := ⟨_, rfl⟩
  obtain ⟨v4, hv4⟩ : ∃ v, getN ((bs.drop (11 + ky + bl)).take 4) = v := ⟨_, rfl⟩
  have lsm : sm < 4294967296 := by rw [← hsm]; exact sumN_lt _
  have lv4 : v4 < 4294967296 := by rw [← hv4]; exact getN_small bs _ 4
  rw [← hky, ← hbl, hsm, hv4] at hsum
  have HSM1 := Lib.hid hsm
  have HSM2 := Lib.hid hv4
  clear hsm hv4
  obtain ⟨la, hla⟩ : ∃ v, getN ((bs.drop (11 + ky + bl + 4)).take 1) = v := ⟨_, rfl⟩
  have lla : la < 256 := by rw [← hla]; exact getN_small bs _ 1
  have HLA := Lib.hid hla
  clear hla
  subst hsum
  have KK := Lib.hid (And.intro hkd (And.intro htx (And.intro hky (And.intro hbl hct))))
  clear hkd htx hky hbl hct
  go_wp2_with fail
  have lt7 : w.heap.size < w7.heap.size := K7.out.lt
  have R8 := Lib.hid (show BlkR (w7.alloc (.cells #[.slice (some ⟨b, off, none⟩) n cap, .int .i64 0] 64)) w7.heap.size (some ⟨b, off, none⟩) n cap ((0 : Nat) : Int) from heap_alloc_last w7 _)
  have hb8 : Below w7.heap.size w7 (w7.alloc (.cells #[.slice (some ⟨b, off, none⟩) n cap, .int .i64 0] 64)) := (Below.refl _ _).alloc (Nat.le_refl _) _
  have H8 := Lib.hid (H7.out.trans (hb8.mono (by omega)))
  have K8 := Lib.hid (K7.out.belowB hb8 lt7)
  clear hb8 H7 K7
  refine (next_any _ w7.heap.size (some ⟨b, off, none⟩) n cap bs 0 1 R8.out (HE.out.below H8.out) hcap (by omega) (by omega) (by omega) (by omega)).mono ?_
  rw [← KK.out.1]
  rintro e w9 ⟨rfl, hRT⟩
  obtain ⟨hr1, hb1, hh1⟩ := hRT
  have R9 := Lib.hid (show BlkR w9 w7.heap.size (some ⟨b, off, none⟩) n cap ((1 : Nat) : Int) from hr1)
  have H9 := Lib.hid (H8.out.trans (hb1.mono (by omega)))
  have K9 := Lib.hid (K8.out.belowB hb1 (by omega))
  have G9 : w7.heap.size < w9.heap.size := R9.out.lt
  clear hr1 hb1 hh1 R8 H8 K8
  go_wp2_with fail
  refine (next_any _ w7.heap.size (some ⟨b, off, none⟩) n cap bs 1 4 R9.out (HE.out.below H9.out) hcap (by omega) (by omega) (by omega) (by omega)).mono ?_
  rw [← KK.out.2.1]
  rintro e w10 ⟨rfl, hRT⟩
  obtain ⟨hr1, hb1, hh1⟩ := hRT
  have R10 := Lib.hid (show BlkR w10 w7.heap.size (some ⟨b, off, none⟩) n cap ((5 : Nat) : Int) from hr1)
  have H10 := Lib.hid (H9.out.trans (hb1.mono (by omega)))
  have K10 := Lib.hid (K9.out.belowB hb1 (by omega))
  have G10 : w7.heap.size < w10.heap.size := R10.out.lt
  clear hr1 hb1 hh1 R9 H9 K9
  go_wp2_with fail
  have hb11 : Below w10.heap.size w10 (w10.alloc (.cells #[.int .i64 kd, .int .u32 tx, .string ⟨#[]⟩, .slice none 0 0, .int .i64 0] 28)) := (Below.refl _ _).alloc (Nat.le_refl _) _
  have X11 := Lib.hid (show Blk5 (w10.alloc (.cells #[.int .i64 kd, .int .u32 tx, .string ⟨#[]⟩, .slice none 0 0, .int .i64 0] 28)) w10.heap.size (.int .i64 kd) (.int .u32 tx) (.string ⟨#[]⟩) (.slice none 0 0) (.int .i64 0) 28 from heap_alloc_last w10 _)
  have R11 := Lib.hid (R10.out.below hb11)
  have H11 := Lib.hid (H10.out.trans (hb11.mono H10.out.size))
  have K11 := Lib.hid (K10.out.below hb11)
  have lt10 := G10
  clear hb11 H10 K10 R10
  refine (next_any _ w7.heap.size (some ⟨b, off, none⟩) n cap bs 5 1 R11.out (HE.out.below H11.out) hcap (by omega) (by omega) (by omega) (by omega)).mono ?_
  rw [← KK.out.2.2.1]
  rintro e w12 ⟨rfl, hRT⟩
  obtain ⟨hr1, hb1, hh1⟩ := hRT
  have R12 := Lib.hid (show BlkR w12 w7.heap.size (some ⟨b, off, none⟩) n cap ((6 : Nat) : Int) from hr1)
  have H12 := Lib.hid (H11.out.trans (hb1.mono (by omega)))
  have K12 := Lib.hid (K11.out.belowB hb1 (by omega))
  have X12 := Lib.hid (X11.out.eq (hh1 _ (by omega) X11.out.lt))
  have G12 : w7.heap.size < w12.heap.size := R12.out.lt
  clear hr1 hb1 hh1 R11 H11 K11 X11
  go_wp2_with fail
  refine (next_any _ w7.heap.size (some ⟨b, off, none⟩) n cap bs 6 2 R12.out (HE.out.below H12.out) hcap (by omega) (by omega) (by omega) (by omega)).mono ?_
  rw [← KK.out.2.2.2.1]
  rintro e w13 ⟨rfl, hRT⟩
  obtain ⟨hr1, hb1, hh1⟩ := hRT
  have R13 := Lib.hid (show BlkR w13 w7.heap.size (some ⟨b, off, none⟩) n cap ((8 : Nat) : Int) from hr1)
  have H13 := Lib.hid (H12.out.trans (hb1.mono (by omega)))
  have K13 := Lib.hid (K12.out.belowB hb1 (by omega))
  have X13 := Lib.hid (X12.out.eq (hh1 _ (by omega) X12.out.lt))
  have G13 : w7.heap.size < w13.heap.size := R13.out.lt
  clear hr1 hb1 hh1 R12 H12 K12 X12
  go_wp2_with fail
  refine (next_any _ w7.heap.size (some ⟨b, off, none⟩) n cap bs 8 1 R13.out (HE.out.below H13.out) hcap (by omega) (by omega) (by omega) (by omega)).mono ?_
  rw [← KK.out.2.2.2.2]
  rintro e w14 ⟨rfl, hRT⟩
  obtain ⟨hr1, hb1, hh1⟩ := hRT
  have R14 := Lib.hid (show BlkR w14 w7.heap.size (some ⟨b, off, none⟩) n cap ((9 : Nat) : Int) from hr1)
  have H14 := Lib.hid (H13.out.trans (hb1.mono (by omega)))
  have K14 := Lib.hid (K13.out.belowB hb1 (by omega))
  have X14 := Lib.hid (X13.out.eq (hh1 _ (by omega) X13.out.lt))
  have G14 : w7.heap.size < w14.heap.size := R14.out.lt
  clear hr1 hb1 hh1 R13 H13 K13 X13
  obtain ⟨q0, q1, q2, q3, q4, s0, s1, s2, s3, s4, lt14⟩ := X14.out.box
  go_wp2_with fail
  have hne1 : w.heap.size ≠ w10.heap.size := by omega
  have hne2 : w7.heap.size ≠ w10.heap.size := by omega
  have K15 := Lib.hid (K14.out.other (o := 4) (v := .int .i64 ct) hne1)
  have R15 := Lib.hid (R14.out.other (o := 4) (v := .int .i64 ct) hne2)
  have X15 := Lib.hid (X14.out.set4 (v' := .int .i64 ct))
  have H15 := Lib.hid (H14.out.setCell (p := ⟨w10.heap.size, 4, none⟩) (by show w.heap.size ≤ w10.heap.size; omega) (.int .i64 ct))
  clear K14 R14 X14 H14 q0 q1 q2 q3 q4 s0 s1 s2 s3 s4 lt14
  refine (right5_any _ kd tx ⟨#[]⟩ none 0 0 ct ky bl (by unfold IntR; omega) (by omega) (by unfold IntR; omega) (by omega) (by omega)).mono ?_
  rw [HR.out]
  rintro e w16 ⟨rfl, hb16⟩
  have K16 := Lib.hid (K15.out.below hb16)
  have R16 := Lib.hid (R15.out.below hb16)
  have X16 := Lib.hid (X15.out.below hb16)
  have H16 := Lib.hid (H15.out.trans (hb16.mono H15.out.size))
  clear hb16 K15 R15 X15 H15
  have esz := decide_eq_false (show ¬ (n : Int) < 11 + (ky : Int) + (bl : Int) + 5 by omega)
  go_wp2_with fail
  refine (next_any _ w7.heap.size (some ⟨b, off, none⟩) n cap bs 9 2 R16.out (HE.out.below H16.out) hcap (by omega) (by omega) (by omega) (by omega)).mono ?_
  generalize getN ((bs.drop 9).take 2) = dummy
  rintro e w17 ⟨rfl, hr1, hb1, hh1⟩
  have R17 := Lib.hid (show BlkR w17 w7.heap.size (some ⟨b, off, none⟩) n cap ((11 : Nat) : Int) from hr1)
  have H17 := Lib.hid (H16.out.trans (hb1.mono (by omega)))
  have K17 := Lib.hid (K16.out.belowB hb1 (by omega))
  have G16 := X16.out.lt
  have X17 := Lib.hid (X16.out.eq (hh1 _ (by omega) X16.out.lt))
  clear hr1 hb1 hh1 R16 H16 K16 X16
  go_wp2_with fail
  refine (take_any _ w7.heap.size b off n cap 11 ky R17.out hcap (by omega) (by omega) (by omega)).mono ?_
  rintro e w18 ⟨rfl, hr1, hb1, hh1⟩
  have R18 := Lib.hid (show BlkR w18 w7.heap.size (some ⟨b, off, none⟩) n cap ((11 + ky : Nat) : Int) from by have h := hr1; rwa [← Int.natCast_add] at h)
  have H18 := Lib.hid (H17.out.trans (hb1.mono (by omega)))
  have K18 := Lib.hid (K17.out.belowB hb1 (by omega))
  have G17 := X17.out.lt
  have X18 := Lib.hid (X17.out.eq (hh1 _ (by omega) X17.out.lt))
  clear hr1 hb1 hh1 R17 H17 K17 X17
  have q1 := run_conv (part5 (f := 11) (n := ky) (HE.out.below H18.out) (by omega) (by omega)) (cap - 11)
  generalize hkb : (bs.drop 11).take ky = kb at q1
  have HKB := Lib.hid hkb
  clear hkb
  obtain ⟨p0, p1, p2, p3, p4, f0, f1, f2, f3, f4, lt1⟩ := X18.out.box
  go_wp2_with fail
  have K19 := Lib.hid (K18.out.other (o := 2) (v := .string ⟨kb.toArray⟩) hne1)
  have R19 := Lib.hid (R18.out.other (o := 2) (v := .string ⟨kb.toArray⟩) hne2)
  have X19 := Lib.hid (X18.out.set2 (v' := .string ⟨kb.toArray⟩))
  have H19 := Lib.hid (H18.out.setCell (p := ⟨w10.heap.size, 2, none⟩) (by show w.heap.size ≤ w10.heap.size; omega) (.string ⟨kb.toArray⟩))
  clear K18 R18 X18 H18 q1 p0 p1 p2 p3 p4 f0 f1 f2 f3 f4 lt1
  refine (take_any _ w7.heap.size b off n cap (11 + ky) bl R19.out hcap (by omega) (by omega) (by omega)).mono ?_
  rintro e w20 ⟨rfl, hr1, hb1, hh1⟩
  have R20 := Lib.hid (show BlkR w20 w7.heap.size (some ⟨b, off, none⟩) n cap ((11 + ky + bl : Nat) : Int) from by have h := hr1; rwa [← Int.natCast_add] at h)
  have H20 := Lib.hid (H19.out.trans (hb1.mono (by omega)))
  have K20 := Lib.hid (K19.out.belowB hb1 (by omega))
  have G19 := X19.out.lt
  have X20 := Lib.hid (X19.out.eq (hh1 _ (by omega) X19.out.lt))
  clear hr1 hb1 hh1 R19 H19 K19 X19
  have hsb := part5 (f := 11 + ky) (n := bl) (HE.out.below H20.out) (by omega) (by omega)
  generalize hbb : (bs.drop (11 + ky)).take bl = bb at hsb
  have HBB := Lib.hid hbb
  have HSB := Lib.hid hsb
  clear hbb hsb
  go_wp2_with fail
  refine (Clone_any _ (some ⟨b, off + (11 + ky), none⟩) bl (cap - (11 + ky)) bb HSB.out (by omega)).mono ?_
  rintro e w21 ⟨v21, m21, rfl, hown, hb1⟩
  obtain ⟨a21, c21, rfl, hsl, hc21⟩ := Sl.ofOwn hown
  have K21 := Lib.hid (K20.out.below hb1)
  have R21 := Lib.hid (R20.out.below hb1)
  have X21 := Lib.hid (X20.out.below hb1)
  have H21 := Lib.hid (H20.out.trans (hb1.mono H20.out.size))
  have G20 := X20.out.lt
  have O21 := Lib.hid hown
  clear hown hsl hb1 K20 R20 X20 H20
  obtain ⟨p0, p1, p2, p3, p4, f0, f1, f2, f3, f4, lt1⟩ := X21.out.box
  obtain ⟨r0, r1, _, _⟩ := R21.out.cells
  have b1 : (0 : Int) ≤ 11 + (ky : Int) + (bl : Int) := by omega
  have b2 : 11 + (ky : Int) + (bl : Int) ≤ (cap : Int) := by omega
  have r1' : w21.cell? ⟨w7.heap.size, 1, none⟩ = some (.int .i64 (11 + (ky : Int) + (bl : Int))) := by rw [r1]; push_cast; rfl
  clear r1
  have K22 := Lib.hid (K21.out.other (o := 3) (v := .slice a21 m21 c21) hne1)
  have R22 := Lib.hid (R21.out.other (o := 3) (v := .slice a21 m21 c21) hne2)
  have X22 := Lib.hid (X21.out.set3 (v' := .slice a21 m21 c21))
  have H22 := Lib.hid (H21.out.setCell (p := ⟨w10.heap.size, 3, none⟩) (by show w.heap.size ≤ w10.heap.size; omega) (.slice a21 m21 c21))
  have O22 := Lib.hid (ownsRow_setCell_below O21.out (a := ⟨w10.heap.size, 3, none⟩) (by show w10.heap.size < w20.heap.size; omega) (.slice a21 m21 c21))
  go_wp2_with fail
  have HS22 := (HE.out.below H22.out).take (j := 11 + ky + bl) (by omega)
  clear K21 R21 X21 H21 O21 p0 p1 p2 p3 p4 f0 f1 f2 f3 f4 lt1 r0 r1'
  refine (Sum32_n _ (some ⟨b, off, none⟩) (11 + ky + bl) cap _ HS22 (by omega)).mono ?_
  rw [HSM1.out]
  rintro e w23 ⟨rfl, hb1⟩
  have K23 := Lib.hid (K22.out.below hb1)
  have R23 := Lib.hid (R22.out.below hb1)
  have X23 := Lib.hid (X22.out.below hb1)
  have H23 := Lib.hid (H22.out.trans (hb1.mono H22.out.size))
  have O23 := Lib.hid (own_below O22.out hb1)
  clear hb1 K22 R22 X22 H22 O22 HS22
  go_wp2_with fail
  refine (next_any _ w7.heap.size (some ⟨b, off, none⟩) n cap bs (11 + ky + bl) 4 R23.out (HE.out.below H23.out) hcap (by omega) (by omega) (by omega) (by omega)).mono ?_
  rw [HSM2.out]
  rintro e w24 ⟨rfl, hr1, hb1, hh1⟩
  have R24 := Lib.hid (show BlkR w24 w7.heap.size (some ⟨b, off, none⟩) n cap ((11 + ky + bl + 4 : Nat) : Int) from by have h := hr1; rwa [← Int.natCast_add] at h)
  have H24 := Lib.hid (H23.out.trans (hb1.mono (by omega)))
  have K24 := Lib.hid (K23.out.belowB hb1 (by omega))
  have G23 := X23.out.lt
  have X24 := Lib.hid (X23.out.eq (hh1 _ (by omega) X23.out.lt))
  have O24 := Lib.hid (own_heap O23.out (fun k h1 h2 => hh1 k (by omega) h2))
  clear hr1 hb1 hh1 R23 H23 K23 X23 O23
  go_wp2_with fail
  have ld0 : ∀ w', Blk5 w' w10.heap.size (.int .i64 kd) (.int .u32 tx) (.string ⟨kb.toArray⟩) (.slice a21 m21 c21) (.int .i64 ct) 28 → w'.cell? ⟨w10.heap.size, 0, none⟩ = some (.int .i64 kd) := fun w' h => h.box.c0
  have ld1 : ∀ w', Blk5 w' w10.heap.size (.int .i64 kd) (.int .u32 tx) (.string ⟨kb.toArray⟩) (.slice a21 m21 c21) (.int .i64 ct) 28 → w'.cell? ⟨w10.heap.size, 1, none⟩ = some (.int .u32 tx) := fun w' h => h.box.c1
  have ld2 : ∀ w', Blk5 w' w10.heap.size (.int .i64 kd) (.int .u32 tx) (.string ⟨kb.toArray⟩) (.slice a21 m21 c21) (.int .i64 ct) 28 → w'.cell? ⟨w10.heap.size, 2, none⟩ = some (.string ⟨kb.toArray⟩) := fun w' h => h.box.c2
  have ld3 : ∀ w', Blk5 w' w10.heap.size (.int .i64 kd) (.int .u32 tx) (.string ⟨kb.toArray⟩) (.slice a21 m21 c21) (.int .i64 ct) 28 → w'.cell? ⟨w10.heap.size, 3, none⟩ = some (.slice a21 m21 c21) := fun w' h => h.box.c3
  have ld4 : ∀ w', Blk5 w' w10.heap.size (.int .i64 kd) (.int .u32 tx) (.string ⟨kb.toArray⟩) (.slice a21 m21 c21) (.int .i64 ct) 28 → w'.cell? ⟨w10.heap.size, 4, none⟩ = some (.int .i64 ct) := fun w' h => h.box.c4
  have hSw : Blk5 w24.drew w10.heap.size (.int .i64 kd) (.int .u32 tx) (.string ⟨kb.toArray⟩) (.slice a21 m21 c21) (.int .i64 ct) 28 := X24.out
  refine wp_region_lex (fun w' => Blk5 w' w10.heap.size (.int .i64 kd) (.int .u32 tx) (.string ⟨kb.toArray⟩) (.slice a21 m21 c21) (.int .i64 ct) 28) [(0, true), (1, true), (2, true), (3, false), (4, true), (5, false), (6, true), (7, true), (8, true)] (by kernel_rfl) (by kernel_rfl) (fun c a d v w h => by cases d <;> exact h) ?_
  iterate 3
    refine lex_step (fun K hK => ?_)
    simp only [lexOp, List.getElem?_toArray, List.getElem?_cons_succ, List.getElem?_cons_zero]
    rw [if_pos (by rfl)]
    apply Exists.intro
    refine ⟨fun w' hS' => ?_, hSw, ?_⟩
    · first | (go_simp <;> with_reducible rfl) | (go_simp; go_bits; with_reducible rfl)
    go_simp
    try go_bits
    refine hK _ _ ?_
    clear hK K
  refine lex_step (fun K hK => ?_)
  simp only [lexOp, List.getElem?_toArray, List.getElem?_cons_succ, List.getElem?_cons_zero]
  rw [if_pos (by rfl)]
  go_step
  refine (next_any _ w7.heap.size (some ⟨b, off, none⟩) n cap bs (11 + ky + bl + 4) 1 R24.out.drew (HE.out.below H24.out.drew) hcap (by omega) (by omega) (by omega) (by omega)).mono ?_
  rw [HLA.out]
  rintro e w25 ⟨rfl, hr1, hb1, hh1⟩
  have G24 : w10.heap.size < w24.heap.size := X24.out.lt
  have hX25 : Blk5 w25 w10.heap.size (.int .i64 kd) (.int .u32 tx) (.string ⟨kb.toArray⟩) (.slice a21 m21 c21) (.int .i64 ct) 28 := X24.out.eq (hh1 _ (by omega) (by simpa using G24))
  have H25 := Lib.hid (H24.out.drew.trans (hb1.mono (by omega)))
  have K25 := Lib.hid (show Blk5 w25 w.heap.size (.int .i64 0) (.int .u32 0) (.string ⟨#[]⟩) (.slice none 0 0) (.int .i64 0) 28 from (show Blk5 w24.drew w.heap.size (.int .i64 0) (.int .u32 0) (.string ⟨#[]⟩) (.slice none 0 0) (.int .i64 0) 28 from K24.out).belowB hb1 (by omega))
  have O25 := Lib.hid (own_heap (w := w24.drew) (w' := w25) (show w24.drew.ownsRow _ _ _ _ _ _ from O24.out) (fun k h1 h2 => hh1 k (by omega) h2))
  clear hSw hr1 hb1 hh1
  have hSw := hX25
  clear hX25
  go_simp
  refine hK _ _ ?_
  clear hK K
  iterate 1
    refine lex_step (fun K hK => ?_)
    simp only [lexOp, List.getElem?_toArray, List.getElem?_cons_succ, List.getElem?_cons_zero]
    rw [if_pos (by rfl)]
    apply Exists.intro
    refine ⟨fun w' hS' => ?_, hSw, ?_⟩
    · first | (go_simp <;> with_reducible rfl) | (go_simp; go_bits; with_reducible rfl)
    go_simp
    try go_bits
    refine hK _ _ ?_
    clear hK K
  obtain ⟨p0, p1, p2, p3, p4, f0, f1, f2, f3, f4, lt1⟩ := K25.out.box
  refine lex_step (fun K hK => ?_)
  simp only [lexOp, List.getElem?_toArray, List.getElem?_cons_succ, List.getElem?_cons_zero]
  rw [if_pos (by rfl)]
  go_step
  have hX26 := hSw.other5 (show w10.heap.size ≠ w.heap.size by omega) (.int .i64 kd) (.int .u32 tx) (.string ⟨kb.toArray⟩) (.slice a21 m21 c21) (.int .i64 ct)
  have K26 := Lib.hid (K25.out.set (x' := .int .i64 kd) (y' := .int .u32 tx) (z' := .string ⟨kb.toArray⟩) (u' := .slice a21 m21 c21) (v' := .int .i64 ct))
  have H26 := Lib.hid (H25.out.trans (keep55 w.heap.size w25 (.int .i64 kd) (.int .u32 tx) (.string ⟨kb.toArray⟩) (.slice a21 m21 c21) (.int .i64 ct)))
  have O26 := Lib.hid (own_mono (own_keep5 O25.out (show w.heap.size < w20.heap.size by omega) (.int .i64 kd) (.int .u32 tx) (.string ⟨kb.toArray⟩) (.slice a21 m21 c21) (.int .i64 ct)) (show w.heap.size ≤ w20.heap.size by omega))
  refine ⟨hX26, hK _ _ ?_⟩
  clear hK K hSw
  have hSw := hX26
  clear hX26
  iterate 3
    refine lex_step (fun K hK => ?_)
    simp only [lexOp, List.getElem?_toArray, List.getElem?_cons_succ, List.getElem?_cons_zero]
    rw [if_pos (by rfl)]
    apply Exists.intro
    refine ⟨fun w' hS' => ?_, hSw, ?_⟩
    · first | (go_simp <;> with_reducible rfl) | (go_simp; go_bits; with_reducible rfl)
    go_simp
    try go_bits
    refine hK _ _ ?_
    clear hK K
  refine lex_nil ?_
  clear ld0 ld1 ld2 ld3 ld4 hSw
  go_wp2
  exact bodyPost_ret (results_cell_row_tmp3 rfl _ _ w.heap.size _ _ _ _ rfl K26.out Try.underlying28 rfl infoRec) rfl ⟨a21, m21, c21, by
    rw [← KK.out.1, ← KK.out.2.1, ← KK.out.2.2.1, ← KK.out.2.2.2.1, ← KK.out.2.2.2.2, HKB.out, HLA.out]
    rfl, by
    rw [← KK.out.2.2.1, ← KK.out.2.2.2.1, HBB.out]
    exact O26.out, H26.out⟩
end Go.Proofs.Ytechkdnoekffmaa
/- rec: what a record's bytes, with more behind them, tell. Plain. No condition. -/
namespace Go.Proofs.Ytechkdnoekffmaa
theorem mid {B P Q R : List UInt8} {i k : Nat} (h : B = P ++ (Q ++ R)) (hp : P.length = i) (hq : Q.length = k) : (B.drop i).take k = Q := by
  subst h
  rw [← hp, List.drop_left, ← hq, List.take_left]
section
variable (u : UInt8) (t : Nat) (kb bs : List UInt8) (c : Nat) (rest : List UInt8)
theorem rec_long : recB u t kb bs c ++ rest = [u] ++ (putB t 4 ++ (putB kb.length 1 ++ (putB bs.length 2 ++ (putB c 1 ++ (putB (crcN (recHd u t kb.length bs.length c)) 2 ++ (kb ++ (bs ++ (putB (sumN (recBody u t kb bs c)) 4 ++ (rest))))))))) := by
  unfold recB recBody recHd
  simp only [List.append_assoc]
theorem rec_hd : (recB u t kb bs c ++ rest).take 9 = recHd u t kb.length bs.length c := by
  unfold recB recBody
  simp only [List.append_assoc]
  exact List.take_left' (recHd_length ..)
theorem rec_body : (recB u t kb bs c ++ rest).take (11 + kb.length + bs.length) = recBody u t kb bs c := by
  unfold recB
  rw [List.append_assoc]
  exact List.take_left' (by unfold recBody; simp [recHd_length, putB_length]; omega)
theorem rec_kind0 : ((recB u t kb bs c ++ rest).drop 0).take 1 = [u] :=
  mid (P := []) (Q := [u]) (R := putB t 4 ++ (putB kb.length 1 ++ (putB bs.length 2 ++ (putB c 1 ++ (putB (crcN (recHd u t kb.length bs.length c)) 2 ++ (kb ++ (bs ++ (putB (sumN (recBody u t kb bs c)) 4 ++ (rest))))))))) (by rw [rec_long]; first | done | rfl) (by simp [putB_length]) (by simp [putB_length])
theorem rec_txn0 : ((recB u t kb bs c ++ rest).drop 1).take 4 = putB t 4 :=
  mid (P := [u]) (Q := putB t 4) (R := putB kb.length 1 ++ (putB bs.length 2 ++ (putB c 1 ++ (putB (crcN (recHd u t kb.length bs.length c)) 2 ++ (kb ++ (bs ++ (putB (sumN (recBody u t kb bs c)) 4 ++ (rest)))))))) (by rw [rec_long]; first | done | simp only [List.append_assoc, List.nil_append]) (by simp [putB_length]) (by simp [putB_length])
theorem rec_key0 : ((recB u t kb bs c ++ rest).drop 5).take 1 = putB kb.length 1 :=
  mid (P := [u] ++ (putB t 4)) (Q := putB kb.length 1) (R := putB bs.length 2 ++ (putB c 1 ++ (putB (crcN (recHd u t kb.length bs.length c)) 2 ++ (kb ++ (bs ++ (putB (sumN (recBody u t kb bs c)) 4 ++ (rest))))))) (by rw [rec_long]; first | done | simp only [List.append_assoc, List.nil_append]) (by simp [putB_length]) (by simp [putB_length])
theorem rec_blob0 : ((recB u t kb bs c ++ rest).drop 6).take 2 = putB bs.length 2 :=
  mid (P := [u] ++ (putB t 4 ++ (putB kb.length 1))) (Q := putB bs.length 2) (R := putB c 1 ++ (putB (crcN (recHd u t kb.length bs.length c)) 2 ++ (kb ++ (bs ++ (putB (sumN (recBody u t kb bs c)) 4 ++ (rest)))))) (by rw [rec_long]; first | done | simp only [List.append_assoc, List.nil_append]) (by simp [putB_length]) (by simp [putB_length])
theorem rec_count0 : ((recB u t kb bs c ++ rest).drop 8).take 1 = putB c 1 :=
  mid (P := [u] ++ (putB t 4 ++ (putB kb.length 1 ++ (putB bs.length 2)))) (Q := putB c 1) (R := putB (crcN (recHd u t kb.length bs.length c)) 2 ++ (kb ++ (bs ++ (putB (sumN (recBody u t kb bs c)) 4 ++ (rest))))) (by rw [rec_long]; first | done | simp only [List.append_assoc, List.nil_append]) (by simp [putB_length]) (by simp [putB_length])
theorem rec_crc0 : ((recB u t kb bs c ++ rest).drop 9).take 2 = putB (crcN (recHd u t kb.length bs.length c)) 2 :=
  mid (P := [u] ++ (putB t 4 ++ (putB kb.length 1 ++ (putB bs.length 2 ++ (putB c 1))))) (Q := putB (crcN (recHd u t kb.length bs.length c)) 2) (R := kb ++ (bs ++ (putB (sumN (recBody u t kb bs c)) 4 ++ (rest)))) (by rw [rec_long]; first | done | simp only [List.append_assoc, List.nil_append]) (by simp [putB_length]) (by simp [putB_length])
theorem rec_keyb : ((recB u t kb bs c ++ rest).drop 11).take kb.length = kb :=
  mid (P := [u] ++ (putB t 4 ++ (putB kb.length 1 ++ (putB bs.length 2 ++ (putB c 1 ++ (putB (crcN (recHd u t kb.length bs.length c)) 2)))))) (Q := kb) (R := bs ++ (putB (sumN (recBody u t kb bs c)) 4 ++ (rest))) (by rw [rec_long]; first | done | simp only [List.append_assoc, List.nil_append]) (by simp [putB_length]) (by simp [putB_length])
theorem rec_blobb : ((recB u t kb bs c ++ rest).drop (11 + kb.length)).take bs.length = bs :=
  mid (P := [u] ++ (putB t 4 ++ (putB kb.length 1 ++ (putB bs.length 2 ++ (putB c 1 ++ (putB (crcN (recHd u t kb.length bs.length c)) 2 ++ (kb))))))) (Q := bs) (R := putB (sumN (recBody u t kb bs c)) 4 ++ (rest)) (by rw [rec_long]; first | done | simp only [List.append_assoc, List.nil_append]) (by simp [putB_length]; omega) (by simp [putB_length])
theorem rec_sum0 : ((recB u t kb bs c ++ rest).drop (11 + kb.length + bs.length)).take 4 = putB (sumN (recBody u t kb bs c)) 4 :=
  mid (P := [u] ++ (putB t 4 ++ (putB kb.length 1 ++ (putB bs.length 2 ++ (putB c 1 ++ (putB (crcN (recHd u t kb.length bs.length c)) 2 ++ (kb ++ (bs)))))))) (Q := putB (sumN (recBody u t kb bs c)) 4) (R := rest) (by rw [rec_long]; first | done | simp only [List.append_assoc, List.nil_append]) (by simp [putB_length]; omega) (by simp [putB_length])
theorem rec_kind : getN (((recB u t kb bs c ++ rest).drop 0).take 1) = u.toNat := by rw [rec_kind0]; simp [getN]
theorem rec_txn (h : t < 4294967296) : getN (((recB u t kb bs c ++ rest).drop 1).take 4) = t := by rw [rec_txn0, get_put, Nat.mod_eq_of_lt (by omega)]
theorem rec_key (h : kb.length < 256) : getN (((recB u t kb bs c ++ rest).drop 5).take 1) = kb.length := by rw [rec_key0, get_put, Nat.mod_eq_of_lt (by omega)]
theorem rec_blob (h : bs.length < 65536) : getN (((recB u t kb bs c ++ rest).drop 6).take 2) = bs.length := by rw [rec_blob0, get_put, Nat.mod_eq_of_lt (by omega)]
theorem rec_count (h : c < 256) : getN (((recB u t kb bs c ++ rest).drop 8).take 1) = c := by rw [rec_count0, get_put, Nat.mod_eq_of_lt (by omega)]
theorem rec_sum : getN (((recB u t kb bs c ++ rest).drop (11 + kb.length + bs.length)).take 4) = sumN (recBody u t kb bs c) := by
  rw [rec_sum0, get_put, Nat.mod_eq_of_lt (by have := sumN_lt (recBody u t kb bs c); omega)]
theorem recB_length : (recB u t kb bs c).length = 15 + kb.length + bs.length := by
  unfold recB recBody
  simp [recHd_length, putB_length]; omega
end
end Go.Proofs.Ytechkdnoekffmaa
/- rec: Parse of a record's bytes with more behind them. No condition. -/
namespace Go.Proofs.Ytechkdnoekffmaa
open Go.ChangeShapes Go.WideShapes Go.ChangeAt Go.RowKit
theorem getD_part {B Q : List UInt8} {i k j : Nat} (h : (B.drop i).take k = Q) (hj : j < k) : B.getD (i + j) 0 = Q.getD j 0 := by
  rw [← h]
  simp only [List.getD, List.getElem?_take, List.getElem?_drop, if_pos hj]
theorem Parse_rec (w : World) (a : Option Addr) (n cap : Nat) (u : UInt8) (t : Nat) (kb bs : List UInt8) (c : Nat) (last : UInt8) (more : List UInt8) (hs : Sl encB w a n (recB u t kb bs c ++ last :: more)) (hn : n ≤ 65536) (hcap : n ≤ cap)
    (hr : recOk u.toNat t kb.length bs.length c = true) (ht : t < 4294967296) :
    Calls Try.prog 15 #[.slice a n cap] w (ParseOk u.toNat t c kb bs (11 + kb.length + bs.length + 5) ((last.toNat : Int) == 0) w) := by
  have hd := of_decide_eq_true hr
  have hkl : kb.length ≤ 64 := by omega
  have hbl : bs.length ≤ 4096 := by omega
  have hcl : c ≤ 16 := by omega
  have hu : (u.toNat : Int) ≤ 3 := by omega
  have hlen := hs.1
  rw [List.length_append, recB_length, List.length_cons] at hlen
  have ek := rec_kind u t kb bs c (last :: more)
  have et := rec_txn u t kb bs c (last :: more) ht
  have ey := rec_key u t kb bs c (last :: more) (by omega)
  have eb := rec_blob u t kb bs c (last :: more) (by omega)
  have ec := rec_count u t kb bs c (last :: more) (by omega)
  have hcr := crcN_lt (recHd u t kb.length bs.length c)
  have hp := rec_crc0 u t kb bs c (last :: more)
  have e0 : (recB u t kb bs c ++ last :: more).getD 0 0 = u := by
    have := getD_part (rec_kind0 u t kb bs c (last :: more)) (j := 0) (by omega)
    simpa using this
  have e9 := getD_part hp (j := 0) (by omega)
  have e10 := getD_part hp (j := 1) (by omega)
  rw [putB_two] at e9 e10
  have h := Parse_good w a n cap _ hs hn hcap (by rw [e0]; intro h; rw [h] at hu; exact absurd hu (by decide)) (by omega)
    (by rw [rec_hd, show (9 : Nat) = 9 + 0 from rfl, e9]; show _ = (UInt8.ofNat _).toNat; rw [UInt8.toNat_ofNat_of_lt' (by show _ < 256; omega)]; omega)
    (by rw [rec_hd, show (10 : Nat) = 9 + 1 from rfl, e10]; show _ = (UInt8.ofNat _).toNat; rw [UInt8.toNat_ofNat_of_lt' (by show _ < 256; omega)])
    (by rw [ek, et, ey, eb, ec]; exact hr) (by rw [ey, eb]; omega) (by rw [ey, eb, rec_body, rec_sum])
  rw [ek, et, ey, eb, ec, rec_keyb, rec_blobb] at h
  have el : getN (((recB u t kb bs c ++ last :: more).drop (11 + kb.length + bs.length + 4)).take 1) = last.toNat := by
    have := mid (B := recB u t kb bs c ++ last :: more) (P := recB u t kb bs c) (Q := [last]) (R := more) (i := 11 + kb.length + bs.length + 4) (k := 1) (by simp) (by rw [recB_length]; omega) rfl
    rw [this]; simp [getN]
  rw [el] at h
  exact h
end Go.Proofs.Ytechkdnoekffmaa
/- rec: bytes that are a record's. Plain. No condition. -/
namespace Go.Proofs.Ytechkdnoekffmaa
theorem put_part (bs : List UInt8) (i k : Nat) (h : i + k ≤ bs.length) : putB (getN ((bs.drop i).take k)) k = (bs.drop i).take k := by
  have hl : ((bs.drop i).take k).length = k := by simp; omega
  have := put_get ((bs.drop i).take k)
  rwa [hl] at this
theorem take_more (bs : List UInt8) (i k : Nat) : bs.take i ++ (bs.drop i).take k = bs.take (i + k) := by
  rw [List.take_add]
theorem rec_head_is (bs : List UInt8) (u : UInt8) (h : 11 ≤ bs.length) (hu : bs.getD 0 0 = u) :
    recHd u (getN ((bs.drop 1).take 4)) (getN ((bs.drop 5).take 1)) (getN ((bs.drop 6).take 2)) (getN ((bs.drop 8).take 1)) = bs.take 9 := by
  unfold recHd
  rw [put_part _ _ _ (by omega), put_part _ _ _ (by omega), put_part _ _ _ (by omega), put_part _ _ _ (by omega)]
  have h1 : [u] = bs.take 1 := by
    rw [← hu]
    cases bs with
    | nil => simp at h
    | cons x l => simp
  rw [h1, take_more, take_more, take_more, take_more]
theorem rec_body_is (bs : List UInt8) (u : UInt8) (h : 11 ≤ bs.length) (hu : bs.getD 0 0 = u) (hc : crcN (bs.take 9) = getN ((bs.drop 9).take 2)) {ky bl : Nat} (hk : getN ((bs.drop 5).take 1) = ky) (hb : getN ((bs.drop 6).take 2) = bl) (hl : 11 + ky + bl ≤ bs.length) :
    recBody u (getN ((bs.drop 1).take 4)) ((bs.drop 11).take ky) ((bs.drop (11 + ky)).take bl) (getN ((bs.drop 8).take 1)) = bs.take (11 + ky + bl) := by
  have hkl : ((bs.drop 11).take ky).length = ky := by simp; omega
  have hbl : ((bs.drop (11 + ky)).take bl).length = bl := by simp; omega
  unfold recBody
  rw [hkl, hbl]
  have hh := rec_head_is bs u h hu
  rw [hk, hb] at hh
  rw [hh, hc, put_part _ _ _ (by omega), take_more, take_more, take_more]
theorem recB_is (bs : List UInt8) (u : UInt8) (h : 11 ≤ bs.length) (hu : bs.getD 0 0 = u) (hc : crcN (bs.take 9) = getN ((bs.drop 9).take 2)) {ky bl : Nat} (hk : getN ((bs.drop 5).take 1) = ky) (hb : getN ((bs.drop 6).take 2) = bl) (hl : 15 + ky + bl ≤ bs.length) :
    recB u (getN ((bs.drop 1).take 4)) ((bs.drop 11).take ky) ((bs.drop (11 + ky)).take bl) (getN ((bs.drop 8).take 1)) = bs.take (15 + ky + bl) ↔ sumN (bs.take (11 + ky + bl)) = getN ((bs.drop (11 + ky + bl)).take 4) := by
  unfold recB
  rw [rec_body_is bs u h hu hc hk hb (by omega), show 15 + ky + bl = 11 + ky + bl + 4 by omega, show bs.take (11 + ky + bl + 4) = bs.take (11 + ky + bl) ++ (bs.drop (11 + ky + bl)).take 4 from (take_more ..).symm]
  rw [List.append_cancel_left_eq]
  constructor
  · intro e
    have h1 := congrArg getN e
    rw [get_put, Nat.mod_eq_of_lt (by have := sumN_lt (bs.take (11 + ky + bl)); omega)] at h1
    exact h1
  · intro e
    rw [e]
    exact put_part _ _ _ (by omega)
end Go.Proofs.Ytechkdnoekffmaa
