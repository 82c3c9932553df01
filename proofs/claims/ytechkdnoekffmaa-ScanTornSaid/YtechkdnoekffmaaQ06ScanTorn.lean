/- rec: Parse to its end. No condition. -/
import Derived.Test.YtechkdnoekffmaaQ05ScanTorn
namespace Go.Proofs.Ytechkdnoekffmaa
open Go.ChangeShapes Go.WideShapes Go.ChangeAt Go.RowKit
theorem part5 {w : World} {b off len : Nat} {bs : List UInt8} (h : Sl encB w (some ⟨b, off, none⟩) len bs) {f n : Nat} (h1 : f < len) (h2 : n ≤ len - f) : Sl encB w (some ⟨b, off + f, none⟩) n ((bs.drop f).take n) := by
  obtain ⟨b', o', e, hd⟩ := h.drop h1
  simp only [Option.some.injEq, Addr.mk.injEq, and_true] at e
  obtain ⟨rfl, rfl⟩ := e
  exact hd.take h2
set_option maxRecDepth 100000 in
set_option maxHeartbeats 8000000 in
theorem Parse_bad (w : World) (a : Option Addr) (n cap : Nat) (bs : List UInt8) (hs : Sl encB w a n bs) (hn : n ≤ 65536) (hcap : n ≤ cap) (h1 : bs.getD 0 0 ≠ 255) (h : 11 ≤ n) (h9 : crcN (bs.take 9) / 256 = (bs.getD 9 0).toNat) (h10 : crcN (bs.take 9) % 256 = (bs.getD 10 0).toNat) (hr : recOk (getN ((bs.drop 0).take 1)) (getN ((bs.drop 1).take 4)) (getN ((bs.drop 5).take 1)) (getN ((bs.drop 6).take 2)) (getN ((bs.drop 8).take 1)) = true) (hsz : 11 + getN ((bs.drop 5).take 1) + getN ((bs.drop 6).take 2) + 5 ≤ n) (hsum : sumN (bs.take (11 + getN ((bs.drop 5).take 1) + getN ((bs.drop 6).take 2))) ≠ getN ((bs.drop (11 + getN ((bs.drop 5).take 1) + getN ((bs.drop 6).take 2))).take 4)) :
    Calls Try.prog 15 #[.slice a n cap] w (ParseNo (11 + (getN ((bs.drop 5).take 1) : Int) + (getN ((bs.drop 6).take 2) : Int) + 5) 0 w) := by
  have HR := Lib.hid hr
  clear hr
  have K0 := Lib.hid (show Blk5 (w.alloc (.cells #[.int .i64 0, .int .u32 0, .string ⟨#[]⟩, .slice none 0 0, .int .i64 0] 28)) w.heap.size (.int .i64 0) (.int .u32 0) (.string ⟨#[]⟩) (.slice none 0 0) (.int .i64 0) 28 from heap_alloc_last w _)
  have HB := Lib.hid ((Below.refl w.heap.size w).alloc (Nat.le_refl _) (.cells #[.int .i64 0, .int .u32 0, .string ⟨#[]⟩, .slice none 0 0, .int .i64 0] 28))
  obtain ⟨b, off, rfl, hlt, c0, e255, hcell⟩ := first_cell hs (by omega) h1
  have c9 := hcell 9 (by omega)
  have c10 := hcell 10 (by omega)
  have HE := Lib.hid hs
  have HS9 := Lib.hid (hs.take (j := 9) (by omega))
  have hcr := crcN_lt (bs.take 9)
  have hM := fun w' (hb : Below w.heap.size w w') => Sum16_n w' (some ⟨b, off, none⟩) 9 cap (bs.take 9) (HS9.out.below hb) (by omega)
  have HXX := Lib.hid (And.intro h9 h10)
  generalize ((bs.getD 0 0).toNat : Int) = x0 at c0 e255
  have hx9 := u8_lt (bs.getD 9 0)
  have hx10 := u8_lt (bs.getD 10 0)
  generalize (bs.getD 9 0).toNat = x9 at c9 hx9 h9 HXX
  generalize (bs.getD 10 0).toNat = x10 at c10 hx10 h10 HXX
  generalize crcN (bs.take 9) = cr at hcr hM h9 h10 HXX
  have HM := Lib.hid hM
  have HC9 := Lib.hid c9
  have HC10 := Lib.hid c10
  have g1 : (0 : Int) < (n : Int) := by omega
  have g2 : (9 : Int) ≤ (cap : Int) := by omega
  have g3 : (9 : Int) < (n : Int) := by omega
  have g4 : (10 : Int) < (n : Int) := by omega
  have e0 : ((n : Int) == 0) = false := eqi_no (by omega)
  clear h1 hs hcell hM c9 c10
  go_enter Try.func15, Try.ntmps15
  go_wp2_with fail
  have ld9 : ∀ w', Below (w.heap.size + 1) (w.alloc (.cells #[.int .i64 0, .int .u32 0, .string ⟨#[]⟩, .slice none 0 0, .int .i64 0] 28)) w' → w'.cell? ⟨b, off + 9, none⟩ = some (.int .u8 (x9 : Int)) := fun w' h => by
    rw [(HB.out.trans (h.mono (by simp))).cell (by simpa using hlt)]; exact HC9.out
  have hSw : Below (w.heap.size + 1) (w.alloc (.cells #[.int .i64 0, .int .u32 0, .string ⟨#[]⟩, .slice none 0 0, .int .i64 0] 28)) (w.alloc (.cells #[.int .i64 0, .int .u32 0, .string ⟨#[]⟩, .slice none 0 0, .int .i64 0] 28)).drew := (Below.refl _ _).drew
  refine wp_region_lex2 (Below (w.heap.size + 1) (w.alloc (.cells #[.int .i64 0, .int .u32 0, .string ⟨#[]⟩, .slice none 0 0, .int .i64 0] 28))) [(0, true), (1, true), (7, true), (8, true), (9, true), (2, false), (3, true), (4, false), (5, true), (6, true), (10, true), (11, true)] (by kernel_rfl) (by kernel_rfl) (fun c a d v w h => by cases d <;> exact h) ?_
  iterate 5
    refine lex2_step (fun K hK => ?_)
    simp only [lexOp, List.getElem?_toArray, List.getElem?_cons_succ, List.getElem?_cons_zero]
    rw [if_pos (by rfl)]
    apply Exists.intro
    refine ⟨fun w' hS' => ?_, hSw, ?_⟩
    · first | (go_simp <;> with_reducible rfl) | (go_simp; go_bits; with_reducible rfl)
    go_simp
    try go_bits
    refine hK _ _ ?_
    clear hK K
  refine lex2_step (fun K hK => ?_)
  simp only [lexOp, List.getElem?_toArray, List.getElem?_cons_succ, List.getElem?_cons_zero]
  rw [if_pos (by rfl)]
  go_step
  refine (HM.out _ (HB.out.trans (hSw.mono (by omega)))).mono ?_
  rintro e w5 ⟨rfl, hb5⟩
  replace hSw : Below (w.heap.size + 1) (w.alloc (.cells #[.int .i64 0, .int .u32 0, .string ⟨#[]⟩, .slice none 0 0, .int .i64 0] 28)) w5 := hSw.trans (hb5.mono (by simp))
  have sz5 : w.heap.size + 1 ≤ w5.heap.size := by have := hSw.size; simpa using this
  clear hb5
  go_simp
  refine hK _ _ ?_
  clear hK K
  iterate 1
    refine lex2_step (fun K hK => ?_)
    simp only [lexOp, List.getElem?_toArray, List.getElem?_cons_succ, List.getElem?_cons_zero]
    rw [if_pos (by rfl)]
    apply Exists.intro
    refine ⟨fun w' hS' => ?_, hSw, ?_⟩
    · first | (go_simp <;> with_reducible rfl) | (go_simp; go_bits; with_reducible rfl)
    go_simp
    try go_bits
    refine hK _ _ ?_
    clear hK K
  refine lex2_step (fun K hK => ?_)
  simp only [lexOp, List.getElem?_toArray, List.getElem?_cons_succ, List.getElem?_cons_zero]
  rw [if_pos (by rfl)]
  go_step
  refine (Put_any _ none 0 0 [] cr 2 (Sl.nil _ _) (by omega) (by omega) (by omega) (by omega) (by omega)).mono ?_
  rintro e w6 ⟨v6, m6, rfl, hown, hb6⟩
  rw [List.nil_append, putB_two] at hown
  obtain rfl : m6 = 2 := by have h := hown.1; simp at h; omega
  obtain ⟨a6, c6, rfl, _, hc6⟩ := Sl.ofOwn hown
  obtain ⟨g6, rfl, _, _⟩ := own_addr hown (by omega)
  have hcell := own_cell hown 0 (by simp)
  rw [show encB ([UInt8.ofNat (cr / 256 % 256), UInt8.ofNat (cr % 256)][0]'(by simp)) = .int .u8 (x9 : Int) by
    show encB (UInt8.ofNat (cr / 256 % 256)) = _
    rw [← encB_num (cr / 256 % 256) (by omega), Nat.mod_eq_of_lt (by omega), h9]] at hcell
  have HC6 := Lib.hid hcell
  replace hSw : Below (w.heap.size + 1) (w.alloc (.cells #[.int .i64 0, .int .u32 0, .string ⟨#[]⟩, .slice none 0 0, .int .i64 0] 28)) w6 := hSw.trans (hb6.mono sz5)
  have H6 := Lib.hid (HB.out.trans (hSw.mono (by omega)))
  have K6 := Lib.hid (K0.out.belowB hSw (by omega))
  clear hown hb6 hcell h9 h10
  go_simp
  refine hK _ _ ?_
  clear hK K
  refine lex2_strong (Below w6.heap.size w6) (fun x h => hSw.trans (h.mono (by have := hSw.size; simpa using this))) ?_
  have ld6 : ∀ w', Below w6.heap.size w6 w' → w'.cell? ⟨g6, 0, none⟩ = some (.int .u8 (x9 : Int)) := fun w' h => by
    rw [h.cell (by assumption)]; exact HC6.out
  clear hSw ld9
  have hSw : Below w6.heap.size w6 w6 := Below.refl _ _
  iterate 4
    refine lex2_step (fun K hK => ?_)
    simp only [lexOp, List.getElem?_toArray, List.getElem?_cons_succ, List.getElem?_cons_zero]
    rw [if_pos (by rfl)]
    apply Exists.intro
    refine ⟨fun w' hS' => ?_, hSw, ?_⟩
    · first | (go_simp <;> with_reducible rfl) | (go_simp; go_bits; with_reducible rfl)
    go_simp
    try go_bits
    refine hK _ _ ?_
    clear hK K
  refine lex2_nil ?_
  clear ld6 hSw HC6 HC9 K0 sz5
  obtain ⟨h9, h10⟩ := HXX.out
  go_wp2_with fail
  have ld10 : ∀ w', Below w6.heap.size w6 w' → w'.cell? ⟨b, off + 10, none⟩ = some (.int .u8 (x10 : Int)) := fun w' h => by
    rw [(H6.out.trans (h.mono H6.out.size)).cell (by simpa using hlt)]; exact HC10.out
  have hSw : Below w6.heap.size w6 w6.drew := (Below.refl _ _).drew
  have hmod : (cr : Int) % 256 = ((cr % 256 : Nat) : Int) := by omega
  refine wp_region_lex (Below w6.heap.size w6) [(0, true), (1, true), (4, true), (5, true), (6, true), (2, false), (3, true), (7, true), (8, true)] (by kernel_rfl) (by kernel_rfl) (fun c a d v w h => by cases d <;> exact h) ?_
  iterate 5
    refine lex_step (fun K hK => ?_)
    simp only [lexOp, List.getElem?_toArray, List.getElem?_cons_succ, List.getElem?_cons_zero]
    rw [if_pos (by rfl)]
    apply Exists.intro
    refine ⟨fun w' hS' => ?_, hSw, ?_⟩
    · first | (go_simp <;> with_reducible rfl) | (go_simp; go_bits; with_reducible rfl)
    go_simp
    try go_bits
    refine hK _ _ ?_
    clear hK K
  refine lex_step (fun K hK => ?_)
  simp only [lexOp, List.getElem?_toArray, List.getElem?_cons_succ, List.getElem?_cons_zero]
  rw [if_pos (by rfl)]
  go_step
  refine (HM.out _ (H6.out.trans (hSw.mono H6.out.size))).mono ?_
  rintro e w7 ⟨rfl, hb7⟩
  replace hSw : Below w6.heap.size w6 w7 := hSw.trans (hb7.mono hSw.size)
  have H7 := Lib.hid (H6.out.trans (hSw.mono H6.out.size))
  have K7 := Lib.hid (K6.out.below hSw)
  clear hb7
  go_simp
  refine hK _ _ ?_
  clear hK K
  have e10 : ((cr % 256 : Nat) : Int) = (x10 : Int) := by omega
  rw [e10] at hmod
  clear h9 h10 HXX e10
  iterate 3
    refine lex_step (fun K hK => ?_)
    simp only [lexOp, List.getElem?_toArray, List.getElem?_cons_succ, List.getElem?_cons_zero]
    rw [if_pos (by rfl)]
    apply Exists.intro
    refine ⟨fun w' hS' => ?_, hSw, ?_⟩
    · first | (go_simp <;> with_reducible rfl) | (go_simp; go_bits; with_reducible rfl)
    go_simp
    try go_bits
    refine hK _ _ ?_
    clear hK K
  refine lex_nil ?_
  clear ld10 hSw hmod HC10 H6 K6 HM
  obtain ⟨kd, hkd⟩ : ∃ v, v = getN ((bs.drop 0).take 1) := ⟨_, rfl⟩
  obtain ⟨tx, htx⟩ : ∃ v, v = getN ((bs.drop 1).take 4) := ⟨_, rfl⟩
  obtain ⟨ky, hky⟩ : ∃ v, v = getN ((bs.drop 5).take 1) := ⟨_, rfl⟩
  obtain ⟨bl, hbl⟩ : ∃ v, v = getN ((bs.drop 6).take 2) := ⟨_, rfl⟩
  obtain ⟨ct, hct⟩ : ∃ v, v = getN ((bs.drop 8).take 1) := ⟨_, rfl⟩
  have lkd : kd < 256 := by rw [hkd]; exact getN_small bs 0 1
  have ltx : tx < 4294967296 := by rw [htx]; exact getN_small bs 1 4
  have lky : ky < 256 := by rw [hky]; exact getN_small bs 5 1
  have lbl : bl < 65536 := by rw [hbl]; exact getN_small bs 6 2
  have lct : ct < 256 := by rw [hct]; exact getN_small bs 8 1
  rw [← hkd, ← htx, ← hky, ← hbl, ← hct] at HR
  rw [← hky, ← hbl] at hsz
  obtain ⟨sm, hsm⟩ : ∃ v, sumN (bs.take (11 + ky + bl)) = v := ⟨_, rfl⟩
  obtain ⟨v4, hv4⟩ : ∃ v, getN ((bs.drop (11 + ky + bl)).take 4) = v := ⟨_, rfl⟩
  have lsm : sm < 4294967296 := by rw [← hsm]; exact sumN_lt _
  have lv4 : v4 < 4294967296 := by rw [← hv4]; exact getN_small bs _ 4
  rw [← hky, ← hbl, hsm, hv4] at hsum
  have HSM1 := Lib.hid hsm
  have HSM2 := Lib.hid hv4
  clear hsm hv4
  have ev1 : ((v4 : Int) == (sm : Int)) = false := eqi_no (by omega)
  have ev2 : ((v4 : Int) != (sm : Int)) = true := by simp; omega
  clear hsum
  rw [← hky, ← hbl]
  have KK := Lib.hid (And.intro hkd (And.intro htx (And.intro hky (And.intro hbl hct))))
  clear hkd htx hky hbl hct
  go_wp2_with fail
  have lt7 : w.heap.size < w7.heap.size := K7.out.lt
  have R8 := Lib.hid (show BlkR (w7.alloc (.cells #[.slice (some ⟨b, off, none⟩) n cap, .int .i64 0] 64)) w7.heap.size (some ⟨b, off, none⟩) n cap ((0 : Nat) : Int) from heap_alloc_last w7 _)
  have hb8 : Below w7.heap.size w7 (w7.alloc (.cells #[.slice (some ⟨b, off, none⟩) n cap, .int .i64 0] 64)) := (Below.refl _ _).alloc (Nat.le_refl _) _
  have H8 := Lib.hid (H7.out.trans (hb8.mono (by omega)))
  have K8 := Lib.hid (K7.out.belowB hb8 lt7)
  clear hb8 H7 K7
  refine (next_any _ w7.heap.size (some ⟨b, off, none⟩) n cap bs 0 1 R8.out (HE.out.below H8.out) hcap (by omega) (by omega) (by omega) (by omega)).mono ?_
  rw [← KK.out.1]
  rintro e w9 ⟨rfl, hRT⟩
  obtain ⟨hr1, hb1, hh1⟩ := hRT
  have R9 := Lib.hid (show BlkR w9 w7.heap.size (some ⟨b, off, none⟩) n cap ((1 : Nat) : Int) from hr1)
  have H9 := Lib.hid (H8.out.trans (hb1.mono (by omega)))
  have K9 := Lib.hid (K8.out.belowB hb1 (by omega))
  have G9 : w7.heap.size < w9.heap.size := R9.out.lt
  clear hr1 hb1 hh1 R8 H8 K8
  go_wp2_with fail
  refine (next_any _ w7.heap.size (some ⟨b, off, none⟩) n cap bs 1 4 R9.out (HE.out.below H9.out) hcap (by omega) (by omega) (by omega) (by omega)).mono ?_
  rw [← KK.out.2.1]
  rintro e w10 ⟨rfl, hRT⟩
  obtain ⟨hr1, hb1, hh1⟩ := hRT
  have R10 := Lib.hid (show BlkR w10 w7.heap.size (some ⟨b, off, none⟩) n cap ((5 : Nat) : Int) from hr1)
  have H10 := Lib.hid (H9.out.trans (hb1.mono (by omega)))
  have K10 := Lib.hid (K9.out.belowB hb1 (by omega))
  have G10 : w7.heap.size < w10.heap.size := R10.out.lt
  clear hr1 hb1 hh1 R9 H9 K9
  go_wp2_with fail
  have hb11 : Below w10.heap.size w10 (w10.alloc (.cells #[.int .i64 kd, .int .u32 tx, .string ⟨#[]⟩, .slice none 0 0, .int .i64 0] 28)) := (Below.refl _ _).alloc (Nat.le_refl _) _
  have X11 := Lib.hid (show Blk5 (w10.alloc (.cells #[.int .i64 kd, .int .u32 tx, .string ⟨#[]⟩, .slice none 0 0, .int .i64 0] 28)) w10.heap.size (.int .i64 kd) (.int .u32 tx) (.string ⟨#[]⟩) (.slice none 0 0) (.int .i64 0) 28 from heap_alloc_last w10 _)
  have R11 := Lib.hid (R10.out.below hb11)
  have H11 := Lib.hid (H10.out.trans (hb11.mono H10.out.size))
  have K11 := Lib.hid (K10.out.below hb11)
  have lt10 := G10
  clear hb11 H10 K10 R10
  refine (next_any _ w7.heap.size (some ⟨b, off, none⟩) n cap bs 5 1 R11.out (HE.out.below H11.out) hcap (by omega) (by omega) (by omega) (by omega)).mono ?_
  rw [← KK.out.2.2.1]
  rintro e w12 ⟨rfl, hRT⟩
  obtain ⟨hr1, hb1, hh1⟩ := hRT
  have R12 := Lib.hid (show BlkR w12 w7.heap.size (some ⟨b, off, none⟩) n cap ((6 : Nat) : Int) from hr1)
  have H12 := Lib.hid (H11.out.trans (hb1.mono (by omega)))
  have K12 := Lib.hid (K11.out.belowB hb1 (by omega))
  have X12 := Lib.hid (X11.out.eq (hh1 _ (by omega) X11.out.lt))
  have G12 : w7.heap.size < w12.heap.size := R12.out.lt
  clear hr1 hb1 hh1 R11 H11 K11 X11
  go_wp2_with fail
  refine (next_any _ w7.heap.size (some ⟨b, off, none⟩) n cap bs 6 2 R12.out (HE.out.below H12.out) hcap (by omega) (by omega) (by omega) (by omega)).mono ?_
  rw [← KK.out.2.2.2.1]
  rintro e w13 ⟨rfl, hRT⟩
  obtain ⟨hr1, hb1, hh1⟩ := hRT
  have R13 := Lib.hid (show BlkR w13 w7.heap.size (some ⟨b, off, none⟩) n cap ((8 : Nat) : Int) from hr1)
  have H13 := Lib.hid (H12.out.trans (hb1.mono (by omega)))
  have K13 := Lib.hid (K12.out.belowB hb1 (by omega))
  have X13 := Lib.hid (X12.out.eq (hh1 _ (by omega) X12.out.lt))
  have G13 : w7.heap.size < w13.heap.size := R13.out.lt
  clear hr1 hb1 hh1 R12 H12 K12 X12
  go_wp2_with fail
  refine (next_any _ w7.heap.size (some ⟨b, off, none⟩) n cap bs 8 1 R13.out (HE.out.below H13.out) hcap (by omega) (by omega) (by omega) (by omega)).mono ?_
  rw [← KK.out.2.2.2.2]
  rintro e w14 ⟨rfl, hRT⟩
  obtain ⟨hr1, hb1, hh1⟩ := hRT
  have R14 := Lib.hid (show BlkR w14 w7.heap.size (some ⟨b, off, none⟩) n cap ((9 : Nat) : Int) from hr1)
  have H14 := Lib.hid (H13.out.trans (hb1.mono (by omega)))
  have K14 := Lib.hid (K13.out.belowB hb1 (by omega))
  have X14 := Lib.hid (X13.out.eq (hh1 _ (by omega) X13.out.lt))
  have G14 : w7.heap.size < w14.heap.size := R14.out.lt
  clear hr1 hb1 hh1 R13 H13 K13 X13
  obtain ⟨q0, q1, q2, q3, q4, s0, s1, s2, s3, s4, lt14⟩ := X14.out.box
  go_wp2_with fail
  have hne1 : w.heap.size ≠ w10.heap.size := by omega
  have hne2 : w7.heap.size ≠ w10.heap.size := by omega
  have K15 := Lib.hid (K14.out.other (o := 4) (v := .int .i64 ct) hne1)
  have R15 := Lib.hid (R14.out.other (o := 4) (v := .int .i64 ct) hne2)
  have X15 := Lib.hid (X14.out.set4 (v' := .int .i64 ct))
  have H15 := Lib.hid (H14.out.setCell (p := ⟨w10.heap.size, 4, none⟩) (by show w.heap.size ≤ w10.heap.size; omega) (.int .i64 ct))
  clear K14 R14 X14 H14 q0 q1 q2 q3 q4 s0 s1 s2 s3 s4 lt14
  refine (right5_any _ kd tx ⟨#[]⟩ none 0 0 ct ky bl (by unfold IntR; omega) (by omega) (by unfold IntR; omega) (by omega) (by omega)).mono ?_
  rw [HR.out]
  rintro e w16 ⟨rfl, hb16⟩
  have K16 := Lib.hid (K15.out.below hb16)
  have R16 := Lib.hid (R15.out.below hb16)
  have X16 := Lib.hid (X15.out.below hb16)
  have H16 := Lib.hid (H15.out.trans (hb16.mono H15.out.size))
  clear hb16 K15 R15 X15 H15
  have esz := decide_eq_false (show ¬ (n : Int) < 11 + (ky : Int) + (bl : Int) + 5 by omega)
  go_wp2_with fail
  refine (next_any _ w7.heap.size (some ⟨b, off, none⟩) n cap bs 9 2 R16.out (HE.out.below H16.out) hcap (by omega) (by omega) (by omega) (by omega)).mono ?_
  generalize getN ((bs.drop 9).take 2) = dummy
  rintro e w17 ⟨rfl, hr1, hb1, hh1⟩
  have R17 := Lib.hid (show BlkR w17 w7.heap.size (some ⟨b, off, none⟩) n cap ((11 : Nat) : Int) from hr1)
  have H17 := Lib.hid (H16.out.trans (hb1.mono (by omega)))
  have K17 := Lib.hid (K16.out.belowB hb1 (by omega))
  have G16 := X16.out.lt
  have X17 := Lib.hid (X16.out.eq (hh1 _ (by omega) X16.out.lt))
  clear hr1 hb1 hh1 R16 H16 K16 X16
  go_wp2_with fail
  refine (take_any _ w7.heap.size b off n cap 11 ky R17.out hcap (by omega) (by omega) (by omega)).mono ?_
  rintro e w18 ⟨rfl, hr1, hb1, hh1⟩
  have R18 := Lib.hid (show BlkR w18 w7.heap.size (some ⟨b, off, none⟩) n cap ((11 + ky : Nat) : Int) from by have h := hr1; rwa [← Int.natCast_add] at h)
  have H18 := Lib.hid (H17.out.trans (hb1.mono (by omega)))
  have K18 := Lib.hid (K17.out.belowB hb1 (by omega))
  have G17 := X17.out.lt
  have X18 := Lib.hid (X17.out.eq (hh1 _ (by omega) X17.out.lt))
  clear hr1 hb1 hh1 R17 H17 K17 X17
  have q1 := run_conv (part5 (f := 11) (n := ky) (HE.out.below H18.out) (by omega) (by omega)) (cap - 11)
  generalize hkb : (bs.drop 11).take ky = kb at q1
  have HKB := Lib.hid hkb
  clear hkb
  obtain ⟨p0, p1, p2, p3, p4, f0, f1, f2, f3, f4, lt1⟩ := X18.out.box
  go_wp2_with fail
  have K19 := Lib.hid (K18.out.other (o := 2) (v := .string ⟨kb.toArray⟩) hne1)
  have R19 := Lib.hid (R18.out.other (o := 2) (v := .string ⟨kb.toArray⟩) hne2)
  have X19 := Lib.hid (X18.out.set2 (v' := .string ⟨kb.toArray⟩))
  have H19 := Lib.hid (H18.out.setCell (p := ⟨w10.heap.size, 2, none⟩) (by show w.heap.size ≤ w10.heap.size; omega) (.string ⟨kb.toArray⟩))
  clear K18 R18 X18 H18 q1 p0 p1 p2 p3 p4 f0 f1 f2 f3 f4 lt1
  refine (take_any _ w7.heap.size b off n cap (11 + ky) bl R19.out hcap (by omega) (by omega) (by omega)).mono ?_
  rintro e w20 ⟨rfl, hr1, hb1, hh1⟩
  have R20 := Lib.hid (show BlkR w20 w7.heap.size (some ⟨b, off, none⟩) n cap ((11 + ky + bl : Nat) : Int) from by have h := hr1; rwa [← Int.natCast_add] at h)
  have H20 := Lib.hid (H19.out.trans (hb1.mono (by omega)))
  have K20 := Lib.hid (K19.out.belowB hb1 (by omega))
  have G19 := X19.out.lt
  have X20 := Lib.hid (X19.out.eq (hh1 _ (by omega) X19.out.lt))
  clear hr1 hb1 hh1 R19 H19 K19 X19
  have hsb := part5 (f := 11 + ky) (n := bl) (HE.out.below H20.out) (by omega) (by omega)
  generalize hbb : (bs.drop (11 + ky)).take bl = bb at hsb
  have HBB := Lib.hid hbb
  have HSB := Lib.hid hsb
  clear hbb hsb
  go_wp2_with fail
  refine (Clone_any _ (some ⟨b, off + (11 + ky), none⟩) bl (cap - (11 + ky)) bb HSB.out (by omega)).mono ?_
  rintro e w21 ⟨v21, m21, rfl, hown, hb1⟩
  obtain ⟨a21, c21, rfl, hsl, hc21⟩ := Sl.ofOwn hown
  have K21 := Lib.hid (K20.out.below hb1)
  have R21 := Lib.hid (R20.out.below hb1)
  have X21 := Lib.hid (X20.out.below hb1)
  have H21 := Lib.hid (H20.out.trans (hb1.mono H20.out.size))
  have G20 := X20.out.lt
  have O21 := Lib.hid hown
  clear hown hsl hb1 K20 R20 X20 H20
  obtain ⟨p0, p1, p2, p3, p4, f0, f1, f2, f3, f4, lt1⟩ := X21.out.box
  obtain ⟨r0, r1, _, _⟩ := R21.out.cells
  have b1 : (0 : Int) ≤ 11 + (ky : Int) + (bl : Int) := by omega
  have b2 : 11 + (ky : Int) + (bl : Int) ≤ (cap : Int) := by omega
  have r1' : w21.cell? ⟨w7.heap.size, 1, none⟩ = some (.int .i64 (11 + (ky : Int) + (bl : Int))) := by rw [r1]; push_cast; rfl
  clear r1
  have K22 := Lib.hid (K21.out.other (o := 3) (v := .slice a21 m21 c21) hne1)
  have R22 := Lib.hid (R21.out.other (o := 3) (v := .slice a21 m21 c21) hne2)
  have X22 := Lib.hid (X21.out.set3 (v' := .slice a21 m21 c21))
  have H22 := Lib.hid (H21.out.setCell (p := ⟨w10.heap.size, 3, none⟩) (by show w.heap.size ≤ w10.heap.size; omega) (.slice a21 m21 c21))
  have O22 := Lib.hid (ownsRow_setCell_below O21.out (a := ⟨w10.heap.size, 3, none⟩) (by show w10.heap.size < w20.heap.size; omega) (.slice a21 m21 c21))
  go_wp2_with fail
  have HS22 := (HE.out.below H22.out).take (j := 11 + ky + bl) (by omega)
  clear K21 R21 X21 H21 O21 p0 p1 p2 p3 p4 f0 f1 f2 f3 f4 lt1 r0 r1'
  refine (Sum32_n _ (some ⟨b, off, none⟩) (11 + ky + bl) cap _ HS22 (by omega)).mono ?_
  rw [HSM1.out]
  rintro e w23 ⟨rfl, hb1⟩
  have K23 := Lib.hid (K22.out.below hb1)
  have R23 := Lib.hid (R22.out.below hb1)
  have X23 := Lib.hid (X22.out.below hb1)
  have H23 := Lib.hid (H22.out.trans (hb1.mono H22.out.size))
  have O23 := Lib.hid (own_below O22.out hb1)
  clear hb1 K22 R22 X22 H22 O22 HS22
  go_wp2_with fail
  refine (next_any _ w7.heap.size (some ⟨b, off, none⟩) n cap bs (11 + ky + bl) 4 R23.out (HE.out.below H23.out) hcap (by omega) (by omega) (by omega) (by omega)).mono ?_
  rw [HSM2.out]
  rintro e w24 ⟨rfl, hr1, hb1, hh1⟩
  have R24 := Lib.hid (show BlkR w24 w7.heap.size (some ⟨b, off, none⟩) n cap ((11 + ky + bl + 4 : Nat) : Int) from by have h := hr1; rwa [← Int.natCast_add] at h)
  have H24 := Lib.hid (H23.out.trans (hb1.mono (by omega)))
  have K24 := Lib.hid (K23.out.belowB hb1 (by omega))
  have G23 := X23.out.lt
  have X24 := Lib.hid (X23.out.eq (hh1 _ (by omega) X23.out.lt))
  clear hr1 hb1 hh1 R23 H23 K23 X23 O23 R24 X24
  obtain ⟨p0, p1, p2, p3, p4, f0, f1, f2, f3, f4, lt1⟩ := K24.out.box
  go_wp2_with fail
  have K25 := Lib.hid (K24.out.set (x' := .int .i64 0) (y' := .int .u32 0) (z' := .string ⟨#[]⟩) (u' := .slice none 0 0) (v' := .int .i64 0))
  have H25 := Lib.hid (H24.out.trans (keep55 w.heap.size w24 (.int .i64 0) (.int .u32 0) (.string ⟨#[]⟩) (.slice none 0 0) (.int .i64 0)))
  exact bodyPost_ret (results_cell_row_tmp3 rfl _ _ w.heap.size _ _ _ _ rfl K25.out Try.underlying28 rfl infoRec) rfl ⟨by first | rfl | (rw [← KK.out.2.2.1, ← KK.out.2.2.2.1]; rfl), H25.out⟩
end Go.Proofs.Ytechkdnoekffmaa
