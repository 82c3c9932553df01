/- rec: Parse behind its first sum. No condition. -/
import Derived.Test.YtechkdnoekffmaaQ04ScanTorn
namespace Go.Proofs.Ytechkdnoekffmaa
open Go.ChangeShapes Go.WideShapes Go.ChangeAt Go.RowKit
theorem Blk5.eq {w w' : World} {g : Nat} {x y z u v : Value} {t : TypeId} (h : Blk5 w g x y z u v t) (he : w'.heap[g]? = w.heap[g]?) : Blk5 w' g x y z u v t := by
  unfold Blk5; rw [he]; exact h
theorem Blk5.other {w : World} {g h o : Nat} {x y z u v v0 : Value} {t : TypeId} (k : Blk5 w g x y z u v0 t) (hne : g ≠ h) : Blk5 (w.setCell ⟨h, o, none⟩ v) g x y z u v0 t := by
  unfold Blk5 World.setCell
  have hne' : ¬ h = g := fun e => hne e.symm
  simp [Array.getElem?_modify, hne']
  exact k
theorem BlkR.other {w : World} {g h o : Nat} {v : Value} {a : Option Addr} {n cap : Nat} {i : Int} (k : BlkR w g a n cap i) (hne : g ≠ h) : BlkR (w.setCell ⟨h, o, none⟩ v) g a n cap i := by
  unfold BlkR World.setCell
  have hne' : ¬ h = g := fun e => hne e.symm
  simp [Array.getElem?_modify, hne']
  exact k
theorem Blk5.set4 {w : World} {g : Nat} {x y z u v v' : Value} {t : TypeId} (h : Blk5 w g x y z u v t) : Blk5 (w.setCell ⟨g, 4, none⟩ v') g x y z u v' t := heap_set5 h 4 v'
theorem Blk5.set3 {w : World} {g : Nat} {x y z u v v' : Value} {t : TypeId} (h : Blk5 w g x y z u v t) : Blk5 (w.setCell ⟨g, 3, none⟩ v') g x y z v' v t := heap_set5 h 3 v'
theorem Blk5.set2 {w : World} {g : Nat} {x y z u v v' : Value} {t : TypeId} (h : Blk5 w g x y z u v t) : Blk5 (w.setCell ⟨g, 2, none⟩ v') g x y v' u v t := heap_set5 h 2 v'
theorem getN_small (bs : List UInt8) (i k : Nat) : getN ((bs.drop i).take k) < 256 ^ k := by
  have h1 := getN_lt ((bs.drop i).take k)
  have h2 : 256 ^ ((bs.drop i).take k).length ≤ 256 ^ k := Nat.pow_le_pow_right (by decide) (by simp; omega)
  omega
set_option maxRecDepth 100000 in
set_option maxHeartbeats 8000000 in
theorem Parse_sum2 (w : World) (a : Option Addr) (n cap : Nat) (bs : List UInt8) (hs : Sl encB w a n bs) (hn : n ≤ 65536) (hcap : n ≤ cap) (h1 : bs.getD 0 0 ≠ 255) (h : 11 ≤ n) (h9 : crcN (bs.take 9) / 256 = (bs.getD 9 0).toNat) (h10 : crcN (bs.take 9) % 256 ≠ (bs.getD 10 0).toNat) :
    Calls Try.prog 15 #[.slice a n cap] w (ParseNo 0 7 w) := by
  have K0 := Lib.hid (show Blk5 (w.alloc (.cells #[.int .i64 0, .int .u32 0, .string ⟨#[]⟩, .slice none 0 0, .int .i64 0] 28)) w.heap.size (.int .i64 0) (.int .u32 0) (.string ⟨#[]⟩) (.slice none 0 0) (.int .i64 0) 28 from heap_alloc_last w _)
  have HB := Lib.hid ((Below.refl w.heap.size w).alloc (Nat.le_refl _) (.cells #[.int .i64 0, .int .u32 0, .string ⟨#[]⟩, .slice none 0 0, .int .i64 0] 28))
  obtain ⟨b, off, rfl, hlt, c0, e255, hcell⟩ := first_cell hs (by omega) h1
  have c9 := hcell 9 (by omega)
  have c10 := hcell 10 (by omega)
  have HE := Lib.hid hs
  have HS9 := Lib.hid (hs.take (j := 9) (by omega))
  have hcr := crcN_lt (bs.take 9)
  have hM := fun w' (hb : Below w.heap.size w w') => Sum16_n w' (some ⟨b, off, none⟩) 9 cap (bs.take 9) (HS9.out.below hb) (by omega)
  have HXX := Lib.hid (And.intro h9 h10)
  generalize ((bs.getD 0 0).toNat : Int) = x0 at c0 e255
  have hx9 := u8_lt (bs.getD 9 0)
  have hx10 := u8_lt (bs.getD 10 0)
  generalize (bs.getD 9 0).toNat = x9 at c9 hx9 h9 HXX
  generalize (bs.getD 10 0).toNat = x10 at c10 hx10 h10 HXX
  generalize crcN (bs.take 9) = cr at hcr hM h9 h10 HXX
  have HM := Lib.hid hM
  have HC9 := Lib.hid c9
  have HC10 := Lib.hid c10
  have g1 : (0 : Int) < (n : Int) := by omega
  have g2 : (9 : Int) ≤ (cap : Int) := by omega
  have g3 : (9 : Int) < (n : Int) := by omega
  have g4 : (10 : Int) < (n : Int) := by omega
  have e0 : ((n : Int) == 0) = false := eqi_no (by omega)
  clear h1 hs hcell hM c9 c10
  go_enter Try.func15, Try.ntmps15
  go_wp2_with fail
  have ld9 : ∀ w', Below (w.heap.size + 1) (w.alloc (.cells #[.int .i64 0, .int .u32 0, .string ⟨#[]⟩, .slice none 0 0, .int .i64 0] 28)) w' → w'.cell? ⟨b, off + 9, none⟩ = some (.int .u8 (x9 : Int)) := fun w' h => by
    rw [(HB.out.trans (h.mono (by simp))).cell (by simpa using hlt)]; exact HC9.out
  have hSw : Below (w.heap.size + 1) (w.alloc (.cells #[.int .i64 0, .int .u32 0, .string ⟨#[]⟩, .slice none 0 0, .int .i64 0] 28)) (w.alloc (.cells #[.int .i64 0, .int .u32 0, .string ⟨#[]⟩, .slice none 0 0, .int .i64 0] 28)).drew := (Below.refl _ _).drew
  refine wp_region_lex2 (Below (w.heap.size + 1) (w.alloc (.cells #[.int .i64 0, .int .u32 0, .string ⟨#[]⟩, .slice none 0 0, .int .i64 0] 28))) [(0, true), (1, true), (7, true), (8, true), (9, true), (2, false), (3, true), (4, false), (5, true), (6, true), (10, true), (11, true)] (by kernel_rfl) (by kernel_rfl) (fun c a d v w h => by cases d <;> exact h) ?_
  iterate 5
    refine lex2_step (fun K hK => ?_)
    simp only [lexOp, List.getElem?_toArray, List.getElem?_cons_succ, List.getElem?_cons_zero]
    rw [if_pos (by rfl)]
    apply Exists.intro
    refine ⟨fun w' hS' => ?_, hSw, ?_⟩
    · first | (go_simp <;> with_reducible rfl) | (go_simp; go_bits; with_reducible rfl)
    go_simp
    try go_bits
    refine hK _ _ ?_
    clear hK K
  refine lex2_step (fun K hK => ?_)
  simp only [lexOp, List.getElem?_toArray, List.getElem?_cons_succ, List.getElem?_cons_zero]
  rw [if_pos (by rfl)]
  go_step
  refine (HM.out _ (HB.out.trans (hSw.mono (by omega)))).mono ?_
  rintro e w5 ⟨rfl, hb5⟩
  replace hSw : Below (w.heap.size + 1) (w.alloc (.cells #[.int .i64 0, .int .u32 0, .string ⟨#[]⟩, .slice none 0 0, .int .i64 0] 28)) w5 := hSw.trans (hb5.mono (by simp))
  have sz5 : w.heap.size + 1 ≤ w5.heap.size := by have := hSw.size; simpa using this
  clear hb5
  go_simp
  refine hK _ _ ?_
  clear hK K
  iterate 1
    refine lex2_step (fun K hK => ?_)
    simp only [lexOp, List.getElem?_toArray, List.getElem?_cons_succ, List.getElem?_cons_zero]
    rw [if_pos (by rfl)]
    apply Exists.intro
    refine ⟨fun w' hS' => ?_, hSw, ?_⟩
    · first | (go_simp <;> with_reducible rfl) | (go_simp; go_bits; with_reducible rfl)
    go_simp
    try go_bits
    refine hK _ _ ?_
    clear hK K
  refine lex2_step (fun K hK => ?_)
  simp only [lexOp, List.getElem?_toArray, List.getElem?_cons_succ, List.getElem?_cons_zero]
  rw [if_pos (by rfl)]
  go_step
  refine (Put_any _ none 0 0 [] cr 2 (Sl.nil _ _) (by omega) (by omega) (by omega) (by omega) (by omega)).mono ?_
  rintro e w6 ⟨v6, m6, rfl, hown, hb6⟩
  rw [List.nil_append, putB_two] at hown
  obtain rfl : m6 = 2 := by have h := hown.1; simp at h; omega
  obtain ⟨a6, c6, rfl, _, hc6⟩ := Sl.ofOwn hown
  obtain ⟨g6, rfl, _, _⟩ := own_addr hown (by omega)
  have hcell := own_cell hown 0 (by simp)
  rw [show encB ([UInt8.ofNat (cr / 256 % 256), UInt8.ofNat (cr % 256)][0]'(by simp)) = .int .u8 (x9 : Int) by
    show encB (UInt8.ofNat (cr / 256 % 256)) = _
    rw [← encB_num (cr / 256 % 256) (by omega), Nat.mod_eq_of_lt (by omega), h9]] at hcell
  have HC6 := Lib.hid hcell
  replace hSw : Below (w.heap.size + 1) (w.alloc (.cells #[.int .i64 0, .int .u32 0, .string ⟨#[]⟩, .slice none 0 0, .int .i64 0] 28)) w6 := hSw.trans (hb6.mono sz5)
  have H6 := Lib.hid (HB.out.trans (hSw.mono (by omega)))
  have K6 := Lib.hid (K0.out.belowB hSw (by omega))
  clear hown hb6 hcell h9 h10
  go_simp
  refine hK _ _ ?_
  clear hK K
  refine lex2_strong (Below w6.heap.size w6) (fun x h => hSw.trans (h.mono (by have := hSw.size; simpa using this))) ?_
  have ld6 : ∀ w', Below w6.heap.size w6 w' → w'.cell? ⟨g6, 0, none⟩ = some (.int .u8 (x9 : Int)) := fun w' h => by
    rw [h.cell (by assumption)]; exact HC6.out
  clear hSw ld9
  have hSw : Below w6.heap.size w6 w6 := Below.refl _ _
  iterate 4
    refine lex2_step (fun K hK => ?_)
    simp only [lexOp, List.getElem?_toArray, List.getElem?_cons_succ, List.getElem?_cons_zero]
    rw [if_pos (by rfl)]
    apply Exists.intro
    refine ⟨fun w' hS' => ?_, hSw, ?_⟩
    · first | (go_simp <;> with_reducible rfl) | (go_simp; go_bits; with_reducible rfl)
    go_simp
    try go_bits
    refine hK _ _ ?_
    clear hK K
  refine lex2_nil ?_
  clear ld6 hSw HC6 HC9 K0 sz5
  obtain ⟨h9, h10⟩ := HXX.out
  go_wp2_with fail
  have ld10 : ∀ w', Below w6.heap.size w6 w' → w'.cell? ⟨b, off + 10, none⟩ = some (.int .u8 (x10 : Int)) := fun w' h => by
    rw [(H6.out.trans (h.mono H6.out.size)).cell (by simpa using hlt)]; exact HC10.out
  have hSw : Below w6.heap.size w6 w6.drew := (Below.refl _ _).drew
  have hmod : (cr : Int) % 256 = ((cr % 256 : Nat) : Int) := by omega
  refine wp_region_lex (Below w6.heap.size w6) [(0, true), (1, true), (4, true), (5, true), (6, true), (2, false), (3, true), (7, true), (8, true)] (by kernel_rfl) (by kernel_rfl) (fun c a d v w h => by cases d <;> exact h) ?_
  iterate 5
    refine lex_step (fun K hK => ?_)
    simp only [lexOp, List.getElem?_toArray, List.getElem?_cons_succ, List.getElem?_cons_zero]
    rw [if_pos (by rfl)]
    apply Exists.intro
    refine ⟨fun w' hS' => ?_, hSw, ?_⟩
    · first | (go_simp <;> with_reducible rfl) | (go_simp; go_bits; with_reducible rfl)
    go_simp
    try go_bits
    refine hK _ _ ?_
    clear hK K
  refine lex_step (fun K hK => ?_)
  simp only [lexOp, List.getElem?_toArray, List.getElem?_cons_succ, List.getElem?_cons_zero]
  rw [if_pos (by rfl)]
  go_step
  refine (HM.out _ (H6.out.trans (hSw.mono H6.out.size))).mono ?_
  rintro e w7 ⟨rfl, hb7⟩
  replace hSw : Below w6.heap.size w6 w7 := hSw.trans (hb7.mono hSw.size)
  have H7 := Lib.hid (H6.out.trans (hSw.mono H6.out.size))
  have K7 := Lib.hid (K6.out.below hSw)
  clear hb7
  go_simp
  refine hK _ _ ?_
  clear hK K
  have e10 : ((cr % 256 : Nat) : Int) ≠ (x10 : Int) := by omega
  generalize cr % 256 = r10 at hmod e10
  have e10a : ((r10 : Int) == (x10 : Int)) = false := eqi_no e10
  have e10b : ((r10 : Int) != (x10 : Int)) = true := by simpa using e10
  clear h9 h10 HXX e10
  iterate 3
    refine lex_step (fun K hK => ?_)
    simp only [lexOp, List.getElem?_toArray, List.getElem?_cons_succ, List.getElem?_cons_zero]
    rw [if_pos (by rfl)]
    apply Exists.intro
    refine ⟨fun w' hS' => ?_, hSw, ?_⟩
    · first | (go_simp <;> with_reducible rfl) | (go_simp; go_bits; with_reducible rfl)
    go_simp
    try go_bits
    refine hK _ _ ?_
    clear hK K
  refine lex_nil ?_
  clear ld10 hSw
  obtain ⟨p0, p1, p2, p3, p4, f0, f1, f2, f3, f4, lt1⟩ := K7.out.box
  go_wp2_with fail
  have K8 := Lib.hid (K7.out.set (x' := .int .i64 0) (y' := .int .u32 0) (z' := .string ⟨#[]⟩) (u' := .slice none 0 0) (v' := .int .i64 0))
  have H8 := Lib.hid (H7.out.trans (keep55 w.heap.size w7 (.int .i64 0) (.int .u32 0) (.string ⟨#[]⟩) (.slice none 0 0) (.int .i64 0)))
  exact bodyPost_ret (results_cell_row_tmp3 rfl _ _ w.heap.size _ _ _ _ rfl K8.out Try.underlying28 rfl infoRec) rfl ⟨rfl, H8.out⟩
set_option maxRecDepth 100000 in
set_option maxHeartbeats 8000000 in
theorem Parse_form (w : World) (a : Option Addr) (n cap : Nat) (bs : List UInt8) (hs : Sl encB w a n bs) (hn : n ≤ 65536) (hcap : n ≤ cap) (h1 : bs.getD 0 0 ≠ 255) (h : 11 ≤ n) (h9 : crcN (bs.take 9) / 256 = (bs.getD 9 0).toNat) (h10 : crcN (bs.take 9) % 256 = (bs.getD 10 0).toNat) (hr : recOk (getN ((bs.drop 0).take 1)) (getN ((bs.drop 1).take 4)) (getN ((bs.drop 5).take 1)) (getN ((bs.drop 6).take 2)) (getN ((bs.drop 8).take 1)) = false) :
    Calls Try.prog 15 #[.slice a n cap] w (ParseNo 0 8 w) := by
  have HR := Lib.hid hr
  clear hr
  have K0 := Lib.hid (show Blk5 (w.alloc (.cells #[.int .i64 0, .int .u32 0, .string ⟨#[]⟩, .slice none 0 0, .int .i64 0] 28)) w.heap.size (.int .i64 0) (.int .u32 0) (.string ⟨#[]⟩) (.slice none 0 0) (.int .i64 0) 28 from heap_alloc_last w _)
  have HB := Lib.hid ((Below.refl w.heap.size w).alloc (Nat.le_refl _) (.cells #[.int .i64 0, .int .u32 0, .string ⟨#[]⟩, .slice none 0 0, .int .i64 0] 28))
  obtain ⟨b, off, rfl, hlt, c0, e255, hcell⟩ := first_cell hs (by omega) h1
  have c9 := hcell 9 (by omega)
  have c10 := hcell 10 (by omega)
  have HE := Lib.hid hs
  have HS9 := Lib.hid (hs.take (j := 9) (by omega))
  have hcr := crcN_lt (bs.take 9)
  have hM := fun w' (hb : Below w.heap.size w w') => Sum16_n w' (some ⟨b, off, none⟩) 9 cap (bs.take 9) (HS9.out.below hb) (by omega)
  have HXX := Lib.hid (And.intro h9 h10)
  generalize ((bs.getD 0 0).toNat : Int) = x0 at c0 e255
  have hx9 := u8_lt (bs.getD 9 0)
  have hx10 := u8_lt (bs.getD 10 0)
  generalize (bs.getD 9 0).toNat = x9 at c9 hx9 h9 HXX
  generalize (bs.getD 10 0).toNat = x10 at c10 hx10 h10 HXX
  generalize crcN (bs.take 9) = cr at hcr hM h9 h10 HXX
  have HM := Lib.hid hM
  have HC9 := Lib.hid c9
  have HC10 := Lib.hid c10
  have g1 : (0 : Int) < (n : Int) := by omega
  have g2 : (9 : Int) ≤ (cap : Int) := by omega
  have g3 : (9 : Int) < (n : Int) := by omega
  have g4 : (10 : Int) < (n : Int) := by omega
  have e0 : ((n : Int) == 0) = false := eqi_no (by omega)
  clear h1 hs hcell hM c9 c10
  go_enter Try.func15, Try.ntmps15
  go_wp2_with fail
  have ld9 : ∀ w', Below (w.heap.size + 1) (w.alloc (.cells #[.int .i64 0, .int .u32 0, .string ⟨#[]⟩, .slice none 0 0, .int .i64 0] 28)) w' → w'.cell? ⟨b, off + 9, none⟩ = some (.int .u8 (x9 : Int)) := fun w' h => by
    rw [(HB.out.trans (h.mono (by simp))).cell (by simpa using hlt)]; exact HC9.out
  have hSw : Below (w.heap.size + 1) (w.alloc (.cells #[.int .i64 0, .int .u32 0, .string ⟨#[]⟩, .slice none 0 0, .int .i64 0] 28)) (w.alloc (.cells #[.int .i64 0, .int .u32 0, .string ⟨#[]⟩, .slice none 0 0, .int .i64 0] 28)).drew := (Below.refl _ _).drew
  refine wp_region_lex2 (Below (w.heap.size + 1) (w.alloc (.cells #[.int .i64 0, .int .u32 0, .string ⟨#[]⟩, .slice none 0 0, .int .i64 0] 28))) [(0, true), (1, true), (7, true), (8, true), (9, true), (2, false), (3, true), (4, false), (5, true), (6, true), (10, true), (11, true)] (by kernel_rfl) (by kernel_rfl) (fun c a d v w h => by cases d <;> exact h) ?_
  iterate 5
    refine lex2_step (fun K hK => ?_)
    simp only [lexOp, List.getElem?_toArray, List.getElem?_cons_succ, List.getElem?_cons_zero]
    rw [if_pos (by rfl)]
    apply Exists.intro
    refine ⟨fun w' hS' => ?_, hSw, ?_⟩
    · first | (go_simp <;> with_reducible rfl) | (go_simp; go_bits; with_reducible rfl)
    go_simp
    try go_bits
    refine hK _ _ ?_
    clear hK K
  refine lex2_step (fun K hK => ?_)
  simp only [lexOp, List.getElem?_toArray, List.getElem?_cons_succ, List.getElem?_cons_zero]
  rw [if_pos (by rfl)]
  go_step
  refine (HM.out _ (HB.out.trans (hSw.mono (by omega)))).mono ?_
  rintro e w5 ⟨rfl, hb5⟩
  replace hSw : Below (w.heap.size + 1) (w.alloc (.cells #[.int .i64 0, .int .u32 0, .string ⟨#[]⟩, .slice none 0 0, .int .i64 0] 28)) w5 := hSw.trans (hb5.mono (by simp))
  have sz5 : w.heap.size + 1 ≤ w5.heap.size := by have := hSw.size; simpa using this
  clear hb5
  go_simp
  refine hK _ _ ?_
  clear hK K
  iterate 1
    refine lex2_step (fun K hK => ?_)
    simp only [lexOp, List.getElem?_toArray, List.getElem?_cons_succ, List.getElem?_cons_zero]
    rw [if_pos (by rfl)]
    apply Exists.intro
    refine ⟨fun w' hS' => ?_, hSw, ?_⟩
    · first | (go_simp <;> with_reducible rfl) | (go_simp; go_bits; with_reducible rfl)
    go_simp
    try go_bits
    refine hK _ _ ?_
    clear hK K
  refine lex2_step (fun K hK => ?_)
  simp only [lexOp, List.getElem?_toArray, List.getElem?_cons_succ, List.getElem?_cons_zero]
  rw [if_pos (by rfl)]
  go_step
  refine (Put_any _ none 0 0 [] cr 2 (Sl.nil _ _) (by omega) (by omega) (by omega) (by omega) (by omega)).mono ?_
  rintro e w6 ⟨v6, m6, rfl, hown, hb6⟩
  rw [List.nil_append, putB_two] at hown
  obtain rfl : m6 = 2 := by have h := hown.1; simp at h; omega
  obtain ⟨a6, c6, rfl, _, hc6⟩ := Sl.ofOwn hown
  obtain ⟨g6, rfl, _, _⟩ := own_addr hown (by omega)
  have hcell := own_cell hown 0 (by simp)
  rw [show encB ([UInt8.ofNat (cr / 256 % 256), UInt8.ofNat (cr % 256)][0]'(by simp)) = .int .u8 (x9 : Int) by
    show encB (UInt8.ofNat (cr / 256 % 256)) = _
    rw [← encB_num (cr / 256 % 256) (by omega), Nat.mod_eq_of_lt (by omega), h9]] at hcell
  have HC6 := Lib.hid hcell
  replace hSw : Below (w.heap.size + 1) (w.alloc (.cells #[.int .i64 0, .int .u32 0, .string ⟨#[]⟩, .slice none 0 0, .int .i64 0] 28)) w6 := hSw.trans (hb6.mono sz5)
  have H6 := Lib.hid (HB.out.trans (hSw.mono (by omega)))
  have K6 := Lib.hid (K0.out.belowB hSw (by omega))
  clear hown hb6 hcell h9 h10
  go_simp
  refine hK _ _ ?_
  clear hK K
  refine lex2_strong (Below w6.heap.size w6) (fun x h => hSw.trans (h.mono (by have := hSw.size; simpa using this))) ?_
  have ld6 : ∀ w', Below w6.heap.size w6 w' → w'.cell? ⟨g6, 0, none⟩ = some (.int .u8 (x9 : Int)) := fun w' h => by
    rw [h.cell (by assumption)]; exact HC6.out
  clear hSw ld9
  have hSw : Below w6.heap.size w6 w6 := Below.refl _ _
  iterate 4
    refine lex2_step (fun K hK => ?_)
    simp only [lexOp, List.getElem?_toArray, List.getElem?_cons_succ, List.getElem?_cons_zero]
    rw [if_pos (by rfl)]
    apply Exists.intro
    refine ⟨fun w' hS' => ?_, hSw, ?_⟩
    · first | (go_simp <;> with_reducible rfl) | (go_simp; go_bits; with_reducible rfl)
    go_simp
    try go_bits
    refine hK _ _ ?_
    clear hK K
  refine lex2_nil ?_
  clear ld6 hSw HC6 HC9 K0 sz5
  obtain ⟨h9, h10⟩ := HXX.out
  go_wp2_with fail
  have ld10 : ∀ w', Below w6.heap.size w6 w' → w'.cell? ⟨b, off + 10, none⟩ = some (.int .u8 (x10 : Int)) := fun w' h => by
    rw [(H6.out.trans (h.mono H6.out.size)).cell (by simpa using hlt)]; exact HC10.out
  have hSw : Below w6.heap.size w6 w6.drew := (Below.refl _ _).drew
  have hmod : (cr : Int) % 256 = ((cr % 256 : Nat) : Int) := by omega
  refine wp_region_lex (Below w6.heap.size w6) [(0, true), (1, true), (4, true), (5, true), (6, true), (2, false), (3, true), (7, true), (8, true)] (by kernel_rfl) (by kernel_rfl) (fun c a d v w h => by cases d <;> exact h) ?_
  iterate 5
    refine lex_step (fun K hK => ?_)
    simp only [lexOp, List.getElem?_toArray, List.getElem?_cons_succ, List.getElem?_cons_zero]
    rw [if_pos (by rfl)]
    apply Exists.intro
    refine ⟨fun w' hS' => ?_, hSw, ?_⟩
    · first | (go_simp <;> with_reducible rfl) | (go_simp; go_bits; with_reducible rfl)
    go_simp
    try go_bits
    refine hK _ _ ?_
    clear hK K
  refine lex_step (fun K hK => ?_)
  simp only [lexOp, List.getElem?_toArray, List.getElem?_cons_succ, List.getElem?_cons_zero]
  rw [if_pos (by rfl)]
  go_step
  refine (HM.out _ (H6.out.trans (hSw.mono H6.out.size))).mono ?_
  rintro e w7 ⟨rfl, hb7⟩
  replace hSw : Below w6.heap.size w6 w7 := hSw.trans (hb7.mono hSw.size)
  have H7 := Lib.hid (H6.out.trans (hSw.mono H6.out.size))
  have K7 := Lib.hid (K6.out.below hSw)
  clear hb7
  go_simp
  refine hK _ _ ?_
  clear hK K
  have e10 : ((cr % 256 : Nat) : Int) = (x10 : Int) := by omega
  rw [e10] at hmod
  clear h9 h10 HXX e10
  iterate 3
    refine lex_step (fun K hK => ?_)
    simp only [lexOp, List.getElem?_toArray, List.getElem?_cons_succ, List.getElem?_cons_zero]
    rw [if_pos (by rfl)]
    apply Exists.intro
    refine ⟨fun w' hS' => ?_, hSw, ?_⟩
    · first | (go_simp <;> with_reducible rfl) | (go_simp; go_bits; with_reducible rfl)
    go_simp
    try go_bits
    refine hK _ _ ?_
    clear hK K
  refine lex_nil ?_
  clear ld10 hSw hmod HC10 H6 K6 HM
  obtain ⟨kd, hkd⟩ : ∃ v, v = getN ((bs.drop 0).take 1) := ⟨_, rfl⟩
  obtain ⟨tx, htx⟩ : ∃ v, v = getN ((bs.drop 1).take 4) := ⟨_, rfl⟩
  obtain ⟨ky, hky⟩ : ∃ v, v = getN ((bs.drop 5).take 1) := ⟨_, rfl⟩
  obtain ⟨bl, hbl⟩ : ∃ v, v = getN ((bs.drop 6).take 2) := ⟨_, rfl⟩
  obtain ⟨ct, hct⟩ : ∃ v, v = getN ((bs.drop 8).take 1) := ⟨_, rfl⟩
  have lkd : kd < 256 := by rw [hkd]; exact getN_small bs 0 1
  have ltx : tx < 4294967296 := by rw [htx]; exact getN_small bs 1 4
  have lky : ky < 256 := by rw [hky]; exact getN_small bs 5 1
  have lbl : bl < 65536 := by rw [hbl]; exact getN_small bs 6 2
  have lct : ct < 256 := by rw [hct]; exact getN_small bs 8 1
  rw [← hkd, ← htx, ← hky, ← hbl, ← hct] at HR
  have KK := Lib.hid (And.intro hkd (And.intro htx (And.intro hky (And.intro hbl hct))))
  clear hkd htx hky hbl hct
  go_wp2_with fail
  have lt7 : w.heap.size < w7.heap.size := K7.out.lt
  have R8 := Lib.hid (show BlkR (w7.alloc (.cells #[.slice (some ⟨b, off, none⟩) n cap, .int .i64 0] 64)) w7.heap.size (some ⟨b, off, none⟩) n cap ((0 : Nat) : Int) from heap_alloc_last w7 _)
  have hb8 : Below w7.heap.size w7 (w7.alloc (.cells #[.slice (some ⟨b, off, none⟩) n cap, .int .i64 0] 64)) := (Below.refl _ _).alloc (Nat.le_refl _) _
  have H8 := Lib.hid (H7.out.trans (hb8.mono (by omega)))
  have K8 := Lib.hid (K7.out.belowB hb8 lt7)
  clear hb8 H7 K7
  refine (next_any _ w7.heap.size (some ⟨b, off, none⟩) n cap bs 0 1 R8.out (HE.out.below H8.out) hcap (by omega) (by omega) (by omega) (by omega)).mono ?_
  rw [← KK.out.1]
  rintro e w9 ⟨rfl, hRT⟩
  obtain ⟨hr1, hb1, hh1⟩ := hRT
  have R9 := Lib.hid (show BlkR w9 w7.heap.size (some ⟨b, off, none⟩) n cap ((1 : Nat) : Int) from hr1)
  have H9 := Lib.hid (H8.out.trans (hb1.mono (by omega)))
  have K9 := Lib.hid (K8.out.belowB hb1 (by omega))
  have G9 : w7.heap.size < w9.heap.size := R9.out.lt
  clear hr1 hb1 hh1 R8 H8 K8
  go_wp2_with fail
  refine (next_any _ w7.heap.size (some ⟨b, off, none⟩) n cap bs 1 4 R9.out (HE.out.below H9.out) hcap (by omega) (by omega) (by omega) (by omega)).mono ?_
  rw [← KK.out.2.1]
  rintro e w10 ⟨rfl, hRT⟩
  obtain ⟨hr1, hb1, hh1⟩ := hRT
  have R10 := Lib.hid (show BlkR w10 w7.heap.size (some ⟨b, off, none⟩) n cap ((5 : Nat) : Int) from hr1)
  have H10 := Lib.hid (H9.out.trans (hb1.mono (by omega)))
  have K10 := Lib.hid (K9.out.belowB hb1 (by omega))
  have G10 : w7.heap.size < w10.heap.size := R10.out.lt
  clear hr1 hb1 hh1 R9 H9 K9
  go_wp2_with fail
  have hb11 : Below w10.heap.size w10 (w10.alloc (.cells #[.int .i64 kd, .int .u32 tx, .string ⟨#[]⟩, .slice none 0 0, .int .i64 0] 28)) := (Below.refl _ _).alloc (Nat.le_refl _) _
  have X11 := Lib.hid (show Blk5 (w10.alloc (.cells #[.int .i64 kd, .int .u32 tx, .string ⟨#[]⟩, .slice none 0 0, .int .i64 0] 28)) w10.heap.size (.int .i64 kd) (.int .u32 tx) (.string ⟨#[]⟩) (.slice none 0 0) (.int .i64 0) 28 from heap_alloc_last w10 _)
  have R11 := Lib.hid (R10.out.below hb11)
  have H11 := Lib.hid (H10.out.trans (hb11.mono H10.out.size))
  have K11 := Lib.hid (K10.out.below hb11)
  have lt10 := G10
  clear hb11 H10 K10 R10
  refine (next_any _ w7.heap.size (some ⟨b, off, none⟩) n cap bs 5 1 R11.out (HE.out.below H11.out) hcap (by omega) (by omega) (by omega) (by omega)).mono ?_
  rw [← KK.out.2.2.1]
  rintro e w12 ⟨rfl, hRT⟩
  obtain ⟨hr1, hb1, hh1⟩ := hRT
  have R12 := Lib.hid (show BlkR w12 w7.heap.size (some ⟨b, off, none⟩) n cap ((6 : Nat) : Int) from hr1)
  have H12 := Lib.hid (H11.out.trans (hb1.mono (by omega)))
  have K12 := Lib.hid (K11.out.belowB hb1 (by omega))
  have X12 := Lib.hid (X11.out.eq (hh1 _ (by omega) X11.out.lt))
  have G12 : w7.heap.size < w12.heap.size := R12.out.lt
  clear hr1 hb1 hh1 R11 H11 K11 X11
  go_wp2_with fail
  refine (next_any _ w7.heap.size (some ⟨b, off, none⟩) n cap bs 6 2 R12.out (HE.out.below H12.out) hcap (by omega) (by omega) (by omega) (by omega)).mono ?_
  rw [← KK.out.2.2.2.1]
  rintro e w13 ⟨rfl, hRT⟩
  obtain ⟨hr1, hb1, hh1⟩ := hRT
  have R13 := Lib.hid (show BlkR w13 w7.heap.size (some ⟨b, off, none⟩) n cap ((8 : Nat) : Int) from hr1)
  have H13 := Lib.hid (H12.out.trans (hb1.mono (by omega)))
  have K13 := Lib.hid (K12.out.belowB hb1 (by omega))
  have X13 := Lib.hid (X12.out.eq (hh1 _ (by omega) X12.out.lt))
  have G13 : w7.heap.size < w13.heap.size := R13.out.lt
  clear hr1 hb1 hh1 R12 H12 K12 X12
  go_wp2_with fail
  refine (next_any _ w7.heap.size (some ⟨b, off, none⟩) n cap bs 8 1 R13.out (HE.out.below H13.out) hcap (by omega) (by omega) (by omega) (by omega)).mono ?_
  rw [← KK.out.2.2.2.2]
  rintro e w14 ⟨rfl, hRT⟩
  obtain ⟨hr1, hb1, hh1⟩ := hRT
  have R14 := Lib.hid (show BlkR w14 w7.heap.size (some ⟨b, off, none⟩) n cap ((9 : Nat) : Int) from hr1)
  have H14 := Lib.hid (H13.out.trans (hb1.mono (by omega)))
  have K14 := Lib.hid (K13.out.belowB hb1 (by omega))
  have X14 := Lib.hid (X13.out.eq (hh1 _ (by omega) X13.out.lt))
  have G14 : w7.heap.size < w14.heap.size := R14.out.lt
  clear hr1 hb1 hh1 R13 H13 K13 X13
  obtain ⟨q0, q1, q2, q3, q4, s0, s1, s2, s3, s4, lt14⟩ := X14.out.box
  go_wp2_with fail
  have hne1 : w.heap.size ≠ w10.heap.size := by omega
  have hne2 : w7.heap.size ≠ w10.heap.size := by omega
  have K15 := Lib.hid (K14.out.other (o := 4) (v := .int .i64 ct) hne1)
  have R15 := Lib.hid (R14.out.other (o := 4) (v := .int .i64 ct) hne2)
  have X15 := Lib.hid (X14.out.set4 (v' := .int .i64 ct))
  have H15 := Lib.hid (H14.out.setCell (p := ⟨w10.heap.size, 4, none⟩) (by show w.heap.size ≤ w10.heap.size; omega) (.int .i64 ct))
  clear K14 R14 X14 H14 q0 q1 q2 q3 q4 s0 s1 s2 s3 s4 lt14
  refine (right5_any _ kd tx ⟨#[]⟩ none 0 0 ct ky bl (by unfold IntR; omega) (by omega) (by unfold IntR; omega) (by omega) (by omega)).mono ?_
  rw [HR.out]
  rintro e w16 ⟨rfl, hb16⟩
  have K16 := Lib.hid (K15.out.below hb16)
  have R16 := Lib.hid (R15.out.below hb16)
  have X16 := Lib.hid (X15.out.below hb16)
  have H16 := Lib.hid (H15.out.trans (hb16.mono H15.out.size))
  clear hb16 K15 R15 X15 H15
  obtain ⟨p0, p1, p2, p3, p4, f0, f1, f2, f3, f4, lt1⟩ := K16.out.box
  go_wp2_with fail
  have K17 := Lib.hid (K16.out.set (x' := .int .i64 0) (y' := .int .u32 0) (z' := .string ⟨#[]⟩) (u' := .slice none 0 0) (v' := .int .i64 0))
  have H17 := Lib.hid (H16.out.trans (keep55 w.heap.size w16 (.int .i64 0) (.int .u32 0) (.string ⟨#[]⟩) (.slice none 0 0) (.int .i64 0)))
  exact bodyPost_ret (results_cell_row_tmp3 rfl _ _ w.heap.size _ _ _ _ rfl K17.out Try.underlying28 rfl infoRec) rfl ⟨rfl, H17.out⟩
set_option maxRecDepth 100000 in
set_option maxHeartbeats 8000000 in
theorem Parse_short2 (w : World) (a : Option Addr) (n cap : Nat) (bs : List UInt8) (hs : Sl encB w a n bs) (hn : n ≤ 65536) (hcap : n ≤ cap) (h1 : bs.getD 0 0 ≠ 255) (h : 11 ≤ n) (h9 : crcN (bs.take 9) / 256 = (bs.getD 9 0).toNat) (h10 : crcN (bs.take 9) % 256 = (bs.getD 10 0).toNat) (hr : recOk (getN ((bs.drop 0).take 1)) (getN ((bs.drop 1).take 4)) (getN ((bs.drop 5).take 1)) (getN ((bs.drop 6).take 2)) (getN ((bs.drop 8).take 1)) = true) (hsz : n < 11 + getN ((bs.drop 5).take 1) + getN ((bs.drop 6).take 2) + 5) :
    Calls Try.prog 15 #[.slice a n cap] w (ParseNo 0 6 w) := by
  have HR := Lib.hid hr
  clear hr
  have K0 := Lib.hid (show Blk5 (w.alloc (.cells #[.int .i64 0, .int .u32 0, .string ⟨#[]⟩, .slice none 0 0, .int .i64 0] 28)) w.heap.size (.int .i64 0) (.int .u32 0) (.string ⟨#[]⟩) (.slice none 0 0) (.int .i64 0) 28 from heap_alloc_last w _)
  have HB := Lib.hid ((Below.refl w.heap.size w).alloc (Nat.le_refl _) (.cells #[.int .i64 0, .int .u32 0, .string ⟨#[]⟩, .slice none 0 0, .int .i64 0] 28))
  obtain ⟨b, off, rfl, hlt, c0, e255, hcell⟩ := first_cell hs (by omega) h1
  have c9 := hcell 9 (by omega)
  have c10 := hcell 10 (by omega)
  have HE := Lib.hid hs
  have HS9 := Lib.hid (hs.take (j := 9) (by omega))
  have hcr := crcN_lt (bs.take 9)
  have hM := fun w' (hb : Below w.heap.size w w') => Sum16_n w' (some ⟨b, off, none⟩) 9 cap (bs.take 9) (HS9.out.below hb) (by omega)
  have HXX := Lib.hid (And.intro h9 h10)
  generalize ((bs.getD 0 0).toNat : Int) = x0 at c0 e255
  have hx9 := u8_lt (bs.getD 9 0)
  have hx10 := u8_lt (bs.getD 10 0)
  generalize (bs.getD 9 0).toNat = x9 at c9 hx9 h9 HXX
  generalize (bs.getD 10 0).toNat = x10 at c10 hx10 h10 HXX
  generalize crcN (bs.take 9) = cr at hcr hM h9 h10 HXX
  have HM := Lib.hid hM
  have HC9 := Lib.hid c9
  have HC10 := Lib.hid c10
  have g1 : (0 : Int) < (n : Int) := by omega
  have g2 : (9 : Int) ≤ (cap : Int) := by omega
  have g3 : (9 : Int) < (n : Int) := by omega
  have g4 : (10 : Int) < (n : Int) := by omega
  have e0 : ((n : Int) == 0) = false := eqi_no (by omega)
  clear h1 hs hcell hM c9 c10
  go_enter Try.func15, Try.ntmps15
  go_wp2_with fail
  have ld9 : ∀ w', Below (w.heap.size + 1) (w.alloc (.cells #[.int .i64 0, .int .u32 0, .string ⟨#[]⟩, .slice none 0 0, .int .i64 0] 28)) w' → w'.cell? ⟨b, off + 9, none⟩ = some (.int .u8 (x9 : Int)) := fun w' h => by
    rw [(HB.out.trans (h.mono (by simp))).cell (by simpa using hlt)]; exact HC9.out
  have hSw : Below (w.heap.size + 1) (w.alloc (.cells #[.int .i64 0, .int .u32 0, .string ⟨#[]⟩, .slice none 0 0, .int .i64 0] 28)) (w.alloc (.cells #[.int .i64 0, .int .u32 0, .string ⟨#[]⟩, .slice none 0 0, .int .i64 0] 28)).drew := (Below.refl _ _).drew
  refine wp_region_lex2 (Below (w.heap.size + 1) (w.alloc (.cells #[.int .i64 0, .int .u32 0, .string ⟨#[]⟩, .slice none 0 0, .int .i64 0] 28))) [(0, true), (1, true), (7, true), (8, true), (9, true), (2, false), (3, true), (4, false), (5, true), (6, true), (10, true), (11, true)] (by kernel_rfl) (by kernel_rfl) (fun c a d v w h => by cases d <;> exact h) ?_
  iterate 5
    refine lex2_step (fun K hK => ?_)
    simp only [lexOp, List.getElem?_toArray, List.getElem?_cons_succ, List.getElem?_cons_zero]
    rw [if_pos (by rfl)]
    apply Exists.intro
    refine ⟨fun w' hS' => ?_, hSw, ?_⟩
    · first | (go_simp <;> with_reducible rfl) | (go_simp; go_bits; with_reducible rfl)
    go_simp
    try go_bits
    refine hK _ _ ?_
    clear hK K
  refine lex2_step (fun K hK => ?_)
  simp only [lexOp, List.getElem?_toArray, List.getElem?_cons_succ, List.getElem?_cons_zero]
  rw [if_pos (by rfl)]
  go_step
  refine (HM.out _ (HB.out.trans (hSw.mono (by omega)))).mono ?_
  rintro e w5 ⟨rfl, hb5⟩
  replace hSw : Below (w.heap.size + 1) (w.alloc (.cells #[.int .i64 0, .int .u32 0, .string ⟨#[]⟩, .slice none 0 0, .int .i64 0] 28)) w5 := hSw.trans (hb5.mono (by simp))
  have sz5 : w.heap.size + 1 ≤ w5.heap.size := by have := hSw.size; simpa using this
  clear hb5
  go_simp
  refine hK _ _ ?_
  clear hK K
  iterate 1
    refine lex2_step (fun K hK => ?_)
    simp only [lexOp, List.getElem?_toArray, List.getElem?_cons_succ, List.getElem?_cons_zero]
    rw [if_pos (by rfl)]
    apply Exists.intro
    refine ⟨fun w' hS' => ?_, hSw, ?_⟩
    · first | (go_simp <;> with_reducible rfl) | (go_simp; go_bits; with_reducible rfl)
    go_simp
    try go_bits
    refine hK _ _ ?_
    clear hK K
  refine lex2_step (fun K hK => ?_)
  simp only [lexOp, List.getElem?_toArray, List.getElem?_cons_succ, List.getElem?_cons_zero]
  rw [if_pos (by rfl)]
  go_step
  refine (Put_any _ none 0 0 [] cr 2 (Sl.nil _ _) (by omega) (by omega) (by omega) (by omega) (by omega)).mono ?_
  rintro e w6 ⟨v6, m6, rfl, hown, hb6⟩
  rw [List.nil_append, putB_two] at hown
  obtain rfl : m6 = 2 := by have h := hown.1; simp at h; omega
  obtain ⟨a6, c6, rfl, _, hc6⟩ := Sl.ofOwn hown
  obtain ⟨g6, rfl, _, _⟩ := own_addr hown (by omega)
  have hcell := own_cell hown 0 (by simp)
  rw [show encB ([UInt8.ofNat (cr / 256 % 256), UInt8.ofNat (cr % 256)][0]'(by simp)) = .int .u8 (x9 : Int) by
    show encB (UInt8.ofNat (cr / 256 % 256)) = _
    rw [← encB_num (cr / 256 % 256) (by omega), Nat.mod_eq_of_lt (by omega), h9]] at hcell
  have HC6 := Lib.hid hcell
  replace hSw : Below (w.heap.size + 1) (w.alloc (.cells #[.int .i64 0, .int .u32 0, .string ⟨#[]⟩, .slice none 0 0, .int .i64 0] 28)) w6 := hSw.trans (hb6.mono sz5)
  have H6 := Lib.hid (HB.out.trans (hSw.mono (by omega)))
  have K6 := Lib.hid (K0.out.belowB hSw (by omega))
  clear hown hb6 hcell h9 h10
  go_simp
  refine hK _ _ ?_
  clear hK K
  refine lex2_strong (Below w6.heap.size w6) (fun x h => hSw.trans (h.mono (by have := hSw.size; simpa using this))) ?_
  have ld6 : ∀ w', Below w6.heap.size w6 w' → w'.cell? ⟨g6, 0, none⟩ = some (.int .u8 (x9 : Int)) := fun w' h => by
    rw [h.cell (by assumption)]; exact HC6.out
  clear hSw ld9
  have hSw : Below w6.heap.size w6 w6 := Below.refl _ _
  iterate 4
    refine lex2_step (fun K hK => ?_)
    simp only [lexOp, List.getElem?_toArray, List.getElem?_cons_succ, List.getElem?_cons_zero]
    rw [if_pos (by rfl)]
    apply Exists.intro
    refine ⟨fun w' hS' => ?_, hSw, ?_⟩
    · first | (go_simp <;> with_reducible rfl) | (go_simp; go_bits; with_reducible rfl)
    go_simp
    try go_bits
    refine hK _ _ ?_
    clear hK K
  refine lex2_nil ?_
  clear ld6 hSw HC6 HC9 K0 sz5
  obtain ⟨h9, h10⟩ := HXX.out
  go_wp2_with fail
  have ld10 : ∀ w', Below w6.heap.size w6 w' → w'.cell? ⟨b, off + 10, none⟩ = some (.int .u8 (x10 : Int)) := fun w' h => by
    rw [(H6.out.trans (h.mono H6.out.size)).cell (by simpa using hlt)]; exact HC10.out
  have hSw : Below w6.heap.size w6 w6.drew := (Below.refl _ _).drew
  have hmod : (cr : Int) % 256 = ((cr % 256 : Nat) : Int) := by omega
  refine wp_region_lex (Below w6.heap.size w6) [(0, true), (1, true), (4, true), (5, true), (6, true), (2, false), (3, true), (7, true), (8, true)] (by kernel_rfl) (by kernel_rfl) (fun c a d v w h => by cases d <;> exact h) ?_
  iterate 5
    refine lex_step (fun K hK => ?_)
    simp only [lexOp, List.getElem?_toArray, List.getElem?_cons_succ, List.getElem?_cons_zero]
    rw [if_pos (by rfl)]
    apply Exists.intro
    refine ⟨fun w' hS' => ?_, hSw, ?_⟩
    · first | (go_simp <;> with_reducible rfl) | (go_simp; go_bits; with_reducible rfl)
    go_simp
    try go_bits
    refine hK _ _ ?_
    clear hK K
  refine lex_step (fun K hK => ?_)
  simp only [lexOp, List.getElem?_toArray, List.getElem?_cons_succ, List.getElem?_cons_zero]
  rw [if_pos (by rfl)]
  go_step
  refine (HM.out _ (H6.out.trans (hSw.mono H6.out.size))).mono ?_
  rintro e w7 ⟨rfl, hb7⟩
  replace hSw : Below w6.heap.size w6 w7 := hSw.trans (hb7.mono hSw.size)
  have H7 := Lib.hid (H6.out.trans (hSw.mono H6.out.size))
  have K7 := Lib.hid (K6.out.below hSw)
  clear hb7
  go_simp
  refine hK _ _ ?_
  clear hK K
  have e10 : ((cr % 256 : Nat) : Int) = (x10 : Int) := by omega
  rw [e10] at hmod
  clear h9 h10 HXX e10
  iterate 3
    refine lex_step (fun K hK => ?_)
    simp only [lexOp, List.getElem?_toArray, List.getElem?_cons_succ, List.getElem?_cons_zero]
    rw [if_pos (by rfl)]
    apply Exists.intro
    refine ⟨fun w' hS' => ?_, hSw, ?_⟩
    · first | (go_simp <;> with_reducible rfl) | (go_simp; go_bits; with_reducible rfl)
    go_simp
    try go_bits
    refine hK _ _ ?_
    clear hK K
  refine lex_nil ?_
  clear ld10 hSw hmod HC10 H6 K6 HM
  obtain ⟨kd, hkd⟩ : ∃ v, v = getN ((bs.drop 0).take 1) := ⟨_, rfl⟩
  obtain ⟨tx, htx⟩ : ∃ v, v = getN ((bs.drop 1).take 4) := ⟨_, rfl⟩
  obtain ⟨ky, hky⟩ : ∃ v, v = getN ((bs.drop 5).take 1) := ⟨_, rfl⟩
  obtain ⟨bl, hbl⟩ : ∃ v, v = getN ((bs.drop 6).take 2) := ⟨_, rfl⟩
  obtain ⟨ct, hct⟩ : ∃ v, v = getN ((bs.drop 8).take 1) := ⟨_, rfl⟩
  have lkd : kd < 256 := by rw [hkd]; exact getN_small bs 0 1
  have ltx : tx < 4294967296 := by rw [htx]; exact getN_small bs 1 4
  have lky : ky < 256 := by rw [hky]; exact getN_small bs 5 1
  have lbl : bl < 65536 := by rw [hbl]; exact getN_small bs 6 2
  have lct : ct < 256 := by rw [hct]; exact getN_small bs 8 1
  rw [← hkd, ← htx, ← hky, ← hbl, ← hct] at HR
  rw [← hky, ← hbl] at hsz
  have KK := Lib.hid (And.intro hkd (And.intro htx (And.intro hky (And.intro hbl hct))))
  clear hkd htx hky hbl hct
  go_wp2_with fail
  have lt7 : w.heap.size < w7.heap.size := K7.out.lt
  have R8 := Lib.hid (show BlkR (w7.alloc (.cells #[.slice (some ⟨b, off, none⟩) n cap, .int .i64 0] 64)) w7.heap.size (some ⟨b, off, none⟩) n cap ((0 : Nat) : Int) from heap_alloc_last w7 _)
  have hb8 : Below w7.heap.size w7 (w7.alloc (.cells #[.slice (some ⟨b, off, none⟩) n cap, .int .i64 0] 64)) := (Below.refl _ _).alloc (Nat.le_refl _) _
  have H8 := Lib.hid (H7.out.trans (hb8.mono (by omega)))
  have K8 := Lib.hid (K7.out.belowB hb8 lt7)
  clear hb8 H7 K7
  refine (next_any _ w7.heap.size (some ⟨b, off, none⟩) n cap bs 0 1 R8.out (HE.out.below H8.out) hcap (by omega) (by omega) (by omega) (by omega)).mono ?_
  rw [← KK.out.1]
  rintro e w9 ⟨rfl, hRT⟩
  obtain ⟨hr1, hb1, hh1⟩ := hRT
  have R9 := Lib.hid (show BlkR w9 w7.heap.size (some ⟨b, off, none⟩) n cap ((1 : Nat) : Int) from hr1)
  have H9 := Lib.hid (H8.out.trans (hb1.mono (by omega)))
  have K9 := Lib.hid (K8.out.belowB hb1 (by omega))
  have G9 : w7.heap.size < w9.heap.size := R9.out.lt
  clear hr1 hb1 hh1 R8 H8 K8
  go_wp2_with fail
  refine (next_any _ w7.heap.size (some ⟨b, off, none⟩) n cap bs 1 4 R9.out (HE.out.below H9.out) hcap (by omega) (by omega) (by omega) (by omega)).mono ?_
  rw [← KK.out.2.1]
  rintro e w10 ⟨rfl, hRT⟩
  obtain ⟨hr1, hb1, hh1⟩ := hRT
  have R10 := Lib.hid (show BlkR w10 w7.heap.size (some ⟨b, off, none⟩) n cap ((5 : Nat) : Int) from hr1)
  have H10 := Lib.hid (H9.out.trans (hb1.mono (by omega)))
  have K10 := Lib.hid (K9.out.belowB hb1 (by omega))
  have G10 : w7.heap.size < w10.heap.size := R10.out.lt
  clear hr1 hb1 hh1 R9 H9 K9
  go_wp2_with fail
  have hb11 : Below w10.heap.size w10 (w10.alloc (.cells #[.int .i64 kd, .int .u32 tx, .string ⟨#[]⟩, .slice none 0 0, .int .i64 0] 28)) := (Below.refl _ _).alloc (Nat.le_refl _) _
  have X11 := Lib.hid (show Blk5 (w10.alloc (.cells #[.int .i64 kd, .int .u32 tx, .string ⟨#[]⟩, .slice none 0 0, .int .i64 0] 28)) w10.heap.size (.int .i64 kd) (.int .u32 tx) (.string ⟨#[]⟩) (.slice none 0 0) (.int .i64 0) 28 from heap_alloc_last w10 _)
  have R11 := Lib.hid (R10.out.below hb11)
  have H11 := Lib.hid (H10.out.trans (hb11.mono H10.out.size))
  have K11 := Lib.hid (K10.out.below hb11)
  have lt10 := G10
  clear hb11 H10 K10 R10
  refine (next_any _ w7.heap.size (some ⟨b, off, none⟩) n cap bs 5 1 R11.out (HE.out.below H11.out) hcap (by omega) (by omega) (by omega) (by omega)).mono ?_
  rw [← KK.out.2.2.1]
  rintro e w12 ⟨rfl, hRT⟩
  obtain ⟨hr1, hb1, hh1⟩ := hRT
  have R12 := Lib.hid (show BlkR w12 w7.heap.size (some ⟨b, off, none⟩) n cap ((6 : Nat) : Int) from hr1)
  have H12 := Lib.hid (H11.out.trans (hb1.mono (by omega)))
  have K12 := Lib.hid (K11.out.belowB hb1 (by omega))
  have X12 := Lib.hid (X11.out.eq (hh1 _ (by omega) X11.out.lt))
  have G12 : w7.heap.size < w12.heap.size := R12.out.lt
  clear hr1 hb1 hh1 R11 H11 K11 X11
  go_wp2_with fail
  refine (next_any _ w7.heap.size (some ⟨b, off, none⟩) n cap bs 6 2 R12.out (HE.out.below H12.out) hcap (by omega) (by omega) (by omega) (by omega)).mono ?_
  rw [← KK.out.2.2.2.1]
  rintro e w13 ⟨rfl, hRT⟩
  obtain ⟨hr1, hb1, hh1⟩ := hRT
  have R13 := Lib.hid (show BlkR w13 w7.heap.size (some ⟨b, off, none⟩) n cap ((8 : Nat) : Int) from hr1)
  have H13 := Lib.hid (H12.out.trans (hb1.mono (by omega)))
  have K13 := Lib.hid (K12.out.belowB hb1 (by omega))
  have X13 := Lib.hid (X12.out.eq (hh1 _ (by omega) X12.out.lt))
  have G13 : w7.heap.size < w13.heap.size := R13.out.lt
  clear hr1 hb1 hh1 R12 H12 K12 X12
  go_wp2_with fail
  refine (next_any _ w7.heap.size (some ⟨b, off, none⟩) n cap bs 8 1 R13.out (HE.out.below H13.out) hcap (by omega) (by omega) (by omega) (by omega)).mono ?_
  rw [← KK.out.2.2.2.2]
  rintro e w14 ⟨rfl, hRT⟩
  obtain ⟨hr1, hb1, hh1⟩ := hRT
  have R14 := Lib.hid (show BlkR w14 w7.heap.size (some ⟨b, off, none⟩) n cap ((9 : Nat) : Int) from hr1)
  have H14 := Lib.hid (H13.out.trans (hb1.mono (by omega)))
  have K14 := Lib.hid (K13.out.belowB hb1 (by omega))
  have X14 := Lib.hid (X13.out.eq (hh1 _ (by omega) X13.out.lt))
  have G14 : w7.heap.size < w14.heap.size := R14.out.lt
  clear hr1 hb1 hh1 R13 H13 K13 X13
  obtain ⟨q0, q1, q2, q3, q4, s0, s1, s2, s3, s4, lt14⟩ := X14.out.box
  go_wp2_with fail
  have hne1 : w.heap.size ≠ w10.heap.size := by omega
  have hne2 : w7.heap.size ≠ w10.heap.size := by omega
  have K15 := Lib.hid (K14.out.other (o := 4) (v := .int .i64 ct) hne1)
  have R15 := Lib.hid (R14.out.other (o := 4) (v := .int .i64 ct) hne2)
  have X15 := Lib.hid (X14.out.set4 (v' := .int .i64 ct))
  have H15 := Lib.hid (H14.out.setCell (p := ⟨w10.heap.size, 4, none⟩) (by show w.heap.size ≤ w10.heap.size; omega) (.int .i64 ct))
  clear K14 R14 X14 H14 q0 q1 q2 q3 q4 s0 s1 s2 s3 s4 lt14
  refine (right5_any _ kd tx ⟨#[]⟩ none 0 0 ct ky bl (by unfold IntR; omega) (by omega) (by unfold IntR; omega) (by omega) (by omega)).mono ?_
  rw [HR.out]
  rintro e w16 ⟨rfl, hb16⟩
  have K16 := Lib.hid (K15.out.below hb16)
  have R16 := Lib.hid (R15.out.below hb16)
  have X16 := Lib.hid (X15.out.below hb16)
  have H16 := Lib.hid (H15.out.trans (hb16.mono H15.out.size))
  clear hb16 K15 R15 X15 H15
  have esz := decide_eq_true (show (n : Int) < 11 + (ky : Int) + (bl : Int) + 5 by omega)
  obtain ⟨p0, p1, p2, p3, p4, f0, f1, f2, f3, f4, lt1⟩ := K16.out.box
  go_wp2_with fail
  have K17 := Lib.hid (K16.out.set (x' := .int .i64 0) (y' := .int .u32 0) (z' := .string ⟨#[]⟩) (u' := .slice none 0 0) (v' := .int .i64 0))
  have H17 := Lib.hid (H16.out.trans (keep55 w.heap.size w16 (.int .i64 0) (.int .u32 0) (.string ⟨#[]⟩) (.slice none 0 0) (.int .i64 0)))
  exact bodyPost_ret (results_cell_row_tmp3 rfl _ _ w.heap.size _ _ _ _ rfl K17.out Try.underlying28 rfl infoRec) rfl ⟨rfl, H17.out⟩
end Go.Proofs.Ytechkdnoekffmaa
