/- rec: the reference's Parse. No condition. -/
import Derived.Test.YtkieconmbeblgaaRecLaw3
import Derived.Deep.LoopGhost
import Derived.Deep.DeepCutAuto
import Derived.Test.YtkieconmbeblgaaRecPlain3
import Derived.Laws.MakeOwn
namespace Go.Proofs.Ytkieconmbeblgaa
open Go.ChangeShapes Go.WideShapes Go.ChangeAt Go.RowKit
set_option maxRecDepth 100000 in
set_option maxHeartbeats 8000000 in
theorem refParse_none (w : World) (a : Option Addr) (n cap : Nat) (bs : List UInt8) (hs : Sl encB w a n bs) (hn : n ≤ 65536) (h : n = 0 ∨ bs.getD 0 0 = 255) :
    Calls Try.prog 8 #[.slice a n cap] w (ParseNo 0 11 w) := by
  have K0 := Lib.hid (show Blk5 (w.alloc (.cells #[.int .i64 0, .int .u32 0, .string ⟨#[]⟩, .slice none 0 0, .int .i64 0] 26)) w.heap.size (.int .i64 0) (.int .u32 0) (.string ⟨#[]⟩) (.slice none 0 0) (.int .i64 0) 26 from heap_alloc_last w _)
  have HB := Lib.hid ((Below.refl w.heap.size w).alloc (Nat.le_refl _) (.cells #[.int .i64 0, .int .u32 0, .string ⟨#[]⟩, .slice none 0 0, .int .i64 0] 26))
  by_cases h0 : n = 0
  · subst h0
    clear h hs
    go_enter Try.func8, Try.ntmps8
    go_wp2_with fail
    exact bodyPost_ret (results_cell_row_tmp3 rfl _ _ w.heap.size _ _ _ _ rfl K0.out Try.underlying26 rfl infoRec) rfl ⟨rfl, HB.out⟩
  · have h1 : bs.getD 0 0 = 255 := h.resolve_left h0
    obtain ⟨b, off, rfl, hlt, hc⟩ := hs.2 (by omega)
    have c0 := hc 0 (by have := hs.1; omega)
    rw [show bs[0]'(by have := hs.1; omega) = 255 by rw [← h1]; simp [List.getD, List.getElem?_eq_getElem (show 0 < bs.length by have := hs.1; omega)]] at c0
    have g1 : (0 : Int) < (n : Int) := by omega
    have e0 : ((n : Int) == 0) = false := eqi_no (by omega)
    have c0' : w.cell? ⟨b, off, none⟩ = some (.int .u8 255) := c0
    clear h hs hc h1 c0 h0
    go_enter Try.func8, Try.ntmps8
    go_wp2_with fail
    exact bodyPost_ret (results_cell_row_tmp3 rfl _ _ w.heap.size _ _ _ _ rfl K0.out Try.underlying26 rfl infoRec) rfl ⟨rfl, HB.out⟩
set_option maxRecDepth 100000 in
set_option maxHeartbeats 8000000 in
theorem refParse_short (w : World) (a : Option Addr) (n cap : Nat) (bs : List UInt8) (hs : Sl encB w a n bs) (hn : n ≤ 65536) (h0 : 0 < n) (h1 : bs.getD 0 0 ≠ 255) (h : n < 11) :
    Calls Try.prog 8 #[.slice a n cap] w (ParseNo 0 6 w) := by
  have K0 := Lib.hid (show Blk5 (w.alloc (.cells #[.int .i64 0, .int .u32 0, .string ⟨#[]⟩, .slice none 0 0, .int .i64 0] 26)) w.heap.size (.int .i64 0) (.int .u32 0) (.string ⟨#[]⟩) (.slice none 0 0) (.int .i64 0) 26 from heap_alloc_last w _)
  have HB := Lib.hid ((Below.refl w.heap.size w).alloc (Nat.le_refl _) (.cells #[.int .i64 0, .int .u32 0, .string ⟨#[]⟩, .slice none 0 0, .int .i64 0] 26))
  obtain ⟨b, off, rfl, hlt, c0, e255, _⟩ := first_cell hs h0 h1
  generalize ((bs.getD 0 0).toNat : Int) = x0 at c0 e255
  have g1 : (0 : Int) < (n : Int) := by omega
  have e0 : ((n : Int) == 0) = false := eqi_no (by omega)
  clear h1 hs
  go_enter Try.func8, Try.ntmps8
  go_wp2_with fail
  exact bodyPost_ret (results_cell_row_tmp3 rfl _ _ w.heap.size _ _ _ _ rfl K0.out Try.underlying26 rfl infoRec) rfl ⟨rfl, HB.out⟩
set_option maxRecDepth 100000 in
set_option maxHeartbeats 8000000 in
theorem refParse_sum (w : World) (a : Option Addr) (n cap : Nat) (bs : List UInt8) (hs : Sl encB w a n bs) (hn : n ≤ 65536) (hcap : n ≤ cap) (h1 : bs.getD 0 0 ≠ 255) (h : 11 ≤ n) (h9 : crcN (bs.take 9) ≠ getN ((bs.drop 9).take 2)) :
    Calls Try.prog 8 #[.slice a n cap] w (ParseNo 0 7 w) := by
  have K0 := Lib.hid (show Blk5 (w.alloc (.cells #[.int .i64 0, .int .u32 0, .string ⟨#[]⟩, .slice none 0 0, .int .i64 0] 26)) w.heap.size (.int .i64 0) (.int .u32 0) (.string ⟨#[]⟩) (.slice none 0 0) (.int .i64 0) 26 from heap_alloc_last w _)
  have HB := Lib.hid ((Below.refl w.heap.size w).alloc (Nat.le_refl _) (.cells #[.int .i64 0, .int .u32 0, .string ⟨#[]⟩, .slice none 0 0, .int .i64 0] 26))
  obtain ⟨b, off, rfl, hlt, c0, e255, hcell⟩ := first_cell hs (by omega) h1
  have HS := Lib.hid hs
  have HS9 := Lib.hid (hs.take (j := 9) (by omega))
  have hbl := hs.1
  have G9 := Lib.hid (refGet_any (w.alloc (.cells #[.int .i64 0, .int .u32 0, .string ⟨#[]⟩, .slice none 0 0, .int .i64 0] 26)) (some ⟨b, off, none⟩) n cap bs 9 2 (hs.below HB.out) (by omega) hcap (by unfold IntR; omega) (by unfold IntR; omega))
  rw [show getR bs 9 2 = (((getN ((bs.drop 9).take 2) : Nat) : Int), (0 : Int)) by unfold getR; rw [if_neg (by omega), if_neg (by omega)]; rfl] at G9
  have M9 := Lib.hid (refSum16_n (w.alloc (.cells #[.int .i64 0, .int .u32 0, .string ⟨#[]⟩, .slice none 0 0, .int .i64 0] 26)) (some ⟨b, off, none⟩) 9 cap (bs.take 9) (HS9.out.below HB.out) (by omega))
  have hcr := crcN_lt (bs.take 9)
  have hsm := getN_small bs 9 2
  generalize crcN (bs.take 9) = cr at M9 hcr h9
  generalize getN ((bs.drop 9).take 2) = sm at G9 hsm h9
  generalize ((bs.getD 0 0).toNat : Int) = x0 at c0 e255
  have z1 : ((sm : Int) == (cr : Int)) = false := eqi_no (by omega)
  have z2 : ((sm : Int) != (cr : Int)) = true := by simp; omega
  have g1 : (0 : Int) < (n : Int) := by omega
  have g2 : (9 : Int) ≤ (cap : Int) := by omega
  have g3 : (9 : Int) < (n : Int) := by omega
  have e0 : ((n : Int) == 0) = false := eqi_no (by omega)
  clear h1 hs hcell h9 hbl
  go_enter Try.func8, Try.ntmps8
  go_wp2_with fail
  with_reducible refine G9.out.mono ?_
  rintro e w1 ⟨rfl, rfl⟩
  go_wp2_with fail
  with_reducible refine M9.out.mono ?_
  rintro e w1 ⟨rfl, rfl⟩
  go_wp2_with fail
  exact bodyPost_ret (results_cell_row_tmp3 rfl _ _ w.heap.size _ _ _ _ rfl K0.out Try.underlying26 rfl infoRec) rfl ⟨rfl, HB.out⟩
theorem make_zero (n : Nat) : madeCells #[.int .u8 0] n = Array.replicate n (encB 0) := by
  apply Array.ext
  · simp [madeCells]
  · intro i h1 h2
    simp [madeCells, encB, Nat.mod_one]
theorem make_bytes (w : World) (n : Nat) (h : n ≤ 1048576) : (Instr.makeSlice 22 (.int .i64 n) (.int .i64 n)).run Try.prog w = .ok (.slice (some ⟨w.heap.size, 0, none⟩) n n) (w.alloc (.cells (Array.replicate n (encB 0)) 5)) := by
  obtain ⟨i, hi, hz0, hz1, hz2⟩ := info_parts info_u8
  have hr := run_makeSlice (P := Try.prog) (w := w) 22 5 i (.int .u8 0) Try.underlying22 hi hz0 .i64 .i64 n n (by omega) (Int.le_refl _) (by rw [hz1]; omega) (by rw [hz2]; omega) (by omega)
  rw [hz1] at hr
  simp only [Int.toNat_natCast, Nat.mul_one] at hr
  rw [show (Value.int IntKind.u8 0).cells = #[.int .u8 0] from rfl, make_zero] at hr
  exact hr
theorem getN_one (bs : List UInt8) (i : Nat) (h : i < bs.length) : getN ((bs.drop i).take 1) = (bs.getD i 0).toNat := by
  have e : (bs.drop i).take 1 = [bs[i]] := by rw [List.drop_eq_getElem_cons h]; rfl
  rw [e]
  simp [getN, List.getD, List.getElem?_eq_getElem h]
/-- The record that is made first. -/
def MadeRec (w : World) (kd tx ky bl ct : Nat) (v : Value) (wx : World) : Prop :=
  ∃ (g : Nat) (kb : List UInt8) (a0 : Option Addr), v = .pointer (some ⟨g, 0, none⟩) ∧ w.heap.size < g ∧ kb.length = ky ∧ Blk5 wx g (.int .i64 kd) (.int .u32 tx) (.string ⟨kb.toArray⟩) (.slice a0 bl bl) (.int .i64 ct) 26 ∧ Below (w.heap.size + 1) (w.alloc (.cells #[.int .i64 0, .int .u32 0, .string ⟨#[]⟩, .slice none 0 0, .int .i64 0] 26)) wx
/-- What the last region reads. -/
def LastS (g kd tx ct : Nat) (kl : List UInt8) (a5 : Option Addr) (bl c5 : Nat) (p : Addr) (la : Nat) (x : World) : Prop := Blk5 x g (.int .i64 kd) (.int .u32 tx) (.string ⟨kl.toArray⟩) (.slice a5 bl c5) (.int .i64 ct) 26 ∧ x.cell? p = some (.int .u8 (la : Int))
def MadeS (w : World) (g ky : Nat) (x : World) : Prop := Below (w.heap.size + 1) (w.alloc (.cells #[.int .i64 0, .int .u32 0, .string ⟨#[]⟩, .slice none 0 0, .int .i64 0] 26)) x ∧ Sl encB x (some ⟨g, 0, none⟩) ky (List.replicate ky (0 : UInt8))
/-- The slice at x (of n elements) doesn't lie in block g. -/
def NotIn (x : Option Addr) (n g : Nat) : Prop := 0 < n → ∀ b off, x = some ⟨b, off, none⟩ → b ≠ g
theorem cell_other {w : World} {g o : Nat} {v : Value} {b off : Nat} (h : b ≠ g) : (w.setCell ⟨g, o, none⟩ v).cell? ⟨b, off, none⟩ = w.cell? ⟨b, off, none⟩ :=
  by rw [World.cell?_setCell_other]; intro e; cases e; exact h rfl
theorem Sl.set1 {α : Type} {enc : α → Value} {w : World} {x : Option Addr} {n g o : Nat} {xs : List α} (h : Sl enc w x n xs) (hx : NotIn x n g) {v : Value} : Sl enc (w.setCell ⟨g, o, none⟩ v) x n xs := by
  refine ⟨h.1, fun hn => ?_⟩
  obtain ⟨b, off, ha, hlt, hc⟩ := h.2 hn
  refine ⟨b, off, ha, by simpa using hlt, fun i hi => ?_⟩
  rw [cell_other (hx hn b off ha)]
  exact hc i hi
theorem Sl.set5 {α : Type} {enc : α → Value} {w : World} {x : Option Addr} {n g : Nat} {xs : List α} (h : Sl enc w x n xs) (hx : NotIn x n g) {u v y z t : Value} :
    Sl enc (((((w.setCell ⟨g, 0, none⟩ u).setCell ⟨g, 1, none⟩ v).setCell ⟨g, 2, none⟩ y).setCell ⟨g, 3, none⟩ z).setCell ⟨g, 4, none⟩ t) x n xs := by
  refine ⟨h.1, fun hn => ?_⟩
  obtain ⟨b, off, ha, hlt, hc⟩ := h.2 hn
  have hne := hx hn b off ha
  refine ⟨b, off, ha, by simpa using hlt, fun i hi => ?_⟩
  rw [cell_other hne, cell_other hne, cell_other hne, cell_other hne, cell_other hne]
  exact hc i hi
/-- What the reference's Parse returns of eleven bytes or more with their first sum. -/
def RefOut (bs : List UInt8) (n kd tx ky bl ct : Nat) (w : World) (e : Ending) (w' : World) : Prop :=
  (recOk kd tx ky bl ct = false → ParseNo 0 8 w e w') ∧
  (recOk kd tx ky bl ct = true → n < 16 + ky + bl → ParseNo 0 6 w e w') ∧
  (recOk kd tx ky bl ct = true → 16 + ky + bl ≤ n → sumN (bs.take (11 + ky + bl)) ≠ getN ((bs.drop (11 + ky + bl)).take 4) → ParseNo (11 + (ky : Int) + (bl : Int) + 5) 0 w e w') ∧
  (recOk kd tx ky bl ct = true → 16 + ky + bl ≤ n → sumN (bs.take (11 + ky + bl)) = getN ((bs.drop (11 + ky + bl)).take 4) →
    ParseOk kd tx ct ((bs.drop 11).take ky) ((bs.drop (11 + ky)).take bl) (11 + (ky : Int) + (bl : Int) + 5) (((getN ((bs.drop (11 + ky + bl + 4)).take 1) : Nat) : Int) == 0) w e w')
set_option maxRecDepth 100000 in
set_option maxHeartbeats 8000000 in
theorem refParse_rest (w : World) (a : Option Addr) (n cap : Nat) (bs : List UInt8) (hs : Sl encB w a n bs) (hn : n ≤ 65536) (hcap : n ≤ cap) (h1 : bs.getD 0 0 ≠ 255) (h : 11 ≤ n) (h9 : crcN (bs.take 9) = getN ((bs.drop 9).take 2)) :
    Calls Try.prog 8 #[.slice a n cap] w (RefOut bs n (getN ((bs.drop 0).take 1)) (getN ((bs.drop 1).take 4)) (getN ((bs.drop 5).take 1)) (getN ((bs.drop 6).take 2)) (getN ((bs.drop 8).take 1)) w) := by
  have K0 := Lib.hid (show Blk5 (w.alloc (.cells #[.int .i64 0, .int .u32 0, .string ⟨#[]⟩, .slice none 0 0, .int .i64 0] 26)) w.heap.size (.int .i64 0) (.int .u32 0) (.string ⟨#[]⟩) (.slice none 0 0) (.int .i64 0) 26 from heap_alloc_last w _)
  have HB := Lib.hid ((Below.refl w.heap.size w).alloc (Nat.le_refl _) (.cells #[.int .i64 0, .int .u32 0, .string ⟨#[]⟩, .slice none 0 0, .int .i64 0] 26))
  obtain ⟨b, off, rfl, hlt, c0, e255, hcell⟩ := first_cell hs (by omega) h1
  have HS := Lib.hid hs
  have HS9 := Lib.hid (hs.take (j := 9) (by omega))
  have hbl := hs.1
  have G9 := Lib.hid (refGet_any (w.alloc (.cells #[.int .i64 0, .int .u32 0, .string ⟨#[]⟩, .slice none 0 0, .int .i64 0] 26)) (some ⟨b, off, none⟩) n cap bs 9 2 (hs.below HB.out) (by omega) hcap (by unfold IntR; omega) (by unfold IntR; omega))
  rw [show getR bs 9 2 = (((getN ((bs.drop 9).take 2) : Nat) : Int), (0 : Int)) by unfold getR; rw [if_neg (by omega), if_neg (by omega)]; rfl] at G9
  have M9 := Lib.hid (refSum16_n (w.alloc (.cells #[.int .i64 0, .int .u32 0, .string ⟨#[]⟩, .slice none 0 0, .int .i64 0] 26)) (some ⟨b, off, none⟩) 9 cap (bs.take 9) (HS9.out.below HB.out) (by omega))
  have hcr := crcN_lt (bs.take 9)
  have hsm := getN_small bs 9 2
  have G14 := Lib.hid (refGet_any (w.alloc (.cells #[.int .i64 0, .int .u32 0, .string ⟨#[]⟩, .slice none 0 0, .int .i64 0] 26)) (some ⟨b, off, none⟩) n cap bs 1 4 (hs.below HB.out) (by omega) hcap (by unfold IntR; omega) (by unfold IntR; omega))
  rw [show getR bs 1 4 = (((getN ((bs.drop 1).take 4) : Nat) : Int), (0 : Int)) by unfold getR; rw [if_neg (by omega), if_neg (by omega)]; rfl] at G14
  have G62 := Lib.hid (refGet_any (w.alloc (.cells #[.int .i64 0, .int .u32 0, .string ⟨#[]⟩, .slice none 0 0, .int .i64 0] 26)) (some ⟨b, off, none⟩) n cap bs 6 2 (hs.below HB.out) (by omega) hcap (by unfold IntR; omega) (by unfold IntR; omega))
  rw [show getR bs 6 2 = (((getN ((bs.drop 6).take 2) : Nat) : Int), (0 : Int)) by unfold getR; rw [if_neg (by omega), if_neg (by omega)]; rfl] at G62
  have HREC := Lib.hid (fun (u : UInt8) (hu : bs.getD 0 0 = u) (hl : 16 + getN ((bs.drop 5).take 1) + getN ((bs.drop 6).take 2) ≤ bs.length) => recB_is bs u (by omega) hu h9 rfl rfl (by omega))
  rw [getN_one bs 0 (by omega), getN_one bs 5 (by omega), getN_one bs 8 (by omega)]
  have HREC' := HREC
  simp only [Hid] at HREC'
  rw [getN_one bs 5 (by omega), getN_one bs 8 (by omega)] at HREC'
  have HR2 := Lib.hid HREC'
  clear HREC HREC'
  have c5 := hcell 5 (by omega)
  have c8 := hcell 8 (by omega)
  have hlast := Lib.hid (fun i (hi : i < n) => hcell i hi)
  have hx0 := u8_lt (bs.getD 0 0)
  have hx5 := u8_lt (bs.getD 5 0)
  have hx8 := u8_lt (bs.getD 8 0)
  have htx := getN_small bs 1 4
  have hbs := getN_small bs 6 2
  obtain ⟨u0, hu0⟩ : ∃ u, bs.getD 0 0 = u := ⟨_, rfl⟩
  obtain ⟨u5, hu5⟩ : ∃ u, bs.getD 5 0 = u := ⟨_, rfl⟩
  obtain ⟨u8, hu8⟩ : ∃ u, bs.getD 8 0 = u := ⟨_, rfl⟩
  rw [hu0] at c0 e255 hx0 ⊢
  rw [hu5] at c5 hx5 HR2 ⊢
  rw [hu8] at c8 hx8 HR2 ⊢
  have HR3 := Lib.hid (HR2.out u0 hu0)
  clear HR2 hu0 hu5 hu8
  obtain ⟨kd, hkd⟩ : ∃ kd, u0.toNat = kd := ⟨_, rfl⟩
  rw [hkd] at c0 e255 hx0 ⊢
  have HKD := Lib.hid hkd
  clear hkd
  generalize u5.toNat = ky at *
  generalize u8.toNat = ct at *
  generalize getN ((bs.drop 1).take 4) = tx at *
  generalize getN ((bs.drop 6).take 2) = bl at *
  generalize crcN (bs.take 9) = cr at M9 hcr h9
  generalize getN ((bs.drop 9).take 2) = sm at G9 hsm h9
  have z1 : ((sm : Int) == (cr : Int)) = true := eqi_yes (by omega)
  have z2 : ((sm : Int) != (cr : Int)) = false := by simp; omega
  have g0 : 0 < n := by omega
  have g4 : (5 : Int) < (n : Int) := by omega
  have g5 : (8 : Int) < (n : Int) := by omega
  have htx' : tx < 4294967296 := htx
  have hbl' : bl < 65536 := hbs
  have g1 : (0 : Int) < (n : Int) := by omega
  have g2 : (9 : Int) ≤ (cap : Int) := by omega
  have g3 : (9 : Int) < (n : Int) := by omega
  have e0 : ((n : Int) == 0) = false := eqi_no (by omega)
  clear h1 hs hcell h9 hbl htx hbs
  go_enter Try.func8, Try.ntmps8
  go_wp2_with fail
  with_reducible refine G9.out.mono ?_
  rintro e w1 ⟨rfl, rfl⟩
  go_wp2_with fail
  with_reducible refine M9.out.mono ?_
  rintro e w1 ⟨rfl, rfl⟩
  go_wp2_with fail
  with_reducible refine G14.out.mono ?_
  rintro e w1 ⟨rfl, rfl⟩
  go_wp2_with fail
  with_reducible refine G62.out.mono ?_
  rintro e w1 ⟨rfl, rfl⟩
  go_upto_region 11 with fail
  go_cut [13] (fun s13 wx => MadeRec w kd tx ky bl ct s13 wx)
  case first =>
    have hmk7 := fun w' => make_bytes w' ky (by omega)
    have hmk11 := fun w' => make_bytes w' bl (by omega)
    have HBd := Lib.hid (show Below (w.heap.size + 1) (w.alloc (.cells #[.int .i64 0, .int .u32 0, .string ⟨#[]⟩, .slice none 0 0, .int .i64 0] 26)) (w.alloc (.cells #[.int .i64 0, .int .u32 0, .string ⟨#[]⟩, .slice none 0 0, .int .i64 0] 26)).drew from (Below.refl _ _).drew)
    have ld0 : ∀ w', Below (w.heap.size + 1) (w.alloc (.cells #[.int .i64 0, .int .u32 0, .string ⟨#[]⟩, .slice none 0 0, .int .i64 0] 26)) w' → w'.cell? ⟨b, off, none⟩ = some (.int .u8 (kd : Int)) := fun w' h => by rw [(HB.out.trans (h.mono (by simp))).cell (by simpa using hlt)]; exact c0
    have ld8 : ∀ w', Below (w.heap.size + 1) (w.alloc (.cells #[.int .i64 0, .int .u32 0, .string ⟨#[]⟩, .slice none 0 0, .int .i64 0] 26)) w' → w'.cell? ⟨b, off + 8, none⟩ = some (.int .u8 (ct : Int)) := fun w' h => by rw [(HB.out.trans (h.mono (by simp))).cell (by simpa using hlt)]; exact c8
    have hSw : Below (w.heap.size + 1) (w.alloc (.cells #[.int .i64 0, .int .u32 0, .string ⟨#[]⟩, .slice none 0 0, .int .i64 0] 26)) (w.alloc (.cells #[.int .i64 0, .int .u32 0, .string ⟨#[]⟩, .slice none 0 0, .int .i64 0] 26)).drew := (Below.refl _ _).drew
    refine wp_region_lexS (Below (w.heap.size + 1) (w.alloc (.cells #[.int .i64 0, .int .u32 0, .string ⟨#[]⟩, .slice none 0 0, .int .i64 0] 26))) (.of [(0, true), (1, true), (2, true), (3, true), (4, true), (5, true), (6, true), (9, true), (10, true), (12, true), (13, true), (14, true), (15, true)] (.fork3 7 (.step 8 true (.fork 11 (.of [(16, true), (17, false), (18, false)] (.stir [])) 17 (.of [(11, false), (16, true), (18, false)] (.stir [])))) 11 (.fork 7 (.of [(8, true), (16, true), (17, false), (18, false)] (.stir [])) 17 (.of [(7, false), (8, true), (16, true), (18, false)] (.stir []))) 17 (.fork 7 (.of [(8, true), (11, false), (16, true), (18, false)] (.stir [])) 11 (.of [(7, false), (8, true), (16, true), (18, false)] (.stir []))))) (by kernel_rfl) (by kernel_rfl) (fun c a d v w h => by cases d <;> exact h) ?_
    iterate 13
      refine lexS_step (fun K hK => ?_)
      simp only [lexOp, List.getElem?_toArray, List.getElem?_cons_succ, List.getElem?_cons_zero]
      rw [if_pos (by rfl)]
      apply Exists.intro
      refine ⟨fun w' hS' => ?_, hSw, ?_⟩
      · first | (go_simp <;> with_reducible rfl) | (go_simp; go_bits; with_reducible rfl)
      go_simp
      try go_bits
      refine hK _ _ ?_
      clear hK K
    clear ld0 ld8
    generalize hWd : (w.alloc (.cells #[.int .i64 0, .int .u32 0, .string ⟨#[]⟩, .slice none 0 0, .int .i64 0] 26)).drew = W0 at hSw HBd ⊢
    clear hWd
    refine lexS_fork3 ?_ ?_ ?_
    · intro K hK
      simp only [lexOp, List.getElem?_toArray, List.getElem?_cons_succ, List.getElem?_cons_zero]
      rw [if_pos (by rfl)]
      go_step
      have hb : Below W0.heap.size W0 (W0.alloc (.cells (Array.replicate ky (encB 0)) 5)) := (Below.refl _ _).alloc (Nat.le_refl _) _
      have szW1 : W0.heap.size < (W0.alloc (.cells (Array.replicate ky (encB 0)) 5)).heap.size := by simp
      have S7 := Lib.hid (show Sl encB (W0.alloc (.cells (Array.replicate ky (encB 0)) 5)) (some ⟨W0.heap.size, 0, none⟩) ky (List.replicate ky (0 : UInt8)) from Sl.lit (heap_alloc_last W0 _) (by simp) (by simp))
      replace HBd := Lib.hid (HBd.out.trans (hb.mono (by have h := HBd.out.size; simpa using h)))
      generalize hWn : W0.alloc (.cells (Array.replicate ky (encB 0)) 5) = W1 at hb HBd szW1 S7 ⊢
      clear hWn hSw
      refine ⟨HBd.out, hK _ _ ?_⟩
      clear hK K
      refine lexS_strong (MadeS w W0.heap.size ky) (fun x hx => hx.1) ?_
      have hSw : MadeS w W0.heap.size ky W1 := ⟨HBd.out, S7.out⟩
      have cv : ∀ w', MadeS w W0.heap.size ky w' → (convert 22 9 (.slice (some ⟨W0.heap.size, 0, none⟩) ky ky)).run Try.prog w' = .ok (.string ⟨(List.replicate ky (0 : UInt8)).toArray⟩) w' := fun w' h => run_conv h.2 ky
      iterate 1
        refine lexS_step (fun K hK => ?_)
        simp only [lexOp, List.getElem?_toArray, List.getElem?_cons_succ, List.getElem?_cons_zero]
        rw [if_pos (by rfl)]
        apply Exists.intro
        refine ⟨fun w' hS' => ?_, hSw, ?_⟩
        · first | (go_simp <;> with_reducible rfl) | (go_simp; go_bits; with_reducible rfl)
        go_simp
        try go_bits
        refine hK _ _ ?_
        clear hK K
      clear cv
      refine lexS_fork ?_ ?_
      · intro K hK
        simp only [lexOp, List.getElem?_toArray, List.getElem?_cons_succ, List.getElem?_cons_zero]
        rw [if_pos (by rfl)]
        go_step
        have hb : Below W1.heap.size W1 (W1.alloc (.cells (Array.replicate bl (encB 0)) 5)) := (Below.refl _ _).alloc (Nat.le_refl _) _
        have szW2 : W1.heap.size < (W1.alloc (.cells (Array.replicate bl (encB 0)) 5)).heap.size := by simp
        replace S7 := Lib.hid (S7.out.below hb)
        replace HBd := Lib.hid (HBd.out.trans (hb.mono (by have h := HBd.out.size; simpa using h)))
        generalize hWn : W1.alloc (.cells (Array.replicate bl (encB 0)) 5) = W2 at hb HBd szW2 S7 ⊢
        clear hWn hSw
        refine ⟨⟨HBd.out, S7.out⟩, hK _ _ ?_⟩
        clear hK K
        have hSw : MadeS w W0.heap.size ky W2 := ⟨HBd.out, S7.out⟩
        iterate 1
          refine lexS_step (fun K hK => ?_)
          simp only [lexOp, List.getElem?_toArray, List.getElem?_cons_succ, List.getElem?_cons_zero]
          rw [if_pos (by rfl)]
          apply Exists.intro
          refine ⟨fun w' hS' => ?_, hSw, ?_⟩
          · first | (go_simp <;> with_reducible rfl) | (go_simp; go_bits; with_reducible rfl)
          go_simp
          try go_bits
          refine hK _ _ ?_
          clear hK K
        refine lexS_step (fun K hK => ?_)
        simp only [lexOp, List.getElem?_toArray, List.getElem?_cons_succ, List.getElem?_cons_zero]
        rw [if_pos (by rfl)]
        go_step
        have hb : Below W2.heap.size W2 (W2.alloc (.cells #[.int .i64 0, .int .u32 0, .string ⟨#[]⟩, .slice none 0 0, .int .i64 0] 26)) := (Below.refl _ _).alloc (Nat.le_refl _) _
        have szW3 : W2.heap.size < (W2.alloc (.cells #[.int .i64 0, .int .u32 0, .string ⟨#[]⟩, .slice none 0 0, .int .i64 0] 26)).heap.size := by simp
        replace S7 := Lib.hid (S7.out.below hb)
        have KA := Lib.hid (show Blk5 (W2.alloc (.cells #[.int .i64 0, .int .u32 0, .string ⟨#[]⟩, .slice none 0 0, .int .i64 0] 26)) W2.heap.size (.int .i64 0) (.int .u32 0) (.string ⟨#[]⟩) (.slice none 0 0) (.int .i64 0) 26 from heap_alloc_last W2 _)
        have hgl : w.heap.size + 1 ≤ W2.heap.size := by have h := HBd.out.size; simpa using h
        replace HBd := Lib.hid (HBd.out.trans (hb.mono (by have h := HBd.out.size; simpa using h)))
        generalize hWn : W2.alloc (.cells #[.int .i64 0, .int .u32 0, .string ⟨#[]⟩, .slice none 0 0, .int .i64 0] 26) = W3 at hb HBd szW3 S7 KA ⊢
        clear hWn hSw
        refine ⟨⟨HBd.out, S7.out⟩, hK _ _ ?_⟩
        clear hK K
        have hSw : MadeS w W0.heap.size ky W3 := ⟨HBd.out, S7.out⟩
        obtain ⟨p0, p1, p2, p3, p4, q0, q1, q2, q3, q4, ltg⟩ := KA.out.box
        refine lexS_step (fun K hK => ?_)
        simp only [lexOp, List.getElem?_toArray, List.getElem?_cons_succ, List.getElem?_cons_zero]
        rw [if_pos (by rfl)]
        go_step
        have hb6 : Below (w.heap.size + 1) (w.alloc (.cells #[.int .i64 0, .int .u32 0, .string ⟨#[]⟩, .slice none 0 0, .int .i64 0] 26)) (((((W3.setCell ⟨W2.heap.size, 0, none⟩ (.int .i64 kd)).setCell ⟨W2.heap.size, 1, none⟩ (.int .u32 tx)).setCell ⟨W2.heap.size, 2, none⟩ (.string ⟨(List.replicate ky (0 : UInt8)).toArray⟩)).setCell ⟨W2.heap.size, 3, none⟩ (.slice (some ⟨W1.heap.size, 0, none⟩) bl bl)).setCell ⟨W2.heap.size, 4, none⟩ (.int .i64 ct)) := HBd.out.trans ((keep55 W2.heap.size W3 _ _ _ _ _).mono hgl)
        have hS6 : MadeS w W0.heap.size ky (((((W3.setCell ⟨W2.heap.size, 0, none⟩ (.int .i64 kd)).setCell ⟨W2.heap.size, 1, none⟩ (.int .u32 tx)).setCell ⟨W2.heap.size, 2, none⟩ (.string ⟨(List.replicate ky (0 : UInt8)).toArray⟩)).setCell ⟨W2.heap.size, 3, none⟩ (.slice (some ⟨W1.heap.size, 0, none⟩) bl bl)).setCell ⟨W2.heap.size, 4, none⟩ (.int .i64 ct)) := ⟨hb6, S7.out.set5 (fun _ b off e => by cases e; omega)⟩
        have HM := Lib.hid (show MadeRec w kd tx ky bl ct (.pointer (some ⟨W2.heap.size, 0, none⟩)) (((((W3.setCell ⟨W2.heap.size, 0, none⟩ (.int .i64 kd)).setCell ⟨W2.heap.size, 1, none⟩ (.int .u32 tx)).setCell ⟨W2.heap.size, 2, none⟩ (.string ⟨(List.replicate ky (0 : UInt8)).toArray⟩)).setCell ⟨W2.heap.size, 3, none⟩ (.slice (some ⟨W1.heap.size, 0, none⟩) bl bl)).setCell ⟨W2.heap.size, 4, none⟩ (.int .i64 ct)) from ⟨W2.heap.size, List.replicate ky 0, some ⟨W1.heap.size, 0, none⟩, rfl, hgl, by simp, KA.out.set, hb6⟩)
        refine ⟨hS6, hK _ _ ?_⟩
        clear hK K hb6 p0 p1 p2 p3 p4 q0 q1 q2 q3 q4
        refine lexS_stir (fun y => y = (((((W3.setCell ⟨W2.heap.size, 0, none⟩ (.int .i64 kd)).setCell ⟨W2.heap.size, 1, none⟩ (.int .u32 tx)).setCell ⟨W2.heap.size, 2, none⟩ (.string ⟨(List.replicate ky (0 : UInt8)).toArray⟩)).setCell ⟨W2.heap.size, 3, none⟩ (.slice (some ⟨W1.heap.size, 0, none⟩) bl bl)).setCell ⟨W2.heap.size, 4, none⟩ (.int .i64 ct))) (fun y hy => hy ▸ hS6) rfl ?_
        refine stir_nil (fun y hy => ?_)
        subst hy
        clear hS6 hSw
        go_wp2_with fail
        go_meet
        exact HM.out
      · intro K hK
        simp only [lexOp, List.getElem?_toArray, List.getElem?_cons_succ, List.getElem?_cons_zero]
        rw [if_pos (by rfl)]
        go_step
        have hb : Below W1.heap.size W1 (W1.alloc (.cells #[.int .i64 0, .int .u32 0, .string ⟨#[]⟩, .slice none 0 0, .int .i64 0] 26)) := (Below.refl _ _).alloc (Nat.le_refl _) _
        have szW2 : W1.heap.size < (W1.alloc (.cells #[.int .i64 0, .int .u32 0, .string ⟨#[]⟩, .slice none 0 0, .int .i64 0] 26)).heap.size := by simp
        replace S7 := Lib.hid (S7.out.below hb)
        have KA := Lib.hid (show Blk5 (W1.alloc (.cells #[.int .i64 0, .int .u32 0, .string ⟨#[]⟩, .slice none 0 0, .int .i64 0] 26)) W1.heap.size (.int .i64 0) (.int .u32 0) (.string ⟨#[]⟩) (.slice none 0 0) (.int .i64 0) 26 from heap_alloc_last W1 _)
        have hgl : w.heap.size + 1 ≤ W1.heap.size := by have h := HBd.out.size; simpa using h
        replace HBd := Lib.hid (HBd.out.trans (hb.mono (by have h := HBd.out.size; simpa using h)))
        generalize hWn : W1.alloc (.cells #[.int .i64 0, .int .u32 0, .string ⟨#[]⟩, .slice none 0 0, .int .i64 0] 26) = W2 at hb HBd szW2 S7 KA ⊢
        clear hWn hSw
        refine ⟨⟨HBd.out, S7.out⟩, hK _ _ ?_⟩
        clear hK K
        have hSw : MadeS w W0.heap.size ky W2 := ⟨HBd.out, S7.out⟩
        refine lexS_step (fun K hK => ?_)
        simp only [lexOp, List.getElem?_toArray, List.getElem?_cons_succ, List.getElem?_cons_zero]
        rw [if_pos (by rfl)]
        go_step
        have hb : Below W2.heap.size W2 (W2.alloc (.cells (Array.replicate bl (encB 0)) 5)) := (Below.refl _ _).alloc (Nat.le_refl _) _
        have szW3 : W2.heap.size < (W2.alloc (.cells (Array.replicate bl (encB 0)) 5)).heap.size := by simp
        replace S7 := Lib.hid (S7.out.below hb)
        replace KA := Lib.hid (KA.out.below hb)
        replace HBd := Lib.hid (HBd.out.trans (hb.mono (by have h := HBd.out.size; simpa using h)))
        generalize hWn : W2.alloc (.cells (Array.replicate bl (encB 0)) 5) = W3 at hb HBd szW3 S7 KA ⊢
        clear hWn hSw
        refine ⟨⟨HBd.out, S7.out⟩, hK _ _ ?_⟩
        clear hK K
        have hSw : MadeS w W0.heap.size ky W3 := ⟨HBd.out, S7.out⟩
        iterate 1
          refine lexS_step (fun K hK => ?_)
          simp only [lexOp, List.getElem?_toArray, List.getElem?_cons_succ, List.getElem?_cons_zero]
          rw [if_pos (by rfl)]
          apply Exists.intro
          refine ⟨fun w' hS' => ?_, hSw, ?_⟩
          · first | (go_simp <;> with_reducible rfl) | (go_simp; go_bits; with_reducible rfl)
          go_simp
          try go_bits
          refine hK _ _ ?_
          clear hK K
        obtain ⟨p0, p1, p2, p3, p4, q0, q1, q2, q3, q4, ltg⟩ := KA.out.box
        refine lexS_step (fun K hK => ?_)
        simp only [lexOp, List.getElem?_toArray, List.getElem?_cons_succ, List.getElem?_cons_zero]
        rw [if_pos (by rfl)]
        go_step
        have hb6 : Below (w.heap.size + 1) (w.alloc (.cells #[.int .i64 0, .int .u32 0, .string ⟨#[]⟩, .slice none 0 0, .int .i64 0] 26)) (((((W3.setCell ⟨W1.heap.size, 0, none⟩ (.int .i64 kd)).setCell ⟨W1.heap.size, 1, none⟩ (.int .u32 tx)).setCell ⟨W1.heap.size, 2, none⟩ (.string ⟨(List.replicate ky (0 : UInt8)).toArray⟩)).setCell ⟨W1.heap.size, 3, none⟩ (.slice (some ⟨W2.heap.size, 0, none⟩) bl bl)).setCell ⟨W1.heap.size, 4, none⟩ (.int .i64 ct)) := HBd.out.trans ((keep55 W1.heap.size W3 _ _ _ _ _).mono hgl)
        have hS6 : MadeS w W0.heap.size ky (((((W3.setCell ⟨W1.heap.size, 0, none⟩ (.int .i64 kd)).setCell ⟨W1.heap.size, 1, none⟩ (.int .u32 tx)).setCell ⟨W1.heap.size, 2, none⟩ (.string ⟨(List.replicate ky (0 : UInt8)).toArray⟩)).setCell ⟨W1.heap.size, 3, none⟩ (.slice (some ⟨W2.heap.size, 0, none⟩) bl bl)).setCell ⟨W1.heap.size, 4, none⟩ (.int .i64 ct)) := ⟨hb6, S7.out.set5 (fun _ b off e => by cases e; omega)⟩
        have HM := Lib.hid (show MadeRec w kd tx ky bl ct (.pointer (some ⟨W1.heap.size, 0, none⟩)) (((((W3.setCell ⟨W1.heap.size, 0, none⟩ (.int .i64 kd)).setCell ⟨W1.heap.size, 1, none⟩ (.int .u32 tx)).setCell ⟨W1.heap.size, 2, none⟩ (.string ⟨(List.replicate ky (0 : UInt8)).toArray⟩)).setCell ⟨W1.heap.size, 3, none⟩ (.slice (some ⟨W2.heap.size, 0, none⟩) bl bl)).setCell ⟨W1.heap.size, 4, none⟩ (.int .i64 ct)) from ⟨W1.heap.size, List.replicate ky 0, some ⟨W2.heap.size, 0, none⟩, rfl, hgl, by simp, KA.out.set, hb6⟩)
        refine ⟨hS6, hK _ _ ?_⟩
        clear hK K hb6 p0 p1 p2 p3 p4 q0 q1 q2 q3 q4
        refine lexS_stir (fun y => y = (((((W3.setCell ⟨W1.heap.size, 0, none⟩ (.int .i64 kd)).setCell ⟨W1.heap.size, 1, none⟩ (.int .u32 tx)).setCell ⟨W1.heap.size, 2, none⟩ (.string ⟨(List.replicate ky (0 : UInt8)).toArray⟩)).setCell ⟨W1.heap.size, 3, none⟩ (.slice (some ⟨W2.heap.size, 0, none⟩) bl bl)).setCell ⟨W1.heap.size, 4, none⟩ (.int .i64 ct))) (fun y hy => hy ▸ hS6) rfl ?_
        refine stir_nil (fun y hy => ?_)
        subst hy
        clear hS6 hSw
        go_wp2_with fail
        go_meet
        exact HM.out
    · intro K hK
      simp only [lexOp, List.getElem?_toArray, List.getElem?_cons_succ, List.getElem?_cons_zero]
      rw [if_pos (by rfl)]
      go_step
      have hb : Below W0.heap.size W0 (W0.alloc (.cells (Array.replicate bl (encB 0)) 5)) := (Below.refl _ _).alloc (Nat.le_refl _) _
      have szW1 : W0.heap.size < (W0.alloc (.cells (Array.replicate bl (encB 0)) 5)).heap.size := by simp
      replace HBd := Lib.hid (HBd.out.trans (hb.mono (by have h := HBd.out.size; simpa using h)))
      generalize hWn : W0.alloc (.cells (Array.replicate bl (encB 0)) 5) = W1 at hb HBd szW1 ⊢
      clear hWn hSw
      refine ⟨HBd.out, hK _ _ ?_⟩
      clear hK K
      have hSw : Below (w.heap.size + 1) (w.alloc (.cells #[.int .i64 0, .int .u32 0, .string ⟨#[]⟩, .slice none 0 0, .int .i64 0] 26)) W1 := HBd.out
      refine lexS_fork ?_ ?_
      · intro K hK
        simp only [lexOp, List.getElem?_toArray, List.getElem?_cons_succ, List.getElem?_cons_zero]
        rw [if_pos (by rfl)]
        go_step
        have hb : Below W1.heap.size W1 (W1.alloc (.cells (Array.replicate ky (encB 0)) 5)) := (Below.refl _ _).alloc (Nat.le_refl _) _
        have szW2 : W1.heap.size < (W1.alloc (.cells (Array.replicate ky (encB 0)) 5)).heap.size := by simp
        have S7 := Lib.hid (show Sl encB (W1.alloc (.cells (Array.replicate ky (encB 0)) 5)) (some ⟨W1.heap.size, 0, none⟩) ky (List.replicate ky (0 : UInt8)) from Sl.lit (heap_alloc_last W1 _) (by simp) (by simp))
        replace HBd := Lib.hid (HBd.out.trans (hb.mono (by have h := HBd.out.size; simpa using h)))
        generalize hWn : W1.alloc (.cells (Array.replicate ky (encB 0)) 5) = W2 at hb HBd szW2 S7 ⊢
        clear hWn hSw
        refine ⟨HBd.out, hK _ _ ?_⟩
        clear hK K
        refine lexS_strong (MadeS w W1.heap.size ky) (fun x hx => hx.1) ?_
        have hSw : MadeS w W1.heap.size ky W2 := ⟨HBd.out, S7.out⟩
        have cv : ∀ w', MadeS w W1.heap.size ky w' → (convert 22 9 (.slice (some ⟨W1.heap.size, 0, none⟩) ky ky)).run Try.prog w' = .ok (.string ⟨(List.replicate ky (0 : UInt8)).toArray⟩) w' := fun w' h => run_conv h.2 ky
        iterate 1
          refine lexS_step (fun K hK => ?_)
          simp only [lexOp, List.getElem?_toArray, List.getElem?_cons_succ, List.getElem?_cons_zero]
          rw [if_pos (by rfl)]
          apply Exists.intro
          refine ⟨fun w' hS' => ?_, hSw, ?_⟩
          · first | (go_simp <;> with_reducible rfl) | (go_simp; go_bits; with_reducible rfl)
          go_simp
          try go_bits
          refine hK _ _ ?_
          clear hK K
        clear cv
        iterate 1
          refine lexS_step (fun K hK => ?_)
          simp only [lexOp, List.getElem?_toArray, List.getElem?_cons_succ, List.getElem?_cons_zero]
          rw [if_pos (by rfl)]
          apply Exists.intro
          refine ⟨fun w' hS' => ?_, hSw, ?_⟩
          · first | (go_simp <;> with_reducible rfl) | (go_simp; go_bits; with_reducible rfl)
          go_simp
          try go_bits
          refine hK _ _ ?_
          clear hK K
        refine lexS_step (fun K hK => ?_)
        simp only [lexOp, List.getElem?_toArray, List.getElem?_cons_succ, List.getElem?_cons_zero]
        rw [if_pos (by rfl)]
        go_step
        have hb : Below W2.heap.size W2 (W2.alloc (.cells #[.int .i64 0, .int .u32 0, .string ⟨#[]⟩, .slice none 0 0, .int .i64 0] 26)) := (Below.refl _ _).alloc (Nat.le_refl _) _
        have szW3 : W2.heap.size < (W2.alloc (.cells #[.int .i64 0, .int .u32 0, .string ⟨#[]⟩, .slice none 0 0, .int .i64 0] 26)).heap.size := by simp
        replace S7 := Lib.hid (S7.out.below hb)
        have KA := Lib.hid (show Blk5 (W2.alloc (.cells #[.int .i64 0, .int .u32 0, .string ⟨#[]⟩, .slice none 0 0, .int .i64 0] 26)) W2.heap.size (.int .i64 0) (.int .u32 0) (.string ⟨#[]⟩) (.slice none 0 0) (.int .i64 0) 26 from heap_alloc_last W2 _)
        have hgl : w.heap.size + 1 ≤ W2.heap.size := by have h := HBd.out.size; simpa using h
        replace HBd := Lib.hid (HBd.out.trans (hb.mono (by have h := HBd.out.size; simpa using h)))
        generalize hWn : W2.alloc (.cells #[.int .i64 0, .int .u32 0, .string ⟨#[]⟩, .slice none 0 0, .int .i64 0] 26) = W3 at hb HBd szW3 S7 KA ⊢
        clear hWn hSw
        refine ⟨⟨HBd.out, S7.out⟩, hK _ _ ?_⟩
        clear hK K
        have hSw : MadeS w W1.heap.size ky W3 := ⟨HBd.out, S7.out⟩
        obtain ⟨p0, p1, p2, p3, p4, q0, q1, q2, q3, q4, ltg⟩ := KA.out.box
        refine lexS_step (fun K hK => ?_)
        simp only [lexOp, List.getElem?_toArray, List.getElem?_cons_succ, List.getElem?_cons_zero]
        rw [if_pos (by rfl)]
        go_step
        have hb6 : Below (w.heap.size + 1) (w.alloc (.cells #[.int .i64 0, .int .u32 0, .string ⟨#[]⟩, .slice none 0 0, .int .i64 0] 26)) (((((W3.setCell ⟨W2.heap.size, 0, none⟩ (.int .i64 kd)).setCell ⟨W2.heap.size, 1, none⟩ (.int .u32 tx)).setCell ⟨W2.heap.size, 2, none⟩ (.string ⟨(List.replicate ky (0 : UInt8)).toArray⟩)).setCell ⟨W2.heap.size, 3, none⟩ (.slice (some ⟨W0.heap.size, 0, none⟩) bl bl)).setCell ⟨W2.heap.size, 4, none⟩ (.int .i64 ct)) := HBd.out.trans ((keep55 W2.heap.size W3 _ _ _ _ _).mono hgl)
        have hS6 : MadeS w W1.heap.size ky (((((W3.setCell ⟨W2.heap.size, 0, none⟩ (.int .i64 kd)).setCell ⟨W2.heap.size, 1, none⟩ (.int .u32 tx)).setCell ⟨W2.heap.size, 2, none⟩ (.string ⟨(List.replicate ky (0 : UInt8)).toArray⟩)).setCell ⟨W2.heap.size, 3, none⟩ (.slice (some ⟨W0.heap.size, 0, none⟩) bl bl)).setCell ⟨W2.heap.size, 4, none⟩ (.int .i64 ct)) := ⟨hb6, S7.out.set5 (fun _ b off e => by cases e; omega)⟩
        have HM := Lib.hid (show MadeRec w kd tx ky bl ct (.pointer (some ⟨W2.heap.size, 0, none⟩)) (((((W3.setCell ⟨W2.heap.size, 0, none⟩ (.int .i64 kd)).setCell ⟨W2.heap.size, 1, none⟩ (.int .u32 tx)).setCell ⟨W2.heap.size, 2, none⟩ (.string ⟨(List.replicate ky (0 : UInt8)).toArray⟩)).setCell ⟨W2.heap.size, 3, none⟩ (.slice (some ⟨W0.heap.size, 0, none⟩) bl bl)).setCell ⟨W2.heap.size, 4, none⟩ (.int .i64 ct)) from ⟨W2.heap.size, List.replicate ky 0, some ⟨W0.heap.size, 0, none⟩, rfl, hgl, by simp, KA.out.set, hb6⟩)
        refine ⟨hS6, hK _ _ ?_⟩
        clear hK K hb6 p0 p1 p2 p3 p4 q0 q1 q2 q3 q4
        refine lexS_stir (fun y => y = (((((W3.setCell ⟨W2.heap.size, 0, none⟩ (.int .i64 kd)).setCell ⟨W2.heap.size, 1, none⟩ (.int .u32 tx)).setCell ⟨W2.heap.size, 2, none⟩ (.string ⟨(List.replicate ky (0 : UInt8)).toArray⟩)).setCell ⟨W2.heap.size, 3, none⟩ (.slice (some ⟨W0.heap.size, 0, none⟩) bl bl)).setCell ⟨W2.heap.size, 4, none⟩ (.int .i64 ct))) (fun y hy => hy ▸ hS6) rfl ?_
        refine stir_nil (fun y hy => ?_)
        subst hy
        clear hS6 hSw
        go_wp2_with fail
        go_meet
        exact HM.out
      · intro K hK
        simp only [lexOp, List.getElem?_toArray, List.getElem?_cons_succ, List.getElem?_cons_zero]
        rw [if_pos (by rfl)]
        go_step
        have hb : Below W1.heap.size W1 (W1.alloc (.cells #[.int .i64 0, .int .u32 0, .string ⟨#[]⟩, .slice none 0 0, .int .i64 0] 26)) := (Below.refl _ _).alloc (Nat.le_refl _) _
        have szW2 : W1.heap.size < (W1.alloc (.cells #[.int .i64 0, .int .u32 0, .string ⟨#[]⟩, .slice none 0 0, .int .i64 0] 26)).heap.size := by simp
        have KA := Lib.hid (show Blk5 (W1.alloc (.cells #[.int .i64 0, .int .u32 0, .string ⟨#[]⟩, .slice none 0 0, .int .i64 0] 26)) W1.heap.size (.int .i64 0) (.int .u32 0) (.string ⟨#[]⟩) (.slice none 0 0) (.int .i64 0) 26 from heap_alloc_last W1 _)
        have hgl : w.heap.size + 1 ≤ W1.heap.size := by have h := HBd.out.size; simpa using h
        replace HBd := Lib.hid (HBd.out.trans (hb.mono (by have h := HBd.out.size; simpa using h)))
        generalize hWn : W1.alloc (.cells #[.int .i64 0, .int .u32 0, .string ⟨#[]⟩, .slice none 0 0, .int .i64 0] 26) = W2 at hb HBd szW2 KA ⊢
        clear hWn hSw
        refine ⟨HBd.out, hK _ _ ?_⟩
        clear hK K
        have hSw : Below (w.heap.size + 1) (w.alloc (.cells #[.int .i64 0, .int .u32 0, .string ⟨#[]⟩, .slice none 0 0, .int .i64 0] 26)) W2 := HBd.out
        refine lexS_step (fun K hK => ?_)
        simp only [lexOp, List.getElem?_toArray, List.getElem?_cons_succ, List.getElem?_cons_zero]
        rw [if_pos (by rfl)]
        go_step
        have hb : Below W2.heap.size W2 (W2.alloc (.cells (Array.replicate ky (encB 0)) 5)) := (Below.refl _ _).alloc (Nat.le_refl _) _
        have szW3 : W2.heap.size < (W2.alloc (.cells (Array.replicate ky (encB 0)) 5)).heap.size := by simp
        replace KA := Lib.hid (KA.out.below hb)
        have S7 := Lib.hid (show Sl encB (W2.alloc (.cells (Array.replicate ky (encB 0)) 5)) (some ⟨W2.heap.size, 0, none⟩) ky (List.replicate ky (0 : UInt8)) from Sl.lit (heap_alloc_last W2 _) (by simp) (by simp))
        replace HBd := Lib.hid (HBd.out.trans (hb.mono (by have h := HBd.out.size; simpa using h)))
        generalize hWn : W2.alloc (.cells (Array.replicate ky (encB 0)) 5) = W3 at hb HBd szW3 KA S7 ⊢
        clear hWn hSw
        refine ⟨HBd.out, hK _ _ ?_⟩
        clear hK K
        refine lexS_strong (MadeS w W2.heap.size ky) (fun x hx => hx.1) ?_
        have hSw : MadeS w W2.heap.size ky W3 := ⟨HBd.out, S7.out⟩
        have cv : ∀ w', MadeS w W2.heap.size ky w' → (convert 22 9 (.slice (some ⟨W2.heap.size, 0, none⟩) ky ky)).run Try.prog w' = .ok (.string ⟨(List.replicate ky (0 : UInt8)).toArray⟩) w' := fun w' h => run_conv h.2 ky
        iterate 1
          refine lexS_step (fun K hK => ?_)
          simp only [lexOp, List.getElem?_toArray, List.getElem?_cons_succ, List.getElem?_cons_zero]
          rw [if_pos (by rfl)]
          apply Exists.intro
          refine ⟨fun w' hS' => ?_, hSw, ?_⟩
          · first | (go_simp <;> with_reducible rfl) | (go_simp; go_bits; with_reducible rfl)
          go_simp
          try go_bits
          refine hK _ _ ?_
          clear hK K
        clear cv
        iterate 1
          refine lexS_step (fun K hK => ?_)
          simp only [lexOp, List.getElem?_toArray, List.getElem?_cons_succ, List.getElem?_cons_zero]
          rw [if_pos (by rfl)]
          apply Exists.intro
          refine ⟨fun w' hS' => ?_, hSw, ?_⟩
          · first | (go_simp <;> with_reducible rfl) | (go_simp; go_bits; with_reducible rfl)
          go_simp
          try go_bits
          refine hK _ _ ?_
          clear hK K
        obtain ⟨p0, p1, p2, p3, p4, q0, q1, q2, q3, q4, ltg⟩ := KA.out.box
        refine lexS_step (fun K hK => ?_)
        simp only [lexOp, List.getElem?_toArray, List.getElem?_cons_succ, List.getElem?_cons_zero]
        rw [if_pos (by rfl)]
        go_step
        have hb6 : Below (w.heap.size + 1) (w.alloc (.cells #[.int .i64 0, .int .u32 0, .string ⟨#[]⟩, .slice none 0 0, .int .i64 0] 26)) (((((W3.setCell ⟨W1.heap.size, 0, none⟩ (.int .i64 kd)).setCell ⟨W1.heap.size, 1, none⟩ (.int .u32 tx)).setCell ⟨W1.heap.size, 2, none⟩ (.string ⟨(List.replicate ky (0 : UInt8)).toArray⟩)).setCell ⟨W1.heap.size, 3, none⟩ (.slice (some ⟨W0.heap.size, 0, none⟩) bl bl)).setCell ⟨W1.heap.size, 4, none⟩ (.int .i64 ct)) := HBd.out.trans ((keep55 W1.heap.size W3 _ _ _ _ _).mono hgl)
        have hS6 : MadeS w W2.heap.size ky (((((W3.setCell ⟨W1.heap.size, 0, none⟩ (.int .i64 kd)).setCell ⟨W1.heap.size, 1, none⟩ (.int .u32 tx)).setCell ⟨W1.heap.size, 2, none⟩ (.string ⟨(List.replicate ky (0 : UInt8)).toArray⟩)).setCell ⟨W1.heap.size, 3, none⟩ (.slice (some ⟨W0.heap.size, 0, none⟩) bl bl)).setCell ⟨W1.heap.size, 4, none⟩ (.int .i64 ct)) := ⟨hb6, S7.out.set5 (fun _ b off e => by cases e; omega)⟩
        have HM := Lib.hid (show MadeRec w kd tx ky bl ct (.pointer (some ⟨W1.heap.size, 0, none⟩)) (((((W3.setCell ⟨W1.heap.size, 0, none⟩ (.int .i64 kd)).setCell ⟨W1.heap.size, 1, none⟩ (.int .u32 tx)).setCell ⟨W1.heap.size, 2, none⟩ (.string ⟨(List.replicate ky (0 : UInt8)).toArray⟩)).setCell ⟨W1.heap.size, 3, none⟩ (.slice (some ⟨W0.heap.size, 0, none⟩) bl bl)).setCell ⟨W1.heap.size, 4, none⟩ (.int .i64 ct)) from ⟨W1.heap.size, List.replicate ky 0, some ⟨W0.heap.size, 0, none⟩, rfl, hgl, by simp, KA.out.set, hb6⟩)
        refine ⟨hS6, hK _ _ ?_⟩
        clear hK K hb6 p0 p1 p2 p3 p4 q0 q1 q2 q3 q4
        refine lexS_stir (fun y => y = (((((W3.setCell ⟨W1.heap.size, 0, none⟩ (.int .i64 kd)).setCell ⟨W1.heap.size, 1, none⟩ (.int .u32 tx)).setCell ⟨W1.heap.size, 2, none⟩ (.string ⟨(List.replicate ky (0 : UInt8)).toArray⟩)).setCell ⟨W1.heap.size, 3, none⟩ (.slice (some ⟨W0.heap.size, 0, none⟩) bl bl)).setCell ⟨W1.heap.size, 4, none⟩ (.int .i64 ct))) (fun y hy => hy ▸ hS6) rfl ?_
        refine stir_nil (fun y hy => ?_)
        subst hy
        clear hS6 hSw
        go_wp2_with fail
        go_meet
        exact HM.out
    · intro K hK
      simp only [lexOp, List.getElem?_toArray, List.getElem?_cons_succ, List.getElem?_cons_zero]
      rw [if_pos (by rfl)]
      go_step
      have hb : Below W0.heap.size W0 (W0.alloc (.cells #[.int .i64 0, .int .u32 0, .string ⟨#[]⟩, .slice none 0 0, .int .i64 0] 26)) := (Below.refl _ _).alloc (Nat.le_refl _) _
      have szW1 : W0.heap.size < (W0.alloc (.cells #[.int .i64 0, .int .u32 0, .string ⟨#[]⟩, .slice none 0 0, .int .i64 0] 26)).heap.size := by simp
      have KA := Lib.hid (show Blk5 (W0.alloc (.cells #[.int .i64 0, .int .u32 0, .string ⟨#[]⟩, .slice none 0 0, .int .i64 0] 26)) W0.heap.size (.int .i64 0) (.int .u32 0) (.string ⟨#[]⟩) (.slice none 0 0) (.int .i64 0) 26 from heap_alloc_last W0 _)
      have hgl : w.heap.size + 1 ≤ W0.heap.size := by have h := HBd.out.size; simpa using h
      replace HBd := Lib.hid (HBd.out.trans (hb.mono (by have h := HBd.out.size; simpa using h)))
      generalize hWn : W0.alloc (.cells #[.int .i64 0, .int .u32 0, .string ⟨#[]⟩, .slice none 0 0, .int .i64 0] 26) = W1 at hb HBd szW1 KA ⊢
      clear hWn hSw
      refine ⟨HBd.out, hK _ _ ?_⟩
      clear hK K
      have hSw : Below (w.heap.size + 1) (w.alloc (.cells #[.int .i64 0, .int .u32 0, .string ⟨#[]⟩, .slice none 0 0, .int .i64 0] 26)) W1 := HBd.out
      refine lexS_fork ?_ ?_
      · intro K hK
        simp only [lexOp, List.getElem?_toArray, List.getElem?_cons_succ, List.getElem?_cons_zero]
        rw [if_pos (by rfl)]
        go_step
        have hb : Below W1.heap.size W1 (W1.alloc (.cells (Array.replicate ky (encB 0)) 5)) := (Below.refl _ _).alloc (Nat.le_refl _) _
        have szW2 : W1.heap.size < (W1.alloc (.cells (Array.replicate ky (encB 0)) 5)).heap.size := by simp
        replace KA := Lib.hid (KA.out.below hb)
        have S7 := Lib.hid (show Sl encB (W1.alloc (.cells (Array.replicate ky (encB 0)) 5)) (some ⟨W1.heap.size, 0, none⟩) ky (List.replicate ky (0 : UInt8)) from Sl.lit (heap_alloc_last W1 _) (by simp) (by simp))
        replace HBd := Lib.hid (HBd.out.trans (hb.mono (by have h := HBd.out.size; simpa using h)))
        generalize hWn : W1.alloc (.cells (Array.replicate ky (encB 0)) 5) = W2 at hb HBd szW2 KA S7 ⊢
        clear hWn hSw
        refine ⟨HBd.out, hK _ _ ?_⟩
        clear hK K
        refine lexS_strong (MadeS w W1.heap.size ky) (fun x hx => hx.1) ?_
        have hSw : MadeS w W1.heap.size ky W2 := ⟨HBd.out, S7.out⟩
        have cv : ∀ w', MadeS w W1.heap.size ky w' → (convert 22 9 (.slice (some ⟨W1.heap.size, 0, none⟩) ky ky)).run Try.prog w' = .ok (.string ⟨(List.replicate ky (0 : UInt8)).toArray⟩) w' := fun w' h => run_conv h.2 ky
        iterate 1
          refine lexS_step (fun K hK => ?_)
          simp only [lexOp, List.getElem?_toArray, List.getElem?_cons_succ, List.getElem?_cons_zero]
          rw [if_pos (by rfl)]
          apply Exists.intro
          refine ⟨fun w' hS' => ?_, hSw, ?_⟩
          · first | (go_simp <;> with_reducible rfl) | (go_simp; go_bits; with_reducible rfl)
          go_simp
          try go_bits
          refine hK _ _ ?_
          clear hK K
        clear cv
        refine lexS_step (fun K hK => ?_)
        simp only [lexOp, List.getElem?_toArray, List.getElem?_cons_succ, List.getElem?_cons_zero]
        rw [if_pos (by rfl)]
        go_step
        have hb : Below W2.heap.size W2 (W2.alloc (.cells (Array.replicate bl (encB 0)) 5)) := (Below.refl _ _).alloc (Nat.le_refl _) _
        have szW3 : W2.heap.size < (W2.alloc (.cells (Array.replicate bl (encB 0)) 5)).heap.size := by simp
        replace S7 := Lib.hid (S7.out.below hb)
        replace KA := Lib.hid (KA.out.below hb)
        replace HBd := Lib.hid (HBd.out.trans (hb.mono (by have h := HBd.out.size; simpa using h)))
        generalize hWn : W2.alloc (.cells (Array.replicate bl (encB 0)) 5) = W3 at hb HBd szW3 S7 KA ⊢
        clear hWn hSw
        refine ⟨⟨HBd.out, S7.out⟩, hK _ _ ?_⟩
        clear hK K
        have hSw : MadeS w W1.heap.size ky W3 := ⟨HBd.out, S7.out⟩
        iterate 1
          refine lexS_step (fun K hK => ?_)
          simp only [lexOp, List.getElem?_toArray, List.getElem?_cons_succ, List.getElem?_cons_zero]
          rw [if_pos (by rfl)]
          apply Exists.intro
          refine ⟨fun w' hS' => ?_, hSw, ?_⟩
          · first | (go_simp <;> with_reducible rfl) | (go_simp; go_bits; with_reducible rfl)
          go_simp
          try go_bits
          refine hK _ _ ?_
          clear hK K
        obtain ⟨p0, p1, p2, p3, p4, q0, q1, q2, q3, q4, ltg⟩ := KA.out.box
        refine lexS_step (fun K hK => ?_)
        simp only [lexOp, List.getElem?_toArray, List.getElem?_cons_succ, List.getElem?_cons_zero]
        rw [if_pos (by rfl)]
        go_step
        have hb6 : Below (w.heap.size + 1) (w.alloc (.cells #[.int .i64 0, .int .u32 0, .string ⟨#[]⟩, .slice none 0 0, .int .i64 0] 26)) (((((W3.setCell ⟨W0.heap.size, 0, none⟩ (.int .i64 kd)).setCell ⟨W0.heap.size, 1, none⟩ (.int .u32 tx)).setCell ⟨W0.heap.size, 2, none⟩ (.string ⟨(List.replicate ky (0 : UInt8)).toArray⟩)).setCell ⟨W0.heap.size, 3, none⟩ (.slice (some ⟨W2.heap.size, 0, none⟩) bl bl)).setCell ⟨W0.heap.size, 4, none⟩ (.int .i64 ct)) := HBd.out.trans ((keep55 W0.heap.size W3 _ _ _ _ _).mono hgl)
        have hS6 : MadeS w W1.heap.size ky (((((W3.setCell ⟨W0.heap.size, 0, none⟩ (.int .i64 kd)).setCell ⟨W0.heap.size, 1, none⟩ (.int .u32 tx)).setCell ⟨W0.heap.size, 2, none⟩ (.string ⟨(List.replicate ky (0 : UInt8)).toArray⟩)).setCell ⟨W0.heap.size, 3, none⟩ (.slice (some ⟨W2.heap.size, 0, none⟩) bl bl)).setCell ⟨W0.heap.size, 4, none⟩ (.int .i64 ct)) := ⟨hb6, S7.out.set5 (fun _ b off e => by cases e; omega)⟩
        have HM := Lib.hid (show MadeRec w kd tx ky bl ct (.pointer (some ⟨W0.heap.size, 0, none⟩)) (((((W3.setCell ⟨W0.heap.size, 0, none⟩ (.int .i64 kd)).setCell ⟨W0.heap.size, 1, none⟩ (.int .u32 tx)).setCell ⟨W0.heap.size, 2, none⟩ (.string ⟨(List.replicate ky (0 : UInt8)).toArray⟩)).setCell ⟨W0.heap.size, 3, none⟩ (.slice (some ⟨W2.heap.size, 0, none⟩) bl bl)).setCell ⟨W0.heap.size, 4, none⟩ (.int .i64 ct)) from ⟨W0.heap.size, List.replicate ky 0, some ⟨W2.heap.size, 0, none⟩, rfl, hgl, by simp, KA.out.set, hb6⟩)
        refine ⟨hS6, hK _ _ ?_⟩
        clear hK K hb6 p0 p1 p2 p3 p4 q0 q1 q2 q3 q4
        refine lexS_stir (fun y => y = (((((W3.setCell ⟨W0.heap.size, 0, none⟩ (.int .i64 kd)).setCell ⟨W0.heap.size, 1, none⟩ (.int .u32 tx)).setCell ⟨W0.heap.size, 2, none⟩ (.string ⟨(List.replicate ky (0 : UInt8)).toArray⟩)).setCell ⟨W0.heap.size, 3, none⟩ (.slice (some ⟨W2.heap.size, 0, none⟩) bl bl)).setCell ⟨W0.heap.size, 4, none⟩ (.int .i64 ct))) (fun y hy => hy ▸ hS6) rfl ?_
        refine stir_nil (fun y hy => ?_)
        subst hy
        clear hS6 hSw
        go_wp2_with fail
        go_meet
        exact HM.out
      · intro K hK
        simp only [lexOp, List.getElem?_toArray, List.getElem?_cons_succ, List.getElem?_cons_zero]
        rw [if_pos (by rfl)]
        go_step
        have hb : Below W1.heap.size W1 (W1.alloc (.cells (Array.replicate bl (encB 0)) 5)) := (Below.refl _ _).alloc (Nat.le_refl _) _
        have szW2 : W1.heap.size < (W1.alloc (.cells (Array.replicate bl (encB 0)) 5)).heap.size := by simp
        replace KA := Lib.hid (KA.out.below hb)
        replace HBd := Lib.hid (HBd.out.trans (hb.mono (by have h := HBd.out.size; simpa using h)))
        generalize hWn : W1.alloc (.cells (Array.replicate bl (encB 0)) 5) = W2 at hb HBd szW2 KA ⊢
        clear hWn hSw
        refine ⟨HBd.out, hK _ _ ?_⟩
        clear hK K
        have hSw : Below (w.heap.size + 1) (w.alloc (.cells #[.int .i64 0, .int .u32 0, .string ⟨#[]⟩, .slice none 0 0, .int .i64 0] 26)) W2 := HBd.out
        refine lexS_step (fun K hK => ?_)
        simp only [lexOp, List.getElem?_toArray, List.getElem?_cons_succ, List.getElem?_cons_zero]
        rw [if_pos (by rfl)]
        go_step
        have hb : Below W2.heap.size W2 (W2.alloc (.cells (Array.replicate ky (encB 0)) 5)) := (Below.refl _ _).alloc (Nat.le_refl _) _
        have szW3 : W2.heap.size < (W2.alloc (.cells (Array.replicate ky (encB 0)) 5)).heap.size := by simp
        replace KA := Lib.hid (KA.out.below hb)
        have S7 := Lib.hid (show Sl encB (W2.alloc (.cells (Array.replicate ky (encB 0)) 5)) (some ⟨W2.heap.size, 0, none⟩) ky (List.replicate ky (0 : UInt8)) from Sl.lit (heap_alloc_last W2 _) (by simp) (by simp))
        replace HBd := Lib.hid (HBd.out.trans (hb.mono (by have h := HBd.out.size; simpa using h)))
        generalize hWn : W2.alloc (.cells (Array.replicate ky (encB 0)) 5) = W3 at hb HBd szW3 KA S7 ⊢
        clear hWn hSw
        refine ⟨HBd.out, hK _ _ ?_⟩
        clear hK K
        refine lexS_strong (MadeS w W2.heap.size ky) (fun x hx => hx.1) ?_
        have hSw : MadeS w W2.heap.size ky W3 := ⟨HBd.out, S7.out⟩
        have cv : ∀ w', MadeS w W2.heap.size ky w' → (convert 22 9 (.slice (some ⟨W2.heap.size, 0, none⟩) ky ky)).run Try.prog w' = .ok (.string ⟨(List.replicate ky (0 : UInt8)).toArray⟩) w' := fun w' h => run_conv h.2 ky
        iterate 1
          refine lexS_step (fun K hK => ?_)
          simp only [lexOp, List.getElem?_toArray, List.getElem?_cons_succ, List.getElem?_cons_zero]
          rw [if_pos (by rfl)]
          apply Exists.intro
          refine ⟨fun w' hS' => ?_, hSw, ?_⟩
          · first | (go_simp <;> with_reducible rfl) | (go_simp; go_bits; with_reducible rfl)
          go_simp
          try go_bits
          refine hK _ _ ?_
          clear hK K
        clear cv
        iterate 1
          refine lexS_step (fun K hK => ?_)
          simp only [lexOp, List.getElem?_toArray, List.getElem?_cons_succ, List.getElem?_cons_zero]
          rw [if_pos (by rfl)]
          apply Exists.intro
          refine ⟨fun w' hS' => ?_, hSw, ?_⟩
          · first | (go_simp <;> with_reducible rfl) | (go_simp; go_bits; with_reducible rfl)
          go_simp
          try go_bits
          refine hK _ _ ?_
          clear hK K
        obtain ⟨p0, p1, p2, p3, p4, q0, q1, q2, q3, q4, ltg⟩ := KA.out.box
        refine lexS_step (fun K hK => ?_)
        simp only [lexOp, List.getElem?_toArray, List.getElem?_cons_succ, List.getElem?_cons_zero]
        rw [if_pos (by rfl)]
        go_step
        have hb6 : Below (w.heap.size + 1) (w.alloc (.cells #[.int .i64 0, .int .u32 0, .string ⟨#[]⟩, .slice none 0 0, .int .i64 0] 26)) (((((W3.setCell ⟨W0.heap.size, 0, none⟩ (.int .i64 kd)).setCell ⟨W0.heap.size, 1, none⟩ (.int .u32 tx)).setCell ⟨W0.heap.size, 2, none⟩ (.string ⟨(List.replicate ky (0 : UInt8)).toArray⟩)).setCell ⟨W0.heap.size, 3, none⟩ (.slice (some ⟨W1.heap.size, 0, none⟩) bl bl)).setCell ⟨W0.heap.size, 4, none⟩ (.int .i64 ct)) := HBd.out.trans ((keep55 W0.heap.size W3 _ _ _ _ _).mono hgl)
        have hS6 : MadeS w W2.heap.size ky (((((W3.setCell ⟨W0.heap.size, 0, none⟩ (.int .i64 kd)).setCell ⟨W0.heap.size, 1, none⟩ (.int .u32 tx)).setCell ⟨W0.heap.size, 2, none⟩ (.string ⟨(List.replicate ky (0 : UInt8)).toArray⟩)).setCell ⟨W0.heap.size, 3, none⟩ (.slice (some ⟨W1.heap.size, 0, none⟩) bl bl)).setCell ⟨W0.heap.size, 4, none⟩ (.int .i64 ct)) := ⟨hb6, S7.out.set5 (fun _ b off e => by cases e; omega)⟩
        have HM := Lib.hid (show MadeRec w kd tx ky bl ct (.pointer (some ⟨W0.heap.size, 0, none⟩)) (((((W3.setCell ⟨W0.heap.size, 0, none⟩ (.int .i64 kd)).setCell ⟨W0.heap.size, 1, none⟩ (.int .u32 tx)).setCell ⟨W0.heap.size, 2, none⟩ (.string ⟨(List.replicate ky (0 : UInt8)).toArray⟩)).setCell ⟨W0.heap.size, 3, none⟩ (.slice (some ⟨W1.heap.size, 0, none⟩) bl bl)).setCell ⟨W0.heap.size, 4, none⟩ (.int .i64 ct)) from ⟨W0.heap.size, List.replicate ky 0, some ⟨W1.heap.size, 0, none⟩, rfl, hgl, by simp, KA.out.set, hb6⟩)
        refine ⟨hS6, hK _ _ ?_⟩
        clear hK K hb6 p0 p1 p2 p3 p4 q0 q1 q2 q3 q4
        refine lexS_stir (fun y => y = (((((W3.setCell ⟨W0.heap.size, 0, none⟩ (.int .i64 kd)).setCell ⟨W0.heap.size, 1, none⟩ (.int .u32 tx)).setCell ⟨W0.heap.size, 2, none⟩ (.string ⟨(List.replicate ky (0 : UInt8)).toArray⟩)).setCell ⟨W0.heap.size, 3, none⟩ (.slice (some ⟨W1.heap.size, 0, none⟩) bl bl)).setCell ⟨W0.heap.size, 4, none⟩ (.int .i64 ct))) (fun y hy => hy ▸ hS6) rfl ?_
        refine stir_nil (fun y hy => ?_)
        subst hy
        clear hS6 hSw
        go_wp2_with fail
        go_meet
        exact HM.out
  case rest =>
    obtain ⟨g, kb0, a0, rfl, hg, hkb, hK1, hB1⟩ := hcut
    obtain ⟨W1, rfl⟩ : ∃ W1, W1 = wc := ⟨_, rfl⟩
    have KG := Lib.hid hK1
    have KZ := Lib.hid (K0.out.belowB hB1 (Nat.lt_succ_self _))
    have H := Lib.hid (HB.out.trans (hB1.mono (Nat.le_succ _)))
    clear hK1 hB1 K0
    obtain ⟨p0, p1, p2, p3, p4, q0, q1, q2, q3, q4, ltg⟩ := KG.out.box
    obtain ⟨r0, r1, r2, r3, r4, s0, s1, s2, s3, s4, ltz⟩ := KZ.out.box
    have hne : ¬ g = w.heap.size := by omega
    have hne' : ¬ w.heap.size = g := by omega
    have hR := refRight5_all W1 kd tx kb0 a0 bl bl ct (by unfold IntR; omega) (by omega) (by unfold IntR; omega)
    rw [hkb] at hR
    obtain ⟨ok, hok⟩ : ∃ ok, recOk kd tx ky bl ct = ok := ⟨_, rfl⟩
    rw [hok] at hR
    have HRT := Lib.hid hR
    have HOK := Lib.hid hok
    have HKB := Lib.hid hkb
    clear hR hok hkb
    go_wp2_with fail
    with_reducible refine HRT.out.mono ?_
    rintro e W2 ⟨rfl, hb⟩
    have hbK : Below W1.heap.size W1 W2 := by first | exact hb | exact (Below.refl _ _).drew.trans (hb.mono (by simp)) | exact ((Below.refl _ _).alloc (Nat.le_refl _) _).trans (hb.mono (by simp)) | exact (((Below.refl _ _).alloc (Nat.le_refl _) _).alloc (by simp) _).trans (hb.mono (by simp; omega)) | exact ((((Below.refl _ _).alloc (Nat.le_refl _) _).alloc (by simp) _).alloc (by simp; omega) _).trans (hb.mono (by simp; omega))
    replace KG := Lib.hid (KG.out.below hbK)
    replace KZ := Lib.hid (KZ.out.below hbK)
    replace H := Lib.hid (H.out.trans (hbK.mono H.out.size))
    clear hbK
    clear hb HRT p0 p1 p2 p3 p4 q0 q1 q2 q3 q4 ltg r0 r1 r2 r3 r4 s0 s1 s2 s3 s4 ltz
    obtain ⟨p0, p1, p2, p3, p4, q0, q1, q2, q3, q4, ltg⟩ := KG.out.box
    obtain ⟨r0, r1, r2, r3, r4, s0, s1, s2, s3, s4, ltz⟩ := KZ.out.box
    cases ok with
    | false =>
      go_wp2_with fail
      have hF := H.out.trans ((keep55 w.heap.size W2 (.int .i64 0) (.int .u32 0) (.string ⟨#[]⟩) (.slice none 0 0) (.int .i64 0)))
      exact bodyPost_ret (results_cell_row_tmp3 rfl _ _ w.heap.size _ _ _ _ rfl KZ.out.set Try.underlying26 rfl infoRec) rfl ⟨(fun _ => ⟨rfl, hF⟩), (fun h => by rw [HOK.out] at h; cases h), (fun h => by rw [HOK.out] at h; cases h), (fun h => by rw [HOK.out] at h; cases h)⟩
    | true =>
      have hS := Size5_any W2 kd tx kb0 a0 bl bl ct (by rw [HKB.out]; omega) (by omega)
      rw [HKB.out] at hS
      have HSZ := Lib.hid hS
      clear hS
      go_wp2_with fail
      with_reducible refine HSZ.out.mono ?_
      rintro e W3 ⟨rfl, hb⟩
      have hbK : Below W2.heap.size W2 W3 := by first | exact hb | exact (Below.refl _ _).drew.trans (hb.mono (by simp)) | exact ((Below.refl _ _).alloc (Nat.le_refl _) _).trans (hb.mono (by simp)) | exact (((Below.refl _ _).alloc (Nat.le_refl _) _).alloc (by simp) _).trans (hb.mono (by simp; omega)) | exact ((((Below.refl _ _).alloc (Nat.le_refl _) _).alloc (by simp) _).alloc (by simp; omega) _).trans (hb.mono (by simp; omega))
      replace KG := Lib.hid (KG.out.below hbK)
      replace KZ := Lib.hid (KZ.out.below hbK)
      replace H := Lib.hid (H.out.trans (hbK.mono H.out.size))
      clear hbK
      clear hb HSZ p0 p1 p2 p3 p4 q0 q1 q2 q3 q4 ltg r0 r1 r2 r3 r4 s0 s1 s2 s3 s4 ltz
      obtain ⟨p0, p1, p2, p3, p4, q0, q1, q2, q3, q4, ltg⟩ := KG.out.box
      obtain ⟨r0, r1, r2, r3, r4, s0, s1, s2, s3, s4, ltz⟩ := KZ.out.box
      by_cases hsz : n < 16 + ky + bl
      · have z3 : decide ((n : Int) < 11 + (ky : Int) + (bl : Int) + 5) = true := decide_eq_true (by omega)
        go_wp2_with fail
        have hF := H.out.trans ((keep55 w.heap.size W3 (.int .i64 0) (.int .u32 0) (.string ⟨#[]⟩) (.slice none 0 0) (.int .i64 0)))
        exact bodyPost_ret (results_cell_row_tmp3 rfl _ _ w.heap.size _ _ _ _ rfl KZ.out.set Try.underlying26 rfl infoRec) rfl ⟨(fun h => by rw [HOK.out] at h; cases h), (fun _ _ => ⟨rfl, hF⟩), (fun _ h => by omega), (fun _ h => by omega)⟩
      · have z3 : decide ((n : Int) < 11 + (ky : Int) + (bl : Int) + 5) = false := decide_eq_false (by omega)
        have hcv := run_conv (part5 (HS.out.below H.out) (f := 11) (n := ky) (by omega) (by omega)) (cap - 11)
        have hsl1 : (11 : Int) ≤ 11 + (ky : Int) := by omega
        have hsl2 : 11 + (ky : Int) ≤ (cap : Int) := by omega
        have HSZ := Lib.hid hsz
        obtain ⟨kl, hkl⟩ : ∃ l, (bs.drop 11).take ky = l := ⟨_, rfl⟩
        obtain ⟨bl', hbl'⟩ : ∃ l, (bs.drop (11 + ky)).take bl = l := ⟨_, rfl⟩
        rw [hkl] at hcv
        have HKL := Lib.hid hkl
        have HBL := Lib.hid hbl'
        clear hkl hbl'
        go_upto_region 18 with fail
        have hS4 := part5 (HS.out.below H.out) (f := 11 + ky) (n := bl) (by have := HSZ.out; omega) (by have := HSZ.out; omega)
        rw [HBL.out] at hS4
        have hB4 : Below (w.heap.size + 1) W3 (W3.setCell ⟨g, 2, none⟩ (.string ⟨kl.toArray⟩)) := (Below.refl _ _).setCell (p := ⟨g, 2, none⟩) hg _
        have S4 := Lib.hid (Sl.set1 hS4 (g := g) (o := 2) (v := .string ⟨kl.toArray⟩) (fun _ b' o' e => by cases e; omega))
        have SB4 := Lib.hid (Sl.set1 (HS.out.below H.out) (g := g) (o := 2) (v := .string ⟨kl.toArray⟩) (fun _ b' o' e => by cases e; omega))
        have KG4 := Lib.hid (KG.out.set2 (v' := .string ⟨kl.toArray⟩))
        have KZ4 := Lib.hid (KZ.out.belowB hB4 (Nat.lt_succ_self _))
        have H4 := Lib.hid (H.out.trans (hB4.mono (Nat.le_succ _)))
        clear hS4 hB4 KG KZ H p0 p1 p2 p3 p4 q0 q1 q2 q3 q4 ltg r0 r1 r2 r3 r4 s0 s1 s2 s3 s4 ltz hcv
        generalize hW4 : W3.setCell ⟨g, 2, none⟩ (.string ⟨kl.toArray⟩) = W4 at S4 SB4 KG4 KZ4 H4 ⊢
        clear hW4
        have hck : ¬ cap = 11 + ky := by have := HSZ.out; omega
        have hse : 11 + (ky : Int) + (bl : Int) + 5 - 5 = 11 + (ky : Int) + (bl : Int) := by omega
        have hse2 : 11 + ky + bl - (11 + ky) = bl := by omega
        have hsl3 : (11 : Int) + (ky : Int) ≤ 11 + (ky : Int) + (bl : Int) := by omega
        have hsl4 : (11 : Int) + (ky : Int) + (bl : Int) ≤ (cap : Int) := by have := HSZ.out; omega
        have hS4' : Sl encB W4 (some ⟨b, off + (11 + ky), none⟩) (11 + ky + bl - (11 + ky)) bl' := by rw [hse2]; exact S4.out
        replace S4 := Lib.hid hS4'
        clear hS4'
        have HS2 := Lib.hid hse2
        clear hse2
        have HO := Lib.hid (own_empty W4 W4.heap.size 5 (Nat.le_refl _))
        have HE := Lib.hid ((Below.refl W4.heap.size W4).alloc (Nat.le_refl _) (.cells #[] 5))
        obtain ⟨p0, p1, p2, p3, p4, q0, q1, q2, q3, q4, ltg⟩ := KG4.out.box
        go_wp2_with (at_builtin; (refine wpList_app1 oneB rfl _ _ _ rfl W4.heap.size _ _ _ rfl HO.out _ (11 + ky + bl - (11 + ky)) _ rfl ((S4.out.below HE.out).src encB_cell Try.underlying22 _) (by omega) (by unfold maxLen; omega) HE.out.size ?_; intro v5 w5 hown5 hg5 hb5; rw [List.map_nil, List.nil_append, Nat.zero_add, HS2.out] at hown5; obtain ⟨a5, c5, hv5, _, hc5⟩ := Sl.ofOwn hown5; subst hv5; have HO5 := Lib.hid hown5; have hb5' := HE.out.trans hb5; have H5 := Lib.hid (H4.out.trans (hb5'.mono H4.out.size)); have KG5 := Lib.hid (KG4.out.below hb5'); have KZ5 := Lib.hid (KZ4.out.below hb5'); have SB5 := Lib.hid (SB4.out.below hb5'); have hlt5 := HE.out.size; clear HO HE hown5 hg5 hb5 hb5' H4 KG4 KZ4 SB4 S4 p0 p1 p2 p3 p4 q0 q1 q2 q3 q4; obtain ⟨p0, p1, p2, p3, p4, q0, q1, q2, q3, q4, _⟩ := KG5.out.box))
        have hgW : g < W4.heap.size := ltg
        have hB6 : Below (w.heap.size + 1) w5 (w5.setCell ⟨g, 3, none⟩ (.slice a5 bl c5)) := (Below.refl _ _).setCell (p := ⟨g, 3, none⟩) hg _
        have KG6 := Lib.hid (KG5.out.set3 (v' := .slice a5 bl c5))
        have KZ6 := Lib.hid (KZ5.out.belowB hB6 (Nat.lt_succ_self _))
        have H6 := Lib.hid (H5.out.trans (hB6.mono (Nat.le_succ _)))
        have SB6 := Lib.hid (Sl.set1 SB5.out (g := g) (o := 3) (v := .slice a5 bl c5) (fun _ b' o' e => by cases e; omega))
        have HO6 := Lib.hid (ownsRow_setCell_below (a := ⟨g, 3, none⟩) HO5.out hgW (.slice a5 bl c5))
        have hwW : w.heap.size < W4.heap.size := by omega
        clear hB6 KG5 KZ5 H5 SB5 HO5 p0 p1 p2 p3 p4 q0 q1 q2 q3 q4
        generalize hW6 : w5.setCell ⟨g, 3, none⟩ (.slice a5 bl c5) = W6 at KG6 KZ6 H6 SB6 HO6 ⊢
        clear hW6
        have hRB := refBytes5_any W6.drew u0 tx kl a5 bl c5 bl' ct (Sl.ofOwnS HO6.out).1 (by rw [HKD.out, ← HKL.out]; rw [show ((bs.drop 11).take ky).length = ky by have := HS.out.1; have := HSZ.out; simp; omega]; exact HOK.out) htx'
        rw [HKD.out] at hRB
        have HRB := Lib.hid hRB
        clear hRB
        have hs1 : 11 + (ky : Int) + (bl : Int) + 5 - 1 = 15 + (ky : Int) + (bl : Int) := by omega
        have hsl5 : (15 : Int) + (ky : Int) + (bl : Int) ≤ (cap : Int) := by have := HSZ.out; omega
        have hsl6 : (15 : Int) + (ky : Int) + (bl : Int) < (n : Int) := by have := HSZ.out; omega
        have hsl7 : (0 : Int) ≤ 15 + (ky : Int) + (bl : Int) := by omega
        have cvB : ∀ w', Below W6.heap.size W6 w' → (convert 22 9 (.slice (some ⟨b, off, none⟩) (15 + ky + bl) cap)).run Try.prog w' = .ok (.string ⟨(bs.take (15 + ky + bl)).toArray⟩) w' := fun w' h => run_conv ((SB6.out.below h).take (by have := HSZ.out; omega)) cap
        have L1 := fun w' (h : Below W6.heap.size W6 w') => (KG6.out.below h).cells
        have hSw : Below W6.heap.size W6 W6.drew := (Below.refl _ _).drew
        refine wp_region_lexS (Below W6.heap.size W6) (.of [(0, true), (3, true), (4, true), (5, true), (6, true), (7, true), (1, false)] (.stir [(2, true), (8, true)])) (by kernel_rfl) (by kernel_rfl) (fun c a d v w h => by cases d <;> exact h) ?_
        iterate 6
          refine lexS_step (fun K hK => ?_)
          simp only [lexOp, List.getElem?_toArray, List.getElem?_cons_succ, List.getElem?_cons_zero]
          rw [if_pos (by rfl)]
          apply Exists.intro
          refine ⟨fun w' hS' => ?_, hSw, ?_⟩
          · first | (go_simp <;> with_reducible rfl) | (go_simp; go_bits; with_reducible rfl)
          go_simp
          try go_bits
          refine hK _ _ ?_
          clear hK K
        clear cvB
        refine lexS_step (fun K hK => ?_)
        simp only [lexOp, List.getElem?_toArray, List.getElem?_cons_succ, List.getElem?_cons_zero]
        rw [if_pos (by rfl)]
        go_step
        with_reducible refine HRB.out.mono ?_
        rintro e w8 ⟨a8, n8, c8, rfl, hs8, hc8, hb8⟩
        replace hSw : Below W6.heap.size W6 w8 := hSw.trans (hb8.mono (by simp))
        refine ⟨hSw, ?_⟩
        go_simp
        refine hK _ _ ?_
        clear hK K L1 HRB
        have S8 := Lib.hid hs8
        replace KG6 := Lib.hid (KG6.out.below hSw)
        replace KZ6 := Lib.hid (KZ6.out.below hSw)
        replace SB6 := Lib.hid (SB6.out.below hSw)
        replace HO6 := Lib.hid (own_below HO6.out hSw)
        replace H6 := Lib.hid (H6.out.trans (hSw.mono H6.out.size))
        have hSS : ∀ x, Below w8.heap.size w8 x → Below W6.heap.size W6 x := fun x hx => hSw.trans (hx.mono hSw.size)
        refine lexS_stir (Below w8.heap.size w8) hSS (Below.refl _ _) ?_
        clear hSS hSw hs8 hb8
        have h16 : 16 + ky + bl ≤ bs.length := by have := HS.out.1; have := HSZ.out; omega
        have hiff := HR3.out h16
        rw [HKL.out, HBL.out] at hiff
        by_cases hsum : sumN (bs.take (11 + ky + bl)) = getN ((bs.drop (11 + ky + bl)).take 4)
        · have hD := hiff.2 hsum
          have cvA : ∀ w', Below w8.heap.size w8 w' → (convert 22 9 (.slice a8 n8 c8)).run Try.prog w' = .ok (.string ⟨(bs.take (15 + ky + bl)).toArray⟩) w' := fun w' h => by rw [← hD]; exact run_conv (S8.out.below h) c8
          have HSUM := Lib.hid hsum
          clear hD hsum hiff S8
          generalize hDD : bs.take (15 + ky + bl) = D at cvA ⊢
          clear hDD
          iterate 2
            refine stir_step (fun K hK => ?_)
            simp only [stirOp, List.getElem?_toArray, List.getElem?_cons_succ, List.getElem?_cons_zero]
            rw [if_pos (by rfl)]
            apply Exists.intro
            refine ⟨fun w' hS' => ?_, ?_⟩
            · first | (go_simp <;> with_reducible rfl) | (go_simp; go_bits; with_reducible rfl)
            go_simp
            try go_bits
            refine hK _ ?_
            clear hK K
          refine stir_nil (fun W9 h9 => ?_)
          have KG9 := Lib.hid (KG6.out.below h9)
          have KZ9 := Lib.hid (KZ6.out.below h9)
          have SB9 := Lib.hid (SB6.out.below h9)
          have HO9 := Lib.hid (own_below HO6.out h9)
          have H9 := Lib.hid (H6.out.trans (h9.mono H6.out.size))
          clear h9 KG6 KZ6 SB6 HO6 H6 cvA
          obtain ⟨la, hla⟩ : ∃ la, (bs.getD (15 + ky + bl) 0).toNat = la := ⟨_, rfl⟩
          have hla2 := u8_lt (bs.getD (15 + ky + bl) 0)
          rw [hla] at hla2
          have hcl : W9.cell? ⟨b, off + (15 + ky + bl), none⟩ = some (.int .u8 (la : Int)) := by
            rw [H9.out.cell (by simpa using hlt), hlast.out _ (by have := HSZ.out; omega), hla]
          have hlg : getN ((bs.drop (11 + ky + bl + 4)).take 1) = la := by
            rw [getN_one bs _ (by omega), show 11 + ky + bl + 4 = 15 + ky + bl by omega, hla]
          have HLG := Lib.hid hlg
          clear hla hlg
          have hbz : b ≠ w.heap.size := by omega
          have LS := Lib.hid (show LastS g kd tx ct kl a5 bl c5 ⟨b, off + (15 + ky + bl), none⟩ la W9 from ⟨KG9.out, hcl⟩)
          clear hcl
          go_upto_region 21 with fail
          have hSw : LastS g kd tx ct kl a5 bl c5 ⟨b, off + (15 + ky + bl), none⟩ la W9.drew := LS.out
          refine wp_region_lexS (LastS g kd tx ct kl a5 bl c5 ⟨b, off + (15 + ky + bl), none⟩ la) (.of [(0, true), (1, true), (2, true), (3, true), (4, true), (5, true), (6, true), (7, true), (8, false)] (.stir [(9, true), (10, true), (11, true)])) (by kernel_rfl) (by kernel_rfl) (fun c a d v w h => by cases d <;> exact h) ?_
          have L1 := fun w' (h : LastS g kd tx ct kl a5 bl c5 ⟨b, off + (15 + ky + bl), none⟩ la w') => h.1.cells
          have L2 := fun w' (h : LastS g kd tx ct kl a5 bl c5 ⟨b, off + (15 + ky + bl), none⟩ la w') => h.2
          iterate 8
            refine lexS_step (fun K hK => ?_)
            simp only [lexOp, List.getElem?_toArray, List.getElem?_cons_succ, List.getElem?_cons_zero]
            rw [if_pos (by rfl)]
            apply Exists.intro
            refine ⟨fun w' hS' => ?_, hSw, ?_⟩
            · first | (go_simp <;> with_reducible rfl) | (go_simp; go_bits; with_reducible rfl)
            go_simp
            try go_bits
            refine hK _ _ ?_
            clear hK K
          clear L1 L2
          have KZX := Lib.hid (KZ9.out.below (w1 := W9.drew) (Below.refl _ _).drew)
          have HOX := Lib.hid (own_below HO9.out (w' := W9.drew) (Below.refl _ _).drew)
          have HX := Lib.hid (show Below w.heap.size w W9.drew from H9.out.drew)
          generalize hWX : W9.drew = WX at hSw KZX HOX HX ⊢
          clear hWX KZ9 HO9 H9 LS KG9 SB9
          obtain ⟨r0, r1, r2, r3, r4, s0, s1, s2, s3, s4, ltz⟩ := KZX.out.box
          refine lexS_step (fun K hK => ?_)
          simp only [lexOp, List.getElem?_toArray, List.getElem?_cons_succ, List.getElem?_cons_zero]
          rw [if_pos (by rfl)]
          go_step
          have hS6 : LastS g kd tx ct kl a5 bl c5 ⟨b, off + (15 + ky + bl), none⟩ la (((((WX.setCell ⟨w.heap.size, 0, none⟩ (.int .i64 kd)).setCell ⟨w.heap.size, 1, none⟩ (.int .u32 tx)).setCell ⟨w.heap.size, 2, none⟩ (.string ⟨kl.toArray⟩)).setCell ⟨w.heap.size, 3, none⟩ (.slice a5 bl c5)).setCell ⟨w.heap.size, 4, none⟩ (.int .i64 ct)) := ⟨hSw.1.other5 hne _ _ _ _ _, by rw [cell_other hbz, cell_other hbz, cell_other hbz, cell_other hbz, cell_other hbz]; exact hSw.2⟩
          have KZF := Lib.hid (KZX.out.set (x' := .int .i64 kd) (y' := .int .u32 tx) (z' := .string ⟨kl.toArray⟩) (u' := .slice a5 bl c5) (v' := .int .i64 ct))
          have HOF := Lib.hid (own_keep5 HOX.out hwW (.int .i64 kd) (.int .u32 tx) (.string ⟨kl.toArray⟩) (.slice a5 bl c5) (.int .i64 ct))
          have HF := Lib.hid (HX.out.trans (keep55 w.heap.size WX (.int .i64 kd) (.int .u32 tx) (.string ⟨kl.toArray⟩) (.slice a5 bl c5) (.int .i64 ct)))
          refine ⟨hS6, hK _ _ ?_⟩
          clear hK K r0 r1 r2 r3 r4 s0 s1 s2 s3 s4
          refine lexS_stir (fun y => y = (((((WX.setCell ⟨w.heap.size, 0, none⟩ (.int .i64 kd)).setCell ⟨w.heap.size, 1, none⟩ (.int .u32 tx)).setCell ⟨w.heap.size, 2, none⟩ (.string ⟨kl.toArray⟩)).setCell ⟨w.heap.size, 3, none⟩ (.slice a5 bl c5)).setCell ⟨w.heap.size, 4, none⟩ (.int .i64 ct))) (fun y hy => hy ▸ hS6) rfl ?_
          clear hS6 hSw
          generalize hWY : (((((WX.setCell ⟨w.heap.size, 0, none⟩ (.int .i64 kd)).setCell ⟨w.heap.size, 1, none⟩ (.int .u32 tx)).setCell ⟨w.heap.size, 2, none⟩ (.string ⟨kl.toArray⟩)).setCell ⟨w.heap.size, 3, none⟩ (.slice a5 bl c5)).setCell ⟨w.heap.size, 4, none⟩ (.int .i64 ct)) = WY at KZF HOF HF ⊢
          clear hWY
          iterate 3
            refine stir_step (fun K hK => ?_)
            simp only [stirOp, List.getElem?_toArray, List.getElem?_cons_succ, List.getElem?_cons_zero]
            rw [if_pos (by rfl)]
            apply Exists.intro
            refine ⟨fun w' hS' => ?_, ?_⟩
            · first | (go_simp <;> with_reducible rfl) | (go_simp; go_bits; with_reducible rfl)
            go_simp
            try go_bits
            refine hK _ ?_
            clear hK K
          refine stir_nil (fun y hy => ?_)
          subst hy
          go_wp2_with fail
          refine bodyPost_ret (results_cell_row_tmp3 rfl _ _ w.heap.size _ _ _ _ rfl KZF.out Try.underlying26 rfl infoRec) rfl ⟨(fun h => by rw [HOK.out] at h; cases h), (fun _ h => by have := HSZ.out; omega), (fun _ _ h => absurd HSUM.out h), (fun _ _ _ => ?_)⟩
          rw [HLG.out, HKL.out, HBL.out]
          exact ⟨a5, bl, c5, rfl, own_mono HOF.out (by omega), HF.out⟩
        · have hD : ¬ recB u0 tx kl bl' ct = bs.take (15 + ky + bl) := fun h => hsum (hiff.1 h)
          have cvA : ∀ w', Below w8.heap.size w8 w' → (convert 22 9 (.slice a8 n8 c8)).run Try.prog w' = .ok (.string ⟨(recB u0 tx kl bl' ct).toArray⟩) w' := fun w' h => run_conv (S8.out.below h) c8
          generalize recB u0 tx kl bl' ct = D1 at *
          generalize hD2 : bs.take (15 + ky + bl) = D2 at *
          have z4 : (D1 == D2) = false := by simp [hD]
          have z5 : (D1 != D2) = true := by simp [hD]
          have HSUM := Lib.hid hsum
          clear hD hsum hiff S8 hD2
          iterate 2
            refine stir_step (fun K hK => ?_)
            simp only [stirOp, List.getElem?_toArray, List.getElem?_cons_succ, List.getElem?_cons_zero]
            rw [if_pos (by rfl)]
            apply Exists.intro
            refine ⟨fun w' hS' => ?_, ?_⟩
            · first | (go_simp <;> with_reducible rfl) | (go_simp; go_bits; with_reducible rfl)
            go_simp
            try go_bits
            refine hK _ ?_
            clear hK K
          refine stir_nil (fun W9 h9 => ?_)
          have KZ9 := Lib.hid (KZ6.out.below h9)
          have H9 := Lib.hid (H6.out.trans (h9.mono H6.out.size))
          clear h9 KG6 KZ6 SB6 HO6 H6 cvA
          obtain ⟨r0, r1, r2, r3, r4, s0, s1, s2, s3, s4, ltz⟩ := KZ9.out.box
          go_wp2_with fail
          have hF := H9.out.trans ((keep55 w.heap.size W9 (.int .i64 0) (.int .u32 0) (.string ⟨#[]⟩) (.slice none 0 0) (.int .i64 0)))
          exact bodyPost_ret (results_cell_row_tmp3 rfl _ _ w.heap.size _ _ _ _ rfl KZ9.out.set Try.underlying26 rfl infoRec) rfl ⟨(fun h => by rw [HOK.out] at h; cases h), (fun _ h => by have := HSZ.out; omega), (fun _ _ _ => ⟨rfl, hF⟩), (fun _ _ h => absurd h HSUM.out)⟩
end Go.Proofs.Ytkieconmbeblgaa
