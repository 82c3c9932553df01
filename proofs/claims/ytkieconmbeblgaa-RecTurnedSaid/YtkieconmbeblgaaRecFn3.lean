/- rec: a record's bytes. No condition. -/
import Derived.Test.YtkieconmbeblgaaRecFn2
import Derived.Test.YtkieconmbeblgaaNumPlain2
import Derived.Deep.AppendSrc
namespace Go.Proofs.Ytkieconmbeblgaa
open Go.ChangeShapes Go.WideShapes Go.ChangeAt Go.RowKit
def crcN (bs : List UInt8) : Nat := (crc16 65535#16 bs).toNat
theorem crcN_lt (bs : List UInt8) : crcN bs < 65536 := (crc16 65535#16 bs).isLt
theorem up_crcN (bs : List UInt8) : bs.foldl upByte 65535 = (crcN bs : Int) := up_crc bs 65535#16
theorem ref_crcN (bs : List UInt8) : bs.foldl refByte16 65535 = (crcN bs : Int) := ref_crc16 bs 65535#16
def sumN (bs : List UInt8) : Nat := (bits .xor .u32 (bs.foldl refByte32 4294967295) 4294967295).toNat
theorem sumN_int (bs : List UInt8) : bits .xor .u32 (bs.foldl refByte32 4294967295) 4294967295 = (sumN bs : Int) := by
  have := bits_u32 .xor (bs.foldl refByte32 4294967295) 4294967295
  unfold sumN; omega
theorem sumN_lt (bs : List UInt8) : sumN bs < 4294967296 := by
  have := bits_u32 .xor (bs.foldl refByte32 4294967295) 4294967295
  unfold sumN; omega
theorem up_sumN (bs : List UInt8) : not32 (bs.foldl downByte 4294967295) = (sumN bs : Int) := by
  rw [← sumN_int, same32 bs _ (by omega) (by omega), not32, show IntKind.u32.max = 4294967295 by decide, bits32_xor, bits32_xor, BitVec.xor_comm]
theorem Sum16_n (w : World) (a : Option Addr) (n cap : Nat) (bs : List UInt8) (hb : Bs w a n bs) (hn : n ≤ 65536) :
    Calls Try.prog 16 #[.slice a n cap] w fun e w' => e = .returned (.int .u16 (crcN bs : Int)) ∧ Below w.heap.size w w' := by
  have h := Sum16_any w a n cap bs hb hn
  rwa [up_crcN] at h
theorem refSum16_n (w : World) (a : Option Addr) (n cap : Nat) (bs : List UInt8) (hb : Bs w a n bs) (hn : n ≤ 65536) :
    Calls Try.prog 23 #[.slice a n cap] w fun e w' => e = .returned (.int .u16 (crcN bs : Int)) ∧ w = w' := by
  have h := refSum16_any w a n cap bs hb hn
  rwa [ref_crcN] at h
theorem Sum32_n (w : World) (a : Option Addr) (n cap : Nat) (bs : List UInt8) (hb : Bs w a n bs) (hn : n ≤ 65536) :
    Calls Try.prog 21 #[.slice a n cap] w fun e w' => e = .returned (.int .u32 (sumN bs : Int)) ∧ Below w.heap.size w w' := by
  have h := Sum32_any w a n cap bs hb hn
  rwa [up_sumN] at h
theorem refSum32_n (w : World) (a : Option Addr) (n cap : Nat) (bs : List UInt8) (hb : Bs w a n bs) (hn : n ≤ 65536) :
    Calls Try.prog 25 #[.slice a n cap] w fun e w' => e = .returned (.int .u32 (sumN bs : Int)) ∧ w = w' := by
  have h := refSum32_any w a n cap bs hb hn
  rwa [sumN_int] at h
theorem strSrc (w : World) (kb : List UInt8) : Src Try.prog 1 9 (.string ⟨kb.toArray⟩) kb.length (kb.map encB) w := by
  have h := Src.ofString (P := Try.prog) (w := w) (tx := 9) Try.underlying9 ⟨kb.toArray⟩
  have h1 : (⟨kb.toArray⟩ : ByteArray).size = kb.length := by simp [ByteArray.size]
  have h2 : byteCells ⟨kb.toArray⟩ = kb.map encB := by simp [byteCells, encB]
  rwa [h1, h2] at h
theorem wp_app1 {t e : TypeId} {z : Value} {bytes : Nat} (hO : OneE t e z bytes) {w : World} {ops : Array Oper} {o : Oper} {a : Act} {K : Act → World → Prop} {Q : Exit → Act → World → Prop} (hgd : Region.wanted o (yielded ops a.tmps) = true) (s x : Operand) (tx : TypeId)
    (ho : o.op = .call { callee := .builtin .append, args := #[s, x], argTypes := #[t, tx] })
    (base : Nat) (v : Value) (n : Nat) (xs : List Value) (hv : a.eval s = v) (hown : w.ownsRow base e 1 v n xs)
    (y : Value) (m : Nat) (news : List Value) (hy : a.eval x = y) (hs : Src Try.prog 1 tx y m news w) (hlen : (n + m) * bytes ≤ 140737488355328) (hm : n + m ≤ maxLen) (hbase : base ≤ w.heap.size)
    (h : ∀ v' w', w'.ownsRow base e 1 v' (n + m) (xs ++ news) → w.grownBy w' v.ownBlock → Below base w w' → K (a.put o.dst v') w') : Oper.wp Try.prog o a w K Q := by
  have h1 := step_app1 (E := True) (ops := ops) (Q := Q) hO hgd s x tx ho base v n xs hv hown y m news hy hs hlen hm hbase h
  rwa [if_pos hgd] at h1
/-- The nine bytes that a record begins with. -/
def recHd (u : UInt8) (t key blob c : Nat) : List UInt8 := [u] ++ putB t 4 ++ putB key 1 ++ putB blob 2 ++ putB c 1
theorem recHd_length (u : UInt8) (t key blob c : Nat) : (recHd u t key blob c).length = 9 := by simp [recHd, putB_length]
/-- All but its sum of 32 bits and the last byte. -/
def recBody (u : UInt8) (t : Nat) (kb : List UInt8) (bs : List UInt8) (c : Nat) : List UInt8 :=
  recHd u t kb.length bs.length c ++ putB (crcN (recHd u t kb.length bs.length c)) 2 ++ kb ++ bs
def recB (u : UInt8) (t : Nat) (kb : List UInt8) (bs : List UInt8) (c : Nat) : List UInt8 := recBody u t kb bs c ++ putB (sumN (recBody u t kb bs c)) 4
/-- A block of five cells behind a walk. -/
def Blk5 (w : World) (g : Nat) (x y z u v : Value) (t : TypeId) : Prop := w.heap[g]? = some (.cells #[x, y, z, u, v] t)
theorem Blk5.belowB {w w1 : World} {B g : Nat} {x y z u v : Value} {t : TypeId} (h : Blk5 w g x y z u v t) (hb : Below B w w1) (hlt : g < B) : Blk5 w1 g x y z u v t := by
  unfold Blk5
  rw [hb.block _ hlt]; exact h
theorem Blk5.lt {w : World} {g : Nat} {x y z u v : Value} {t : TypeId} (h : Blk5 w g x y z u v t) : g < w.heap.size := (Array.getElem?_eq_some_iff.1 h).1
theorem Blk5.below {w w1 : World} {g : Nat} {x y z u v : Value} {t : TypeId} (h : Blk5 w g x y z u v t) (hb : Below w.heap.size w w1) : Blk5 w1 g x y z u v t := h.belowB hb h.lt
structure Box5 (w : World) (g : Nat) (x y z u v : Value) : Prop where
  c0 : w.cell? ⟨g, 0, none⟩ = some x
  c1 : w.cell? ⟨g, 1, none⟩ = some y
  c2 : w.cell? ⟨g, 2, none⟩ = some z
  c3 : w.cell? ⟨g, 3, none⟩ = some u
  c4 : w.cell? ⟨g, 4, none⟩ = some v
  f0 : w.frozen? ⟨g, 0, none⟩ = false
  f1 : w.frozen? ⟨g, 1, none⟩ = false
  f2 : w.frozen? ⟨g, 2, none⟩ = false
  f3 : w.frozen? ⟨g, 3, none⟩ = false
  f4 : w.frozen? ⟨g, 4, none⟩ = false
  lt : g < w.heap.size
theorem Blk5.box {w : World} {g : Nat} {x y z u v : Value} {t : TypeId} (hg : Blk5 w g x y z u v t) : Box5 w g x y z u v := by
  refine ⟨?_, ?_, ?_, ?_, ?_, ?_, ?_, ?_, ?_, ?_, hg.lt⟩
  · rw [cell_of_row w _ 0 _ _ _ hg]; rfl
  · rw [cell_of_row w _ 1 _ _ _ hg]; rfl
  · rw [cell_of_row w _ 2 _ _ _ hg]; rfl
  · rw [cell_of_row w _ 3 _ _ _ hg]; rfl
  · rw [cell_of_row w _ 4 _ _ _ hg]; rfl
  all_goals (unfold World.frozen?; rw [show w.heap[g]? = _ from hg]; rfl)
set_option maxRecDepth 100000 in
set_option maxHeartbeats 4000000 in
theorem Bytes5_no (w : World) (k t : Int) (kb : List UInt8) (a : Option Addr) (n cap : Nat) (c : Int) (hk : IntR k) (ht : 0 ≤ t) (hc : IntR c) (h1 : kb.length ≤ 1048576) (h2 : n ≤ 1048576) (h : recOk k t kb.length n c = false) :
    Calls Try.prog 12 #[recL k t kb a n cap c] w fun e w' => e = .returned (.tuple #[.slice none 0 0, .int .i64 8]) ∧ Below w.heap.size w w' := by
  have hR := Lib.hid (fun w' => right5_any w' k t ⟨kb.toArray⟩ a n cap c kb.length n hk ht hc h1 h2)
  rw [h] at hR
  clear hk ht hc h
  go_enter Try.func12, Try.ntmps12
  go_wp2_with fail
  refine (hR.out _).mono ?_
  rintro e w1 ⟨rfl, hb1⟩
  have HB := Lib.hid (((Below.refl w.heap.size w).alloc (Nat.le_refl _) _).trans (hb1.mono (by simp)))
  clear hb1 hR
  go_wp2_with fail
  go_ret2
  exact ⟨rfl, HB.out⟩
set_option maxRecDepth 100000 in
set_option maxHeartbeats 4000000 in
theorem Bytes5_any (w : World) (u : UInt8) (t : Nat) (kb : List UInt8) (a : Option Addr) (n cap : Nat) (bs : List UInt8) (c : Nat) (hs : Sl encB w a n bs) (h : recOk u.toNat t kb.length n c = true) (ht : t < 4294967296) :
    Calls Try.prog 12 #[recL u.toNat t kb a n cap c] w fun e w' => ∃ a' n' cap', e = .returned (.tuple #[.slice a' n' cap', .int .i64 0]) ∧ Sl encB w' a' n' (recB u t kb bs c) ∧ n' ≤ cap' ∧ Below w.heap.size w w' := by
  have hd := of_decide_eq_true h
  have hu := u8_lt u
  have hkl : kb.length ≤ 64 := by omega
  have hnl : n ≤ 4096 := by omega
  have hcl : c ≤ 16 := by omega
  have hbl := hs.1
  have HE := Lib.hid hs
  have hR := Lib.hid (fun w' => right5_any w' u.toNat t ⟨kb.toArray⟩ a n cap c kb.length n (by unfold IntR; omega) (by omega) (by unfold IntR; omega) (by omega) (by omega))
  rw [h] at hR
  clear hs h hd
  go_enter Try.func12, Try.ntmps12
  go_wp2_with fail
  refine (hR.out _).mono ?_
  rintro e w1 ⟨rfl, hb1⟩
  have K1 := Lib.hid (show Blk5 w1 w.heap.size (.int .i64 u.toNat) (.int .u32 t) (.string ⟨kb.toArray⟩) (.slice a n cap) (.int .i64 c) 26 from Blk5.below (heap_alloc_last w _) hb1)
  have H1 := Lib.hid (((Below.refl w.heap.size w).alloc (Nat.le_refl _) _).trans (hb1.mono (by simp)))
  clear hb1 hR
  obtain ⟨p0, p1, p2, p3, p4, f0, f1, f2, f3, f4, lt1⟩ := K1.out.box
  -- the sums
  go_wp2_with fail
  have S1 := Lib.hid (show Sl encB (w1.alloc (.cells #[.int .u8 u.toNat] 5)) (some ⟨w1.heap.size, 0, none⟩) 1 [u] from Sl.lit (heap_alloc_last w1 _) rfl rfl)
  refine (Put_any _ (some ⟨w1.heap.size, 0, none⟩) 1 1 ([u]) t 4 S1.out (by omega) (by omega) (by omega) (by omega) (by omega)).mono ?_
  rintro e w2 ⟨v2, m2, rfl, hown, hb⟩
  obtain ⟨a2, c2, rfl, hsl, hc2⟩ := Sl.ofOwn hown
  obtain rfl : m2 = 5 := by have h := hsl.1; simp [putB_length] at h; omega
  have hbp : Below w1.heap.size w1 w2 := ((Below.refl _ _).alloc (Nat.le_refl _) _).trans (hb.mono (by simp))
  have K2 := Lib.hid (K1.out.below hbp)
  have H2 := Lib.hid (H1.out.trans (hbp.mono H1.out.size))
  have S2 := Lib.hid hsl
  clear hown hb hsl hbp K1 H1 p0 p1 p2 p3 p4 f0 f1 f2 f3 f4 lt1
  obtain ⟨p0, p1, p2, p3, p4, f0, f1, f2, f3, f4, lt1⟩ := K2.out.box
  go_wp2_with fail
  refine (Put_any _ a2 5 c2 ([u] ++ putB t 4) kb.length 1 S2.out (by omega) hc2 (by omega) (by omega) (by omega)).mono ?_
  rintro e w3 ⟨v3, m3, rfl, hown, hb⟩
  obtain ⟨a3, c3, rfl, hsl, hc3⟩ := Sl.ofOwn hown
  obtain rfl : m3 = 6 := by have h := hsl.1; simp [putB_length] at h; omega
  have hbp : Below w2.heap.size w2 w3 := hb
  have K3 := Lib.hid (K2.out.below hbp)
  have H3 := Lib.hid (H2.out.trans (hbp.mono H2.out.size))
  have S3 := Lib.hid hsl
  clear hown hb hsl hbp K2 H2 p0 p1 p2 p3 p4 f0 f1 f2 f3 f4 lt1
  obtain ⟨p0, p1, p2, p3, p4, f0, f1, f2, f3, f4, lt1⟩ := K3.out.box
  go_wp2_with fail
  refine (Put_any _ a3 6 c3 ([u] ++ putB t 4 ++ putB kb.length 1) n 2 S3.out (by omega) hc3 (by omega) (by omega) (by omega)).mono ?_
  rintro e w4 ⟨v4, m4, rfl, hown, hb⟩
  obtain ⟨a4, c4, rfl, hsl, hc4⟩ := Sl.ofOwn hown
  obtain rfl : m4 = 8 := by have h := hsl.1; simp [putB_length] at h; omega
  have hbp : Below w3.heap.size w3 w4 := hb
  have K4 := Lib.hid (K3.out.below hbp)
  have H4 := Lib.hid (H3.out.trans (hbp.mono H3.out.size))
  have S4 := Lib.hid hsl
  clear hown hb hsl hbp K3 H3 p0 p1 p2 p3 p4 f0 f1 f2 f3 f4 lt1
  obtain ⟨p0, p1, p2, p3, p4, f0, f1, f2, f3, f4, lt1⟩ := K4.out.box
  go_wp2_with fail
  refine (Put_any _ a4 8 c4 ([u] ++ putB t 4 ++ putB kb.length 1 ++ putB n 2) c 1 S4.out (by omega) hc4 (by omega) (by omega) (by omega)).mono ?_
  rintro e w5 ⟨v5, m5, rfl, hown, hb⟩
  obtain ⟨a5, c5, rfl, hsl, hc5⟩ := Sl.ofOwn hown
  obtain rfl : m5 = 9 := by have h := hsl.1; simp [putB_length] at h; omega
  have hbp : Below w4.heap.size w4 w5 := hb
  have K5 := Lib.hid (K4.out.below hbp)
  have H5 := Lib.hid (H4.out.trans (hbp.mono H4.out.size))
  have S5 := Lib.hid hsl
  clear hown hb hsl hbp K4 H4 p0 p1 p2 p3 p4 f0 f1 f2 f3 f4 lt1
  obtain ⟨p0, p1, p2, p3, p4, f0, f1, f2, f3, f4, lt1⟩ := K5.out.box
  go_wp2_with fail
  have hHd : [u] ++ putB t 4 ++ putB kb.length 1 ++ putB n 2 ++ putB c 1 = recHd u t kb.length bs.length c := by rw [hbl]; rfl
  rw [hHd] at S5
  have HM : Hid (recBody u t kb bs c = recHd u t kb.length bs.length c ++ putB (crcN (recHd u t kb.length bs.length c)) 2 ++ kb ++ bs) := rfl
  have hhl := recHd_length u t kb.length bs.length c
  clear hHd S1 S2 S3 S4
  generalize recHd u t kb.length bs.length c = hd at S5 HM hhl
  have hcl2 := crcN_lt hd
  refine (Sum16_n _ a5 9 c5 hd S5.out (by omega)).mono ?_
  generalize crcN hd = cr at HM hcl2
  rintro e w6 ⟨rfl, hb⟩
  have K6 := Lib.hid (K5.out.below hb)
  have H6 := Lib.hid (H5.out.trans (hb.mono H5.out.size))
  have S6 := Lib.hid (S5.out.below hb)
  clear hb K5 H5 S5 p0 p1 p2 p3 p4 f0 f1 f2 f3 f4 lt1
  obtain ⟨p0, p1, p2, p3, p4, f0, f1, f2, f3, f4, lt1⟩ := K6.out.box
  go_wp2_with fail
  refine (Put_any _ a5 9 c5 hd cr 2 S6.out (by omega) hc5 (by omega) (by omega) (by omega)).mono ?_
  rintro e w7 ⟨v7, m7, rfl, hown, hb⟩
  obtain rfl : m7 = 11 := by have h := hown.1; simp [putB_length] at h; omega
  have HO7 := Lib.hid hown
  have K7 := Lib.hid (K6.out.below hb)
  have H7 := Lib.hid (H6.out.trans (hb.mono H6.out.size))
  have sz7 : w6.heap.size ≤ w7.heap.size := hb.size
  have lt6 : w.heap.size < w6.heap.size := K6.out.lt
  obtain ⟨a7, c7, rfl, _, _⟩ := Sl.ofOwn hown
  clear hown hb K6 H6 S6 p0 p1 p2 p3 p4 f0 f1 f2 f3 f4 lt1
  obtain ⟨p0, p1, p2, p3, p4, f0, f1, f2, f3, f4, lt1⟩ := K7.out.box
  go_wp2_with fail
  have ld2 : ∀ w', Below w6.heap.size w7 w' → w'.cell? ⟨w.heap.size, 2, none⟩ = some (.string ⟨kb.toArray⟩) := fun w' h => (K7.out.belowB h lt6).box.c2
  have ld3 : ∀ w', Below w6.heap.size w7 w' → w'.cell? ⟨w.heap.size, 3, none⟩ = some (.slice a n cap) := fun w' h => (K7.out.belowB h lt6).box.c3
  have hSw : Below w6.heap.size w7 w7.drew := (Below.refl _ _).drew
  refine wp_region_lex (Below w6.heap.size w7) [(0, true), (1, true), (2, true), (4, true), (5, true), (3, false), (6, false), (7, true)] (by kernel_rfl) (by kernel_rfl) (fun c a d v w h => by cases d <;> exact h) ?_
  iterate 5
    refine lex_step (fun K hK => ?_)
    simp only [lexOp, List.getElem?_toArray, List.getElem?_cons_succ, List.getElem?_cons_zero]
    rw [if_pos (by rfl)]
    apply Exists.intro
    refine ⟨fun w' hS' => ?_, hSw, ?_⟩
    · first | (go_simp <;> with_reducible rfl) | (go_simp; go_bits; with_reducible rfl)
    go_simp
    try go_bits
    refine hK _ _ ?_
    clear hK K
  refine lex_step (fun K hK => ?_)
  simp only [lexOp, List.getElem?_toArray, List.getElem?_cons_succ, List.getElem?_cons_zero]
  rw [if_pos (by rfl)]
  change Oper.wp _ _ _ _ _ _
  refine wp_app1 oneB (ops := #[]) rfl _ _ _ rfl w6.heap.size _ 11 _ rfl HO7.out.drew _ kb.length (kb.map encB) rfl (strSrc _ kb) (by omega) (by unfold maxLen; omega) sz7 ?_
  intro v8 w8 hown8 _ hb8
  rw [← List.map_append] at hown8
  replace hSw : Below w6.heap.size w7 w8 := hSw.trans hb8
  obtain ⟨a8, c8, rfl, _, _⟩ := Sl.ofOwn hown8
  have HO8 := Lib.hid hown8
  clear hown8 hb8
  go_simp
  refine hK _ _ ?_
  clear hK K
  refine lex_step (fun K hK => ?_)
  simp only [lexOp, List.getElem?_toArray, List.getElem?_cons_succ, List.getElem?_cons_zero]
  rw [if_pos (by rfl)]
  change Oper.wp _ _ _ _ _ _
  refine wp_app1 oneB (ops := #[]) rfl _ _ _ rfl w6.heap.size _ (11 + kb.length) _ rfl HO8.out _ n (bs.map encB) rfl ((HE.out.below (H7.out.trans (hSw.mono (by omega)))).src encB_cell Try.underlying22 _) (by omega) (by unfold maxLen; omega) (by have := hSw.size; omega) ?_
  intro v9 w9 hown9 _ hb9
  rw [← List.map_append] at hown9
  replace hSw : Below w6.heap.size w7 w9 := hSw.trans hb9
  obtain ⟨a9, c9, rfl, hsl9, hc9⟩ := Sl.ofOwn hown9
  have S9 := Lib.hid hsl9
  clear hown9 hb9 hsl9
  go_simp
  refine hK _ _ ?_
  clear hK K
  iterate 1
    refine lex_step (fun K hK => ?_)
    simp only [lexOp, List.getElem?_toArray, List.getElem?_cons_succ, List.getElem?_cons_zero]
    rw [if_pos (by rfl)]
    apply Exists.intro
    refine ⟨fun w' hS' => ?_, hSw, ?_⟩
    · first | (go_simp <;> with_reducible rfl) | (go_simp; go_bits; with_reducible rfl)
    go_simp
    try go_bits
    refine hK _ _ ?_
    clear hK K
  refine lex_nil ?_
  rw [← HM.out] at S9
  have H9 := Lib.hid (H7.out.trans (hSw.mono (by omega)))
  clear ld2 ld3 hSw K7 H7 HO7 HO8 p0 p1 p2 p3 p4 f0 f1 f2 f3 f4 lt1
  have HF : Hid (recB u t kb bs c = recBody u t kb bs c ++ putB (sumN (recBody u t kb bs c)) 4) := rfl
  clear HM
  generalize recBody u t kb bs c = body at S9 HF
  have hsl2 := sumN_lt body
  go_wp2_with fail
  refine (Sum32_n _ a9 _ c9 body S9.out (by omega)).mono ?_
  generalize sumN body = sm at HF hsl2
  rintro e w10 ⟨rfl, hb⟩
  have S10 := Lib.hid (S9.out.below hb)
  have H10 := Lib.hid (H9.out.trans (hb.mono H9.out.size))
  clear hb
  go_wp2_with fail
  refine (Put_any _ a9 _ c9 body sm 4 S10.out (by omega) hc9 (by omega) (by omega) (by omega)).mono ?_
  rintro e w11 ⟨v11, m11, rfl, hown, hb⟩
  obtain ⟨a11, c11, rfl, hsl, hc11⟩ := Sl.ofOwn hown
  have H11 := Lib.hid (H10.out.trans (hb.mono H10.out.size))
  have S11 := Lib.hid hsl
  clear hown hb hsl
  go_wp2_with fail
  go_ret2
  exact ⟨_, _, _, rfl, by rw [HF.out]; exact S11.out, hc11, H11.out⟩
end Go.Proofs.Ytkieconmbeblgaa
