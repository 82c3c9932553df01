/- sha: the reference's turn, and its words behind a block. No condition. -/
import Derived.Test.YtkcpblfdmfkppaaShaPrime
namespace Go.Proofs.Ytkcpblfdmfkppaa
open Go.ChangeShapes Go.WideShapes Go.ChangeAt Go.RowKit
set_option maxHeartbeats 4000000 in
set_option maxRecDepth 100000 in
theorem refTurn_any (w : World) (x : BitVec 32) (n : Nat) (h : n = 2 ∨ n = 6 ∨ n = 7 ∨ n = 11 ∨ n = 13 ∨ n = 17 ∨ n = 18 ∨ n = 19 ∨ n = 22 ∨ n = 25) :
    Calls Try.prog 25 #[.int .u32 (E x), .int .i64 (n : Nat)] w fun e w' => e = .returned (.int .u32 (E (rotR x n))) ∧ w' = w := by
  have hr := w_rot2 x n
  obtain ⟨k, hk⟩ : ∃ k, k = 32 - n := ⟨_, rfl⟩
  rw [← hk] at hr
  have hn1 : 1 ≤ n := by omega
  have hn2 : n ≤ 25 := by omega
  have hkE : (32 : Int) - (n : Int) = (k : Int) := by omega
  have hk1 : k ≤ 31 := by omega
  have hk2 : 1 ≤ k := by omega
  have h0 := E_nonneg x
  have h1 : E x < 4294967296 := E_lt x
  generalize E (rotR x n) = r at *
  generalize E x = v at *
  have HR := Lib.hid hr
  clear hr h hk
  go_enter Try.func25, Try.ntmps25
  go_wp2_with fail
  go_ret
  exact ⟨ret_word HR.out, rfl⟩
/-- The four bytes of a word, put together. -/
theorem join4 (a b c d : Nat) (ha : a < 256) (hb : b < 256) (hc : c < 256) (hd : d < 256) : bits .or .u32 (bits .or .u32 (bits .or .u32 ((a : Int) * 16777216) ((b : Int) * 65536)) ((c : Int) * 256)) (d : Int) = ((a * 16777216 + b * 65536 + c * 256 + d : Nat) : Int) := by
  have j : ∀ (i x y : Nat), x % 2 ^ i = 0 → y < 2 ^ i → x + y < 4294967296 → bits .or .u32 (x : Int) (y : Int) = ((x + y : Nat) : Int) := by
    intro i x y h1 h2 h3
    rw [u32_or_nat x y (by omega) (by omega), nat_join i x y h1 h2]
  have e1 : (a : Int) * 16777216 = ((a * 16777216 : Nat) : Int) := by omega
  have e2 : (b : Int) * 65536 = ((b * 65536 : Nat) : Int) := by omega
  have e3 : (c : Int) * 256 = ((c * 256 : Nat) : Int) := by omega
  rw [e1, e2, e3, j 24 _ _ (by omega) (by omega) (by omega), j 16 _ _ (by omega) (by omega) (by omega), j 8 _ _ (by omega) (by omega) (by omega)]
theorem word4 (bs : List UInt8) (t : Nat) (h : 4 * t + 3 < bs.length) : E (wordAt bs t) = ((bs[4 * t].toNat * 16777216 + bs[4 * t + 1].toNat * 65536 + bs[4 * t + 2].toNat * 256 + bs[4 * t + 3].toNat : Nat) : Int) := by
  have e : (bs.drop (4 * t)).take 4 = [bs[4 * t], bs[4 * t + 1], bs[4 * t + 2], bs[4 * t + 3]] := by
    rw [List.drop_eq_getElem_cons (by omega : 4 * t < bs.length), List.drop_eq_getElem_cons (by omega : 4 * t + 1 < bs.length), List.drop_eq_getElem_cons (by omega : 4 * t + 1 + 1 < bs.length), List.drop_eq_getElem_cons (by omega : 4 * t + 1 + 1 + 1 < bs.length)]
    rfl
  unfold wordAt E
  rw [e, BitVec.toNat_ofNat]
  have b0 := bs[4 * t].toNat_lt
  have b1 := bs[4 * t + 1].toNat_lt
  have b2 := bs[4 * t + 2].toNat_lt
  have b3 := bs[4 * t + 3].toNat_lt
  simp only [getN, List.foldl_cons, List.foldl_nil, Nat.zero_mul, Nat.zero_add]
  rw [Nat.mod_eq_of_lt (by omega)]
  omega
theorem chW (x y z : BitVec 32) : (x &&& y) ^^^ ((4294967295#32 ^^^ x) &&& z) = z ^^^ (x &&& (y ^^^ z)) := by
  apply BitVec.eq_of_getLsbD_eq
  intro i hi
  have h1 : (4294967295#32).getLsbD i = true := by
    have : 4294967295#32 = BitVec.allOnes 32 := by decide
    rw [this, BitVec.getLsbD_allOnes]; simpa using hi
  simp only [BitVec.getLsbD_xor, BitVec.getLsbD_and, h1]
  cases x.getLsbD i <;> cases y.getLsbD i <;> cases z.getLsbD i <;> rfl
theorem majW (a b c : BitVec 32) : (a &&& b) ^^^ (a &&& c) ^^^ (b &&& c) = (a &&& b) ||| (c &&& (a ||| b)) := by
  apply BitVec.eq_of_getLsbD_eq
  intro i hi
  simp only [BitVec.getLsbD_xor, BitVec.getLsbD_and, BitVec.getLsbD_or]
  cases a.getLsbD i <;> cases b.getLsbD i <;> cases c.getLsbD i <;> rfl
def V8.words (v : V8) : List (BitVec 32) := [v.a, v.b, v.c, v.d, v.e, v.f, v.g, v.h]
theorem make_u32 (w : World) (n : Nat) (h : n ≤ 1048576) : (Instr.makeSlice 41 (.int .i64 n) (.int .i64 n)).run Try.prog w = .ok (.slice (some ⟨w.heap.size, 0, none⟩) n n) (w.alloc (.cells (List.replicate n (Value.int .u32 0)).toArray 40)) := by
  obtain ⟨i, hi, hz0, hz1, hz2⟩ := info_parts (show (Try.prog.info? 40).map (fun i => (i.zero, i.size, i.bytes)) = some (some (.int .u32 0), 1, 4) by kernel_rfl)
  have hr := run_makeSlice (P := Try.prog) (w := w) 41 40 i (.int .u32 0) Try.underlying41 hi hz0 .i64 .i64 n n (by omega) (Int.le_refl _) (by rw [hz1]; omega) (by rw [hz2]; omega) (by omega)
  rw [hz1] at hr
  simp only [Int.toNat_natCast, Nat.mul_one] at hr
  rw [show (Value.int IntKind.u32 0).cells = #[.int .u32 0] from rfl, show madeCells #[Value.int .u32 0] n = (List.replicate n (Value.int .u32 0)).toArray by
    apply Array.ext
    · simp [madeCells]
    · intro i h1 h2
      simp [madeCells, Nat.mod_one]] at hr
  exact hr
/-- Four bytes of the block. -/
def Four (b : Nat) (o0 o1 o2 o3 : Nat) (x0 x1 x2 x3 : Nat) (y : World) : Prop := y.cell? ⟨b, o0, none⟩ = some (.int .u8 (x0 : Nat)) ∧ y.cell? ⟨b, o1, none⟩ = some (.int .u8 (x1 : Nat)) ∧ y.cell? ⟨b, o2, none⟩ = some (.int .u8 (x2 : Nat)) ∧ y.cell? ⟨b, o3, none⟩ = some (.int .u8 (x3 : Nat))
/-- What a round reads. -/
structure Rd (g t b2 o2 b3 o3 : Nat) (u : V8) (kx x : BitVec 32) (z : World) : Prop where
  c0 : z.cell? ⟨b2, o2, none⟩ = some (.int .u32 (E u.a))
  c1 : z.cell? ⟨b2, o2 + 1, none⟩ = some (.int .u32 (E u.b))
  c2 : z.cell? ⟨b2, o2 + 2, none⟩ = some (.int .u32 (E u.c))
  c3 : z.cell? ⟨b2, o2 + 3, none⟩ = some (.int .u32 (E u.d))
  c4 : z.cell? ⟨b2, o2 + 4, none⟩ = some (.int .u32 (E u.e))
  c5 : z.cell? ⟨b2, o2 + 5, none⟩ = some (.int .u32 (E u.f))
  c6 : z.cell? ⟨b2, o2 + 6, none⟩ = some (.int .u32 (E u.g))
  c7 : z.cell? ⟨b2, o2 + 7, none⟩ = some (.int .u32 (E u.h))
  k : z.cell? ⟨b3, o3 + t, none⟩ = some (.int .u32 (E kx))
  w : z.cell? ⟨g, t, none⟩ = some (.int .u32 (E x))
theorem Rd.mk' {g t b2 o2 b3 o3 : Nat} {u : V8} {z : World} {Wd : List (BitVec 32)} (h : Sl encW z (some ⟨b2, o2, none⟩) 8 u.words) (hk : Sl encW z (some ⟨b3, o3, none⟩) 64 keysL) (hw : Sl encW z (some ⟨g, 0, none⟩) 64 Wd) (ht : t < 64) : Rd g t b2 o2 b3 o3 u (keysL.getD t 0) (Wd.getD t 0) z := by
  obtain ⟨_, _, he, -, hc⟩ := h.2 (by omega)
  cases he
  obtain ⟨_, _, he, -, hck⟩ := hk.2 (by omega)
  cases he
  obtain ⟨_, _, he, -, hcw⟩ := hw.2 (by omega)
  cases he
  refine ⟨hc 0 (by simp [V8.words]), hc 1 (by simp [V8.words]), hc 2 (by simp [V8.words]), hc 3 (by simp [V8.words]), hc 4 (by simp [V8.words]), hc 5 (by simp [V8.words]), hc 6 (by simp [V8.words]), hc 7 (by simp [V8.words]), ?_, ?_⟩
  · rw [getDB_pos (by rw [keysL_length]; exact ht)]
    exact hck t (by rw [keysL_length]; exact ht)
  · rw [getDB_pos (by rw [hw.1]; exact ht)]
    have h := hcw t (by rw [hw.1]; exact ht)
    rw [Nat.zero_add] at h
    exact h
theorem Rd.below {g t b2 o2 b3 o3 : Nat} {u : V8} {kx x : BitVec 32} {z z' : World} (h : Rd g t b2 o2 b3 o3 u kx x z) (hb : Below z.heap.size z z') : Rd g t b2 o2 b3 o3 u kx x z' := by
  have q : ∀ b o v, z.cell? ⟨b, o, none⟩ = some v → z'.cell? ⟨b, o, none⟩ = some v := fun b o v hv => by
    have hlt : b < z.heap.size := by
      rcases Nat.lt_or_ge b z.heap.size with h | h
      · exact h
      · unfold World.cell? at hv
        simp only [Array.getElem?_eq_none h] at hv
        cases hv
    rw [← hv]
    unfold World.cell?
    rw [hb.block b hlt]
  exact ⟨q _ _ _ h.c0, q _ _ _ h.c1, q _ _ _ h.c2, q _ _ _ h.c3, q _ _ _ h.c4, q _ _ _ h.c5, q _ _ _ h.c6, q _ _ _ h.c7, q _ _ _ h.k, q _ _ _ h.w⟩
theorem Rd.of {g t b2 o2 b3 o3 : Nat} {u : V8} {kx x : BitVec 32} {W z : World} (h : Rd g t b2 o2 b3 o3 u kx x W) (e : EqW W z) : Rd g t b2 o2 b3 o3 u kx x z := by rw [show z = W from e]; exact h
/-- A row of words in a block. -/
def RowW (w : World) (g : Nat) (L : List (BitVec 32)) : Prop := w.heap[g]? = some (.cells (L.map encW).toArray 40)
theorem RowW.at {w : World} {g : Nat} {L : List (BitVec 32)} (h : RowW w g L) (i : Nat) (hi : i < L.length) : w.cell? ⟨g, i, none⟩ = some (.int .u32 (E (L.getD i 0))) ∧ w.frozen? ⟨g, i, none⟩ = false := by
  constructor
  · rw [cell_of_row w g i _ _ _ h, List.getElem?_toArray, List.getElem?_map, List.getElem?_eq_getElem hi]
    simp [List.getD, hi, encW]
  · unfold World.frozen?
    unfold RowW at h
    rw [h]
    rfl
theorem RowW.put {w : World} {g : Nat} {L : List (BitVec 32)} (h : RowW w g L) (i : Nat) (x : BitVec 32) : RowW (w.setCell ⟨g, i, none⟩ (.int .u32 (E x))) g (L.set i x) := by
  unfold RowW at h ⊢
  unfold World.setCell
  simp only [Array.getElem?_modify, h, Option.map_some, if_true]
  congr 2
  rw [List.setIfInBounds_toArray, List.map_set]
  rfl
theorem plus_at (v u : V8) (i : Nat) (h : i < 8) : (v.plus u).words.getD i 0 = v.words.getD i 0 + u.words.getD i 0 := by
  have : i = 0 ∨ i = 1 ∨ i = 2 ∨ i = 3 ∨ i = 4 ∨ i = 5 ∨ i = 6 ∨ i = 7 := by omega
  rcases this with rfl | rfl | rfl | rfl | rfl | rfl | rfl | rfl <;> rfl
/-- Two words. -/
def TwoW (b o b' o' : Nat) (x x' : BitVec 32) (z : World) : Prop := z.cell? ⟨b, o, none⟩ = some (.int .u32 (E x)) ∧ z.cell? ⟨b', o', none⟩ = some (.int .u32 (E x'))
set_option maxHeartbeats 4000000 in
set_option maxRecDepth 100000 in
theorem refBlock_any (w : World) (ah : Option Addr) (ch : Nat) (v : V8) (hh : Sl encW w ah 8 v.words) (ab : Option Addr) (cb : Nat) (bs : List UInt8) (hb : Sl encB w ab 64 bs) (ak : Option Addr) (ck : Nat) (hk : Sl encW w ak 64 keysL) :
    Calls Try.prog 17 #[.slice ah 8 ch, .slice ab 64 cb, .slice ak 64 ck] w fun e w' => ∃ g, e = .returned (.slice (some ⟨g, 0, none⟩) 8 8) ∧ Sl encW w' (some ⟨g, 0, none⟩) 8 (addV v bs).words ∧ Below w.heap.size w w' := by
  have HH := Lib.hid hh
  have HBS := Lib.hid hb
  have HKS := Lib.hid hk
  clear hh hb hk
  obtain ⟨A0, hA0⟩ : ∃ A, A = (List.replicate 64 (Value.int .u32 0)).toArray := ⟨_, rfl⟩
  have hmk : (Instr.makeSlice 41 (.int .i64 64) (.int .i64 64)).run Try.prog w = .ok (.slice (some ⟨w.heap.size, 0, none⟩) 64 64) (w.alloc (.cells A0 40)) := by rw [hA0]; exact make_u32 w 64 (by omega)
  obtain ⟨A8, hA8⟩ : ∃ A, A = (List.replicate 8 (Value.int .u32 0)).toArray := ⟨_, rfl⟩
  have hmk8 : ∀ w' : World, (Instr.makeSlice 41 (.int .i64 8) (.int .i64 8)).run Try.prog w' = .ok (.slice (some ⟨w'.heap.size, 0, none⟩) 8 8) (w'.alloc (.cells A8 40)) := fun w' => by rw [hA8]; exact make_u32 w' 8 (by omega)
  have HMK8 := Lib.hid hmk8
  have HA8 := Lib.hid hA8
  clear hmk8 hA8
  have HW0 := Lib.hid (show WBlk (w.alloc (.cells A0 40)) w.heap.size [] 40 by rw [hA0]; exact heap_alloc_last w _)
  have HB0 := Lib.hid (show Below w.heap.size w (w.alloc (.cells A0 40)) from (Below.refl _ _).alloc (Nat.le_refl _) _)
  clear hA0
  go_enter Try.func17, Try.ntmps17
  go_upto_region 2 with fail
  generalize w.alloc (.cells A0 40) = w1 at *
  clear hmk
  obtain ⟨g, hg⟩ : ∃ g, g = w.heap.size := ⟨_, rfl⟩
  rw [← hg] at HW0 HB0 ⊢
  have HG := Lib.hid hg
  clear hg
  go_wp2_with fail
  go_loopg [24] 64 (fun gn i wr => ∃ j : Nat, j ≤ 64 ∧ gn = 64 - j ∧ i = .int .i64 j ∧ Hid (WBlk wr g (spreadW bs j) 40) ∧ Hid (Below g w wr))
  case atStart => exact ⟨0, by omega, by omega, by go_num, HW0, HB0⟩
  case round =>
    clear HW0 HB0
    obtain ⟨j, hj, rfl, rfl, HW, HB⟩ := hrel
    have HL := Lib.hid (spreadW_length bs j)
    by_cases hlt : j < 64
    · obtain ⟨n0, n1⟩ := HW.out.next (by rw [HL.out]; exact hlt)
      rw [HL.out] at n0 n1
      have HP := Lib.hid (fun x => HW.out.put (by rw [HL.out]; exact hlt) x)
      rw [HL.out] at HP
      have gja : (j : Int) < 64 := by omega
      by_cases h16 : j < 16
      · have hj16 : (j : Int) < 16 := by omega
        have HX := Lib.hid (show nextW bs (spreadW bs j) j = wordAt bs j by unfold nextW; rw [if_pos h16])
        have hbl := HBS.out.1
        obtain ⟨bb, ob, rfl, hbb, hc⟩ := (HBS.out.below (HG.out ▸ HB.out)).2 (by omega)
        have HE := Lib.hid (word4 bs j (by omega))
        have c0 := hc (4 * j) (by omega)
        have c1 := hc (4 * j + 1) (by omega)
        have c2 := hc (4 * j + 2) (by omega)
        have c3 := hc (4 * j + 3) (by omega)
        have k0 := bs[4 * j].toNat_lt
        have k1 := bs[4 * j + 1].toNat_lt
        have k2 := bs[4 * j + 2].toNat_lt
        have k3 := bs[4 * j + 3].toNat_lt
        unfold encB at c0 c1 c2 c3
        generalize bs[4 * j].toNat = x0 at *
        generalize bs[4 * j + 1].toNat = x1 at *
        generalize bs[4 * j + 2].toNat = x2 at *
        generalize bs[4 * j + 3].toNat = x3 at *
        obtain ⟨p0, hp0⟩ : ∃ p, p = 4 * j := ⟨_, rfl⟩
        obtain ⟨p1, hp1⟩ : ∃ p, p = 4 * j + 1 := ⟨_, rfl⟩
        obtain ⟨p2, hp2⟩ : ∃ p, p = 4 * j + 2 := ⟨_, rfl⟩
        obtain ⟨p3, hp3⟩ : ∃ p, p = 4 * j + 3 := ⟨_, rfl⟩
        rw [← hp0] at c0
        rw [← hp1] at c1
        rw [← hp2] at c2
        rw [← hp3] at c3
        have e0 : (4 : Int) * (j : Int) = (p0 : Int) := by omega
        have e1 : (p0 : Int) + 1 = (p1 : Int) := by omega
        have e2 : (p0 : Int) + 2 = (p2 : Int) := by omega
        have e3 : (p0 : Int) + 3 = (p3 : Int) := by omega
        have m0 : (p0 : Int) < 64 := by omega
        have m1 : (p1 : Int) < 64 := by omega
        have m2 : (p2 : Int) < 64 := by omega
        have m3 : (p3 : Int) < 64 := by omega
        have hj4 := join4 x0 x1 x2 x3 k0 k1 k2 k3
        rw [← HE.out] at hj4
        have HJ := Lib.hid hj4
        clear hbl hbb hc hp0 hp1 hp2 hp3 hj4 h16
        go_upto_region 6 with fail
        have l0 := fun y (h : Four bb (ob + p0) (ob + p1) (ob + p2) (ob + p3) x0 x1 x2 x3 y) => h.1
        have l1 := fun y (h : Four bb (ob + p0) (ob + p1) (ob + p2) (ob + p3) x0 x1 x2 x3 y) => h.2.1
        have l2 := fun y (h : Four bb (ob + p0) (ob + p1) (ob + p2) (ob + p3) x0 x1 x2 x3 y) => h.2.2.1
        have l3 := fun y (h : Four bb (ob + p0) (ob + p1) (ob + p2) (ob + p3) x0 x1 x2 x3 y) => h.2.2.2
        have hSw : Four bb (ob + p0) (ob + p1) (ob + p2) (ob + p3) x0 x1 x2 x3 wr.drew := ⟨c0, c1, c2, c3⟩
        refine wp_region_lexE (Four bb (ob + p0) (ob + p1) (ob + p2) (ob + p3) x0 x1 x2 x3) 36 [(0, true), (1, true), (2, true), (3, true), (4, true), (5, true), (6, true), (7, true), (8, true), (9, true), (10, true), (11, true), (12, true), (13, true), (14, true), (15, true), (16, true), (17, true), (18, true), (19, true), (20, true), (21, true), (22, true), (23, true), (24, true), (25, true), (26, true), (27, true), (28, true), (29, true), (30, true), (31, true), (32, true), (33, true), (34, true), (35, true)] (by kernel_rfl) (by kernel_rfl) (fun c a d v w h => by cases d <;> exact h) ?_
        iterate 36
          refine lexE_step (fun K hK => ?_)
          simp only [lexOp, List.getElem?_toArray, List.getElem?_cons_succ, List.getElem?_cons_zero]
          rw [if_pos (by rfl)]
          apply Exists.intro
          refine ⟨fun w' hS' => ?_, hSw, ?_⟩
          · first | (go_simp <;> with_reducible rfl) | (go_simp; go_bits; with_reducible rfl)
          go_simp
          try go_bits
          refine hK _ _ ?_
          clear hK K
        refine lexE_last ?_
        simp only [lastOp, List.getElem?_toArray, List.getElem?_cons_succ, List.getElem?_cons_zero]
        rw [if_pos (by rfl)]
        go_step
        clear l0 l1 l2 l3 hSw c0 c1 c2 c3
        go_wp2_with fail
        go_roundg (64 - (j + 1))
        case measure => omega
        case rel =>
          refine ⟨j + 1, by omega, rfl, by go_num, Lib.hid ?_, Lib.hid ?_⟩
          · have h := HP.out (wordAt bs j)
            rw [← HJ.out] at h
            rw [spreadW, HX.out]
            exact h
          · exact (HB.out.drew).setCell (Nat.le_refl _) _
      · have hj16 : decide ((j : Int) < 16) = false := decide_eq_false (by omega)
        have HX := Lib.hid (show nextW bs (spreadW bs j) j = _ by unfold nextW; rw [if_neg h16])
        have q15 := HW.out.at (j - 15) (by rw [HL.out]; omega)
        have q2 := HW.out.at (j - 2) (by rw [HL.out]; omega)
        generalize hx16 : (spreadW bs j).getD (j - 16) 0 = x16 at HX
        generalize hx15 : (spreadW bs j).getD (j - 15) 0 = x15 at q15 HX
        generalize hx7 : (spreadW bs j).getD (j - 7) 0 = x7 at HX
        generalize hx2 : (spreadW bs j).getD (j - 2) 0 = x2 at q2 HX
        have j16 : 16 ≤ j := by omega
        have HB0 := Lib.hid (bdrewN HB.out)
        have HS16 := Lib.hid (fun z (h : WS g (spreadW bs j) z) => h (j - 16) (by rw [HL.out]; omega))
        have HS7 := Lib.hid (fun z (h : WS g (spreadW bs j) z) => h (j - 7) (by rw [HL.out]; omega))
        rw [hx16] at HS16
        rw [hx7] at HS7
        clear h16 HP n0 n1
        go_upto_region 8 with fail
        go_quiet (fail)
        have HWn := Lib.hid (show WBlk (wr.drewN nq) g (spreadW bs j) 40 from HW.out)
        have HBn := Lib.hid (HB0.out nq)
        generalize wr.drewN nq = W at *
        clear hx16 hx15 hx7 hx2 q15 q2 HW HB HB0
        have r1 : bits .xor .u32 (E (rotR x15 7)) (E (rotR x15 18)) = E (rotR x15 7 ^^^ rotR x15 18) := w_xor _ _
        have r2 : E x15 / (8 : Int) = E (x15 >>> 3) := w_shr x15 3
        have r3 : bits .xor .u32 (E (rotR x15 7 ^^^ rotR x15 18)) (E (x15 >>> 3)) = E (sgm0 x15) := w_xor _ _
        have r6 : bits .xor .u32 (E (rotR x2 17)) (E (rotR x2 19)) = E (rotR x2 17 ^^^ rotR x2 19) := w_xor _ _
        have r7 : E x2 / (1024 : Int) = E (x2 >>> 10) := w_shr x2 10
        have r8 : bits .xor .u32 (E (rotR x2 17 ^^^ rotR x2 19)) (E (x2 >>> 10)) = E (sgm1 x2) := w_xor _ _
        have r9 : (E (sgm1 x2) + E x7 + E (sgm0 x15) + E x16) % 4294967296 = E (x16 + sgm0 x15 + x7 + sgm1 x2) := by
          unfold E
          simp only [BitVec.toNat_add]
          omega
        go_wp2_with fail
        refine (refTurn_any _ x15 7 (by decide)).mono ?_
        rintro e w' ⟨rfl, rfl⟩
        go_wp2_with fail
        refine (refTurn_any _ x15 18 (by decide)).mono ?_
        rintro e w' ⟨rfl, rfl⟩
        go_wp2_with fail
        refine (refTurn_any _ x2 17 (by decide)).mono ?_
        rintro e w' ⟨rfl, rfl⟩
        go_wp2_with fail
        refine (refTurn_any _ x2 19 (by decide)).mono ?_
        rintro e w' ⟨rfl, rfl⟩
        go_upto_region 10 with fail
        have n0' : w'.drew.cell? ⟨g, j, none⟩ = some (.int .u32 0) := by rw [← HL.out]; exact (HWn.out.next (by rw [HL.out]; exact hlt)).1
        have n1' : w'.drew.frozen? ⟨g, j, none⟩ = false := by rw [← HL.out]; exact (HWn.out.next (by rw [HL.out]; exact hlt)).2
        have g16a : (16 : Int) ≤ j := by omega
        have g16b : (j : Int) - 16 < 64 := by omega
        have g7a : (7 : Int) ≤ j := by omega
        have g7b : (j : Int) - 7 < 64 := by omega
        have ld16 := HS16.out
        have ld7 := HS7.out
        have hSw : WS g (spreadW bs j) w'.drew := HWn.out.ws
        refine wp_region_lexE (WS g (spreadW bs j)) 18 [(0, true), (1, true), (2, true), (3, true), (4, true), (5, true), (6, true), (7, true), (8, true), (9, true), (10, true), (11, true), (12, true), (13, true), (14, true), (15, true), (16, true), (17, true)] (by kernel_rfl) (by kernel_rfl) (fun c a d v w h => by cases d <;> exact h) ?_
        iterate 18
          refine lexE_step (fun K hK => ?_)
          simp only [lexOp, List.getElem?_toArray, List.getElem?_cons_succ, List.getElem?_cons_zero]
          rw [if_pos (by rfl)]
          apply Exists.intro
          refine ⟨fun w' hS' => ?_, hSw, ?_⟩
          · first | (go_simp <;> with_reducible rfl) | (go_simp; go_bits; with_reducible rfl)
          go_simp
          try go_bits
          refine hK _ _ ?_
          clear hK K
        refine lexE_last ?_
        simp only [lastOp, List.getElem?_toArray, List.getElem?_cons_succ, List.getElem?_cons_zero]
        rw [if_pos (by rfl)]
        go_step
        clear ld16 ld7 hSw n0' n1' r1 r2 r3 r6 r7 r8 r9
        go_wp2_with fail
        go_roundg (64 - (j + 1))
        case measure => omega
        case rel =>
          refine ⟨j + 1, by omega, rfl, by go_num, Lib.hid ?_, Lib.hid ?_⟩
          · rw [spreadW, HX.out]
            have h := HWn.out.put (by rw [HL.out]; exact hlt) (x16 + sgm0 x15 + x7 + sgm1 x2)
            rw [HL.out] at h
            exact h
          · exact (HBn.out.drew).setCell (Nat.le_refl _) _
    · obtain rfl : j = 64 := by omega
      clear hlt
      obtain ⟨Wd, hWd⟩ : ∃ Wd, Wd = spreadW bs 64 := ⟨_, rfl⟩
      rw [← hWd] at HL HW
      have HWD := Lib.hid hWd
      clear hWd
      have HWS := Lib.hid (show Sl encW wr (some ⟨g, 0, none⟩) 64 Wd from by
        have h := HW.out
        unfold WBlk at h
        rw [HL.out, Nat.sub_self, List.replicate_zero, List.append_nil] at h
        exact Sl.lit h rfl HL.out)
      clear HW
      have HO0 := Lib.hid (own_empty wr wr.heap.size 40 (Nat.le_refl _))
      have HB0 := Lib.hid ((Below.refl wr.heap.size wr).alloc (Nat.le_refl _) (.cells #[] 40))
      have HHr := Lib.hid (HH.out.below (HG.out ▸ HB.out))
      go_wp2_with (at_builtin; refine wpList_app1 oneW rfl _ _ _ rfl wr.heap.size _ _ _ rfl HO0.out _ _ _ rfl ((HHr.out.below HB0.out).src encW_cell Try.underlying41 _) (by omega) (by unfold maxLen; omega) HB0.out.size ?_; intro v2 w2 hown2 hg2 hb2; have HO2 := Lib.hid hown2; have HB2 := Lib.hid (HB0.out.trans hb2); clear hown2 hg2 hb2)
      have hO2 : w2.ownsRow wr.heap.size 40 1 v2 8 (v.words.map encW) := by simpa using HO2.out
      obtain ⟨a2, c2, rfl, hs2, hc2⟩ := Sl.ofOwn hO2
      have HV2 := Lib.hid (show Sl encW w2 a2 8 (roundsV bs v 0).words from hs2)
      have HWS2 := Lib.hid (HWS.out.below HB2.out)
      have HBw2 := Lib.hid (HB.out.trans (HB2.out.mono (HG.out ▸ HB.out.size)))
      clear hO2 hs2 HO2 HB2 HO0 HB0 HHr HWS HB
      go_wp2_with fail
      go_loopg [115, 13] 64 (fun gn i s wx => ∃ t a2 c2, t ≤ 64 ∧ gn = 64 - t ∧ i = .int .i64 (t : Nat) ∧ s = .slice a2 8 c2 ∧ Hid (Sl encW wx a2 8 (roundsV bs v t).words) ∧ Hid (Sl encW wx (some ⟨g, 0, none⟩) 64 Wd) ∧ Hid (Below g w wx))
      case atStart => exact ⟨0, a2, c2, by omega, by omega, by go_num, rfl, HV2, HWS2, HBw2⟩
      case round =>
        clear HV2 HWS2 HBw2
        obtain ⟨t, a2, c2, ht, rfl, rfl, rfl, HV, HW, HB⟩ := hrel
        by_cases hlt : t < 64
        · have t1 : (t : Int) < 64 := by omega
          obtain ⟨u, hu⟩ : ∃ u, u = roundsV bs v t := ⟨_, rfl⟩
          rw [← hu] at HV
          have HU := Lib.hid hu
          clear hu
          obtain ⟨x, hx⟩ : ∃ x, x = Wd.getD t 0 := ⟨_, rfl⟩
          obtain ⟨kx, hkx⟩ : ∃ kx, kx = keysL.getD t 0 := ⟨_, rfl⟩
          obtain ⟨b2, o2, rfl, hb2, -⟩ := HV.out.2 (by omega)
          obtain ⟨b3, o3, hake, hb3, -⟩ := HKS.out.2 (by omega)
          obtain rfl := hake
          have HRD := Lib.hid (Rd.mk' HV.out (HKS.out.below (HG.out ▸ HB.out)) HW.out hlt)
          rw [← hx, ← hkx] at HRD
          have HXX := Lib.hid (And.intro hx hkx)
          clear hx hkx hb2 hb3
          have c0 := HRD.out.c0
          have c4 := HRD.out.c4
          have HB0 := Lib.hid (bdrewN HB.out)
          go_upto_region 17 with fail
          go_quiet (fail)
          have HRDn := Lib.hid (show Rd g t b2 o2 b3 o3 u kx x (wr.drewN nq) from HRD.out.below (bdrewN (Below.refl _ _) nq))
          have HWn := Lib.hid (show Sl encW (wr.drewN nq) (some ⟨g, 0, none⟩) 64 Wd from HW.out.below (bdrewN (Below.refl _ _) nq))
          have HBn := Lib.hid (HB0.out nq)
          clear HB0 HRD HW HV HB c0 c4
          generalize wr.drewN nq = W1 at *
          go_upto_region 17 with fail
          have hRd : Rd g t b2 o2 b3 o3 u kx x W1.drew := HRDn.out.below (Below.refl _ _).drew
          have hSw : EqW W1.drew W1.drew := rfl
          have lc0 := fun z (h : EqW W1.drew z) => (hRd.of h).c0
          have lc1 := fun z (h : EqW W1.drew z) => (hRd.of h).c1
          have lc2 := fun z (h : EqW W1.drew z) => (hRd.of h).c2
          have lc3 := fun z (h : EqW W1.drew z) => (hRd.of h).c3
          have lc4 := fun z (h : EqW W1.drew z) => (hRd.of h).c4
          have lc5 := fun z (h : EqW W1.drew z) => (hRd.of h).c5
          have lc6 := fun z (h : EqW W1.drew z) => (hRd.of h).c6
          have lc7 := fun z (h : EqW W1.drew z) => (hRd.of h).c7
          have lk := fun z (h : EqW W1.drew z) => (hRd.of h).k
          have lw := fun z (h : EqW W1.drew z) => (hRd.of h).w
          have r1 : bits .xor .u32 (E (rotR u.e 6)) (E (rotR u.e 11)) = E (rotR u.e 6 ^^^ rotR u.e 11) := w_xor _ _
          have r2 : bits .xor .u32 (E (rotR u.e 6 ^^^ rotR u.e 11)) (E (rotR u.e 25)) = E (big1 u.e) := w_xor _ _
          have r3 : bits .and .u32 (E u.e) (E u.f) = E (u.e &&& u.f) := w_and _ _
          have r4 : bits .xor .u32 4294967295 (E u.e) = E (4294967295#32 ^^^ u.e) := w_xor 4294967295#32 _
          have r5 : bits .and .u32 (E (4294967295#32 ^^^ u.e)) (E u.g) = E ((4294967295#32 ^^^ u.e) &&& u.g) := w_and _ _
          have r6 : bits .xor .u32 (E (u.e &&& u.f)) (E ((4294967295#32 ^^^ u.e) &&& u.g)) = E (u.g ^^^ (u.e &&& (u.f ^^^ u.g))) := by rw [w_xor, chW]
          refine wp_region_lexS (EqW W1.drew) (.stir [(0, true), (1, true), (2, true), (3, true), (4, false), (5, true), (6, false), (7, true), (8, true), (9, false), (10, true), (11, true), (12, true), (13, true), (14, true), (15, true), (16, true), (17, true), (18, true), (19, true), (20, true), (21, true), (22, true), (23, true), (24, true), (25, true), (26, true), (27, true), (28, true), (29, true), (30, true), (31, true), (32, true), (33, true), (34, true), (35, true)]) (by kernel_rfl) (by kernel_rfl) (fun c a d v w h => by cases d <;> exact h) ?_
          refine lexS_stir (EqW W1.drew) (fun y hy => hy) hSw ?_
          iterate 4
            refine stir_step (fun K hK => ?_)
            simp only [stirOp, List.getElem?_toArray, List.getElem?_cons_succ, List.getElem?_cons_zero]
            rw [if_pos (by rfl)]
            apply Exists.intro
            refine ⟨fun w' hS' => ?_, ?_⟩
            · first | (go_simp <;> with_reducible rfl) | (go_simp; go_bits; with_reducible rfl)
            go_simp
            try go_bits
            refine hK _ ?_
            clear hK K
          refine stir_step (fun K hK => ?_)
          simp only [stirOp, List.getElem?_toArray, List.getElem?_cons_succ, List.getElem?_cons_zero]
          rw [if_pos (by rfl)]
          apply Exists.intro
          refine ⟨fun w' hS' => ?_, ?_⟩
          · go_simp
            exact Stirs.call (Calls.mono (refTurn_any w' u.e 6 (by decide)) fun e w'' h => ⟨h.1, (fun hb'' => (by rw [hb'']; exact hS')) h.2⟩)
          go_simp
          refine hK _ ?_
          clear hK K
          iterate 1
            refine stir_step (fun K hK => ?_)
            simp only [stirOp, List.getElem?_toArray, List.getElem?_cons_succ, List.getElem?_cons_zero]
            rw [if_pos (by rfl)]
            apply Exists.intro
            refine ⟨fun w' hS' => ?_, ?_⟩
            · first | (go_simp <;> with_reducible rfl) | (go_simp; go_bits; with_reducible rfl)
            go_simp
            try go_bits
            refine hK _ ?_
            clear hK K
          refine stir_step (fun K hK => ?_)
          simp only [stirOp, List.getElem?_toArray, List.getElem?_cons_succ, List.getElem?_cons_zero]
          rw [if_pos (by rfl)]
          apply Exists.intro
          refine ⟨fun w' hS' => ?_, ?_⟩
          · go_simp
            exact Stirs.call (Calls.mono (refTurn_any w' u.e 11 (by decide)) fun e w'' h => ⟨h.1, (fun hb'' => (by rw [hb'']; exact hS')) h.2⟩)
          go_simp
          refine hK _ ?_
          clear hK K
          iterate 2
            refine stir_step (fun K hK => ?_)
            simp only [stirOp, List.getElem?_toArray, List.getElem?_cons_succ, List.getElem?_cons_zero]
            rw [if_pos (by rfl)]
            apply Exists.intro
            refine ⟨fun w' hS' => ?_, ?_⟩
            · first | (go_simp <;> with_reducible rfl) | (go_simp; go_bits; with_reducible rfl)
            go_simp
            try go_bits
            refine hK _ ?_
            clear hK K
          refine stir_step (fun K hK => ?_)
          simp only [stirOp, List.getElem?_toArray, List.getElem?_cons_succ, List.getElem?_cons_zero]
          rw [if_pos (by rfl)]
          apply Exists.intro
          refine ⟨fun w' hS' => ?_, ?_⟩
          · go_simp
            exact Stirs.call (Calls.mono (refTurn_any w' u.e 25 (by decide)) fun e w'' h => ⟨h.1, (fun hb'' => (by rw [hb'']; exact hS')) h.2⟩)
          go_simp
          refine hK _ ?_
          clear hK K
          iterate 26
            refine stir_step (fun K hK => ?_)
            simp only [stirOp, List.getElem?_toArray, List.getElem?_cons_succ, List.getElem?_cons_zero]
            rw [if_pos (by rfl)]
            apply Exists.intro
            refine ⟨fun w' hS' => ?_, ?_⟩
            · first | (go_simp <;> with_reducible rfl) | (go_simp; go_bits; with_reducible rfl)
            go_simp
            try go_bits
            refine hK _ ?_
            clear hK K
          refine stir_nil (fun y hy => ?_)
          obtain rfl : y = W1.drew := hy
          have r7 : (E u.h + E (big1 u.e) + E (u.g ^^^ (u.e &&& (u.f ^^^ u.g))) + E kx + E x) % 4294967296 = E (u.t1 kx x) := by
            unfold V8.t1 E
            simp only [BitVec.toNat_add]
            omega
          rw [r7]
          clear r1 r2 r3 r4 r5 r6 r7 lc0 lc1 lc2 lc3 lc4 lc5 lc6 lc7 lk lw hRd hSw
          replace HRDn := Lib.hid (show Rd g t b2 o2 b3 o3 u kx x W1.drew from HRDn.out.below (Below.refl _ _).drew)
          replace HWn := Lib.hid (show Sl encW W1.drew (some ⟨g, 0, none⟩) 64 Wd from HWn.out.below (Below.refl _ _).drew)
          replace HBn := Lib.hid (HBn.out.drew)
          generalize W1.drew = W2 at *
          go_upto_region 18 with fail
          have hRd : Rd g t b2 o2 b3 o3 u kx x W2.drew := HRDn.out.below (Below.refl _ _).drew
          have hSw : EqW W2.drew W2.drew := rfl
          have lc0 := fun z (h : EqW W2.drew z) => (hRd.of h).c0
          have lc1 := fun z (h : EqW W2.drew z) => (hRd.of h).c1
          have lc2 := fun z (h : EqW W2.drew z) => (hRd.of h).c2
          have lc3 := fun z (h : EqW W2.drew z) => (hRd.of h).c3
          have lc4 := fun z (h : EqW W2.drew z) => (hRd.of h).c4
          have lc5 := fun z (h : EqW W2.drew z) => (hRd.of h).c5
          have lc6 := fun z (h : EqW W2.drew z) => (hRd.of h).c6
          have lc7 := fun z (h : EqW W2.drew z) => (hRd.of h).c7
          have lk := fun z (h : EqW W2.drew z) => (hRd.of h).k
          have lw := fun z (h : EqW W2.drew z) => (hRd.of h).w
          have r1 : bits .xor .u32 (E (rotR u.a 2)) (E (rotR u.a 13)) = E (rotR u.a 2 ^^^ rotR u.a 13) := w_xor _ _
          have r2 : bits .xor .u32 (E (rotR u.a 2 ^^^ rotR u.a 13)) (E (rotR u.a 22)) = E (big0 u.a) := w_xor _ _
          have r3 : bits .and .u32 (E u.a) (E u.b) = E (u.a &&& u.b) := w_and _ _
          have r4 : bits .and .u32 (E u.a) (E u.c) = E (u.a &&& u.c) := w_and _ _
          have r5 : bits .and .u32 (E u.b) (E u.c) = E (u.b &&& u.c) := w_and _ _
          have r6 : bits .xor .u32 (E (u.a &&& u.b)) (E (u.a &&& u.c)) = E ((u.a &&& u.b) ^^^ (u.a &&& u.c)) := w_xor _ _
          have r8 : bits .xor .u32 (E ((u.a &&& u.b) ^^^ (u.a &&& u.c))) (E (u.b &&& u.c)) = E ((u.a &&& u.b) ||| (u.c &&& (u.a ||| u.b))) := by rw [w_xor, majW]
          refine wp_region_lexS (EqW W2.drew) (.stir [(0, true), (1, false), (2, true), (3, false), (4, true), (5, true), (6, false), (7, true), (8, true), (9, true), (10, true), (11, true), (12, true), (13, true), (14, true), (15, true), (16, true), (17, true), (18, true), (19, true), (20, true), (21, true), (22, true), (23, true), (24, true), (25, true), (26, true), (27, true), (28, true)]) (by kernel_rfl) (by kernel_rfl) (fun c a d v w h => by cases d <;> exact h) ?_
          refine lexS_stir (EqW W2.drew) (fun y hy => hy) hSw ?_
          iterate 1
            refine stir_step (fun K hK => ?_)
            simp only [stirOp, List.getElem?_toArray, List.getElem?_cons_succ, List.getElem?_cons_zero]
            rw [if_pos (by rfl)]
            apply Exists.intro
            refine ⟨fun w' hS' => ?_, ?_⟩
            · first | (go_simp <;> with_reducible rfl) | (go_simp; go_bits; with_reducible rfl)
            go_simp
            try go_bits
            refine hK _ ?_
            clear hK K
          refine stir_step (fun K hK => ?_)
          simp only [stirOp, List.getElem?_toArray, List.getElem?_cons_succ, List.getElem?_cons_zero]
          rw [if_pos (by rfl)]
          apply Exists.intro
          refine ⟨fun w' hS' => ?_, ?_⟩
          · go_simp
            exact Stirs.call (Calls.mono (refTurn_any w' u.a 2 (by decide)) fun e w'' h => ⟨h.1, (fun hb'' => (by rw [hb'']; exact hS')) h.2⟩)
          go_simp
          refine hK _ ?_
          clear hK K
          iterate 1
            refine stir_step (fun K hK => ?_)
            simp only [stirOp, List.getElem?_toArray, List.getElem?_cons_succ, List.getElem?_cons_zero]
            rw [if_pos (by rfl)]
            apply Exists.intro
            refine ⟨fun w' hS' => ?_, ?_⟩
            · first | (go_simp <;> with_reducible rfl) | (go_simp; go_bits; with_reducible rfl)
            go_simp
            try go_bits
            refine hK _ ?_
            clear hK K
          refine stir_step (fun K hK => ?_)
          simp only [stirOp, List.getElem?_toArray, List.getElem?_cons_succ, List.getElem?_cons_zero]
          rw [if_pos (by rfl)]
          apply Exists.intro
          refine ⟨fun w' hS' => ?_, ?_⟩
          · go_simp
            exact Stirs.call (Calls.mono (refTurn_any w' u.a 13 (by decide)) fun e w'' h => ⟨h.1, (fun hb'' => (by rw [hb'']; exact hS')) h.2⟩)
          go_simp
          refine hK _ ?_
          clear hK K
          iterate 2
            refine stir_step (fun K hK => ?_)
            simp only [stirOp, List.getElem?_toArray, List.getElem?_cons_succ, List.getElem?_cons_zero]
            rw [if_pos (by rfl)]
            apply Exists.intro
            refine ⟨fun w' hS' => ?_, ?_⟩
            · first | (go_simp <;> with_reducible rfl) | (go_simp; go_bits; with_reducible rfl)
            go_simp
            try go_bits
            refine hK _ ?_
            clear hK K
          refine stir_step (fun K hK => ?_)
          simp only [stirOp, List.getElem?_toArray, List.getElem?_cons_succ, List.getElem?_cons_zero]
          rw [if_pos (by rfl)]
          apply Exists.intro
          refine ⟨fun w' hS' => ?_, ?_⟩
          · go_simp
            exact Stirs.call (Calls.mono (refTurn_any w' u.a 22 (by decide)) fun e w'' h => ⟨h.1, (fun hb'' => (by rw [hb'']; exact hS')) h.2⟩)
          go_simp
          refine hK _ ?_
          clear hK K
          iterate 22
            refine stir_step (fun K hK => ?_)
            simp only [stirOp, List.getElem?_toArray, List.getElem?_cons_succ, List.getElem?_cons_zero]
            rw [if_pos (by rfl)]
            apply Exists.intro
            refine ⟨fun w' hS' => ?_, ?_⟩
            · first | (go_simp <;> with_reducible rfl) | (go_simp; go_bits; with_reducible rfl)
            go_simp
            try go_bits
            refine hK _ ?_
            clear hK K
          refine stir_nil (fun y hy => ?_)
          obtain rfl : y = W2.drew := hy
          have r7 : (E (big0 u.a) + E ((u.a &&& u.b) ||| (u.c &&& (u.a ||| u.b)))) % 4294967296 = E u.t2 := w_add2 _ _
          rw [r7]
          clear r1 r2 r3 r4 r5 r6 r7 r8 lc0 lc1 lc2 lc3 lc4 lc5 lc6 lc7 lk lw hRd hSw
          replace HRDn := Lib.hid (show Rd g t b2 o2 b3 o3 u kx x W2.drew from HRDn.out.below (Below.refl _ _).drew)
          replace HWn := Lib.hid (show Sl encW W2.drew (some ⟨g, 0, none⟩) 64 Wd from HWn.out.below (Below.refl _ _).drew)
          replace HBn := Lib.hid (HBn.out.drew)
          generalize W2.drew = W3 at *
          go_upto_region 19 with fail
          have hSw : Rd g t b2 o2 b3 o3 u kx x W3.drew := HRDn.out.below (Below.refl _ _).drew
          have r1 : (E (u.t1 kx x) + E u.t2) % 4294967296 = E (u.t1 kx x + u.t2) := w_add2 _ _
          have r2 : (E u.d + E (u.t1 kx x)) % 4294967296 = E (u.d + u.t1 kx x) := w_add2 _ _
          have lc0 := fun z (h : Rd g t b2 o2 b3 o3 u kx x z) => h.c0
          have lc1 := fun z (h : Rd g t b2 o2 b3 o3 u kx x z) => h.c1
          have lc2 := fun z (h : Rd g t b2 o2 b3 o3 u kx x z) => h.c2
          have lc3 := fun z (h : Rd g t b2 o2 b3 o3 u kx x z) => h.c3
          have lc4 := fun z (h : Rd g t b2 o2 b3 o3 u kx x z) => h.c4
          have lc5 := fun z (h : Rd g t b2 o2 b3 o3 u kx x z) => h.c5
          have lc6 := fun z (h : Rd g t b2 o2 b3 o3 u kx x z) => h.c6
          have lc7 := fun z (h : Rd g t b2 o2 b3 o3 u kx x z) => h.c7
          refine wp_region_lexS (Rd g t b2 o2 b3 o3 u kx x) (.of [(0, true), (1, true), (2, true), (3, true), (4, true), (5, true), (6, true), (7, true), (8, true), (9, true), (10, true), (11, true), (12, true), (13, true), (14, true), (15, true), (16, true), (17, true), (18, true), (19, true), (20, true), (21, true), (22, true), (23, true), (24, true), (25, true), (26, false)] (.stir [(27, true)])) (by kernel_rfl) (by kernel_rfl) (fun c a d v w h => by cases d <;> exact h) ?_
          replace HWn := Lib.hid (show Sl encW W3.drew (some ⟨g, 0, none⟩) 64 Wd from HWn.out.below (Below.refl _ _).drew)
          replace HBn := Lib.hid (HBn.out.drew)
          clear HRDn
          generalize W3.drew = W4 at *
          iterate 26
            refine lexS_step (fun K hK => ?_)
            simp only [lexOp, List.getElem?_toArray, List.getElem?_cons_succ, List.getElem?_cons_zero]
            rw [if_pos (by rfl)]
            apply Exists.intro
            refine ⟨fun w' hS' => ?_, hSw, ?_⟩
            · first | (go_simp <;> with_reducible rfl) | (go_simp; go_bits; with_reducible rfl)
            go_simp
            try go_bits
            refine hK _ _ ?_
            clear hK K
          clear lc0 lc1 lc2 lc3 lc4 lc5 lc6 lc7
          have hal : Below W4.heap.size W4 (W4.alloc (.cells #[.int .u32 (E (u.t1 kx x + u.t2)), .int .u32 (E u.a), .int .u32 (E u.b), .int .u32 (E u.c), .int .u32 (E (u.d + u.t1 kx x)), .int .u32 (E u.e), .int .u32 (E u.f), .int .u32 (E u.g)] 40)) := (Below.refl _ _).alloc (Nat.le_refl _) _
          have HN := Lib.hid (show Sl encW (W4.alloc (.cells #[.int .u32 (E (u.t1 kx x + u.t2)), .int .u32 (E u.a), .int .u32 (E u.b), .int .u32 (E u.c), .int .u32 (E (u.d + u.t1 kx x)), .int .u32 (E u.e), .int .u32 (E u.f), .int .u32 (E u.g)] 40)) (some ⟨W4.heap.size, 0, none⟩) 8 (u.round kx x).words from Sl.lit (heap_alloc_last _ _) rfl rfl)
          refine lexS_step (fun K hK => ?_)
          simp only [lexOp, List.getElem?_toArray, List.getElem?_cons_succ, List.getElem?_cons_zero]
          rw [if_pos (by rfl)]
          go_step
          refine ⟨hSw.below hal, hK _ _ ?_⟩
          clear hK K
          have HWq := Lib.hid (HWn.out.below hal)
          have HBq := Lib.hid (HBn.out.trans (hal.mono (HG.out ▸ HBn.out.size)))
          clear HWn HBn
          obtain ⟨g4, hg4⟩ : ∃ g4, g4 = W4.heap.size := ⟨_, rfl⟩
          rw [← hg4] at HN ⊢
          generalize W4.alloc (.cells #[.int .u32 (E (u.t1 kx x + u.t2)), .int .u32 (E u.a), .int .u32 (E u.b), .int .u32 (E u.c), .int .u32 (E (u.d + u.t1 kx x)), .int .u32 (E u.e), .int .u32 (E u.f), .int .u32 (E u.g)] 40) = W5 at *
          have hSw5 := hSw.below hal
          clear hal hSw r1 r2 hg4
          refine lexS_stir (fun y => y = W5) (fun y hy => hy ▸ hSw5) rfl ?_
          iterate 1
            refine stir_step (fun K hK => ?_)
            simp only [stirOp, List.getElem?_toArray, List.getElem?_cons_succ, List.getElem?_cons_zero]
            rw [if_pos (by rfl)]
            apply Exists.intro
            refine ⟨fun w' hS' => ?_, ?_⟩
            · first | (go_simp <;> with_reducible rfl) | (go_simp; go_bits; with_reducible rfl)
            go_simp
            try go_bits
            refine hK _ ?_
            clear hK K
          refine stir_nil (fun y hy => ?_)
          obtain rfl : W5 = y := hy.symm
          clear hSw5
          go_wp2_with fail
          go_roundg (64 - (t + 1))
          case measure => omega
          case rel =>
            refine ⟨t + 1, some ⟨g4, 0, none⟩, 8, by omega, rfl, by go_num, rfl, ?_, HWq, HBq⟩
            rw [roundsV, ← HU.out, ← HWD.out, ← HXX.out.1, ← HXX.out.2]
            exact HN
        · obtain rfl : t = 64 := by omega
          clear hlt
          obtain ⟨U, hU⟩ : ∃ U, U = roundsV bs v 64 := ⟨_, rfl⟩
          rw [← hU] at HV
          have HUE := Lib.hid hU
          clear hU HW
          generalize wr = w0 at *
          have hmk := HMK8.out w0
          have HR3 := Lib.hid (show RowW (w0.alloc (.cells A8 40)) w0.heap.size (List.replicate 8 0) by rw [HA8.out]; exact heap_alloc_last w0 _)
          have HB3 := Lib.hid ((Below.refl w0.heap.size w0).alloc (Nat.le_refl _) (.cells A8 40))
          go_upto_region 22 with fail
          generalize w0.alloc (.cells A8 40) = w3 at *
          clear hmk
          have HH0 := Lib.hid (HH.out.below (HG.out ▸ HB.out))
          have HBB := Lib.hid (show Below w.heap.size w w0 by rw [← HG.out]; exact HB.out)
          obtain ⟨g3, hg3⟩ : ∃ g3, g3 = w0.heap.size := ⟨_, rfl⟩
          rw [← hg3] at HR3 HB3 ⊢
          have HG3 := Lib.hid hg3
          clear hg3 HB HH
          go_wp2_with fail
          go_loopg [218] 8 (fun gn i wx => ∃ j Z, j ≤ 8 ∧ gn = 8 - j ∧ i = .int .i64 (j : Nat) ∧ Hid (RowW wx g3 Z) ∧ Hid (Z.length = 8 ∧ ∀ i, i < j → Z.getD i 0 = v.words.getD i 0 + U.words.getD i 0) ∧ Hid (Below g3 w0 wx))
          case atStart => exact ⟨0, _, by omega, by omega, by go_num, HR3, Lib.hid ⟨by simp, fun i hi => by omega⟩, HB3⟩
          case round =>
            clear HR3 HB3
            obtain ⟨j, Z, hj, rfl, rfl, HR, HZ, HB⟩ := hrel
            by_cases hlt : j < 8
            · have j1 : (j : Int) < 8 := by omega
              obtain ⟨b2, o2, rfl, hb2, hc2⟩ := (HV.out.below (HG3.out ▸ HB.out)).2 (by omega)
              obtain ⟨b3, o3, rfl, hb3, hc3⟩ := (HH0.out.below (HG3.out ▸ HB.out)).2 (by omega)
              have x2 : wr.cell? ⟨b2, o2 + j, none⟩ = some (encW (U.words.getD j 0)) := by rw [getDB_pos (show j < U.words.length from hlt)]; exact hc2 j hlt
              have x3 : wr.cell? ⟨b3, o3 + j, none⟩ = some (encW (v.words.getD j 0)) := by rw [getDB_pos (show j < v.words.length from hlt)]; exact hc3 j hlt
              obtain ⟨x, hx⟩ : ∃ x, x = U.words.getD j 0 := ⟨_, rfl⟩
              obtain ⟨y, hy⟩ : ∃ y, y = v.words.getD j 0 := ⟨_, rfl⟩
              rw [← hx] at x2
              rw [← hy] at x3
              unfold encW at x2 x3
              obtain ⟨n0, n1⟩ := HR.out.at j (by rw [HZ.out.1]; exact hlt)
              generalize hz : Z.getD j 0 = z at n0
              have HXY := Lib.hid (And.intro hx hy)
              have HNR := Lib.hid (HR.out.put j (y + x))
              have HNZ := Lib.hid (show (Z.set j (y + x)).length = 8 ∧ ∀ i, i < j + 1 → (Z.set j (y + x)).getD i 0 = v.words.getD i 0 + U.words.getD i 0 from ⟨by rw [List.length_set]; exact HZ.out.1, fun i hi => by
                by_cases hij : i = j
                · subst hij
                  rw [getDB_pos (by rw [List.length_set, HZ.out.1]; exact hlt), List.getElem_set_self, hx, hy]
                · rw [← HZ.out.2 i (by omega)]
                  simp only [List.getD, List.getElem?_set_ne (Ne.symm hij)]⟩)
              clear hx hy hb2 hb3 hc2 hc3 hz HR HZ
              go_upto_region 25 with fail
              have l1 := fun q (h : TwoW b2 (o2 + j) b3 (o3 + j) x y q) => h.1
              have l2 := fun q (h : TwoW b2 (o2 + j) b3 (o3 + j) x y q) => h.2
              have r1 : (E y + E x) % 4294967296 = E (y + x) := w_add2 _ _
              have hSw : TwoW b2 (o2 + j) b3 (o3 + j) x y wr.drew := ⟨x2, x3⟩
              refine wp_region_lexE (TwoW b2 (o2 + j) b3 (o3 + j) x y) 12 [(0, true), (1, true), (2, true), (3, true), (4, true), (5, true), (6, true), (7, true), (8, true), (9, true), (10, true), (11, true)] (by kernel_rfl) (by kernel_rfl) (fun c a d v w h => by cases d <;> exact h) ?_
              iterate 12
                refine lexE_step (fun K hK => ?_)
                simp only [lexOp, List.getElem?_toArray, List.getElem?_cons_succ, List.getElem?_cons_zero]
                rw [if_pos (by rfl)]
                apply Exists.intro
                refine ⟨fun w' hS' => ?_, hSw, ?_⟩
                · first | (go_simp <;> with_reducible rfl) | (go_simp; go_bits; with_reducible rfl)
                go_simp
                try go_bits
                refine hK _ _ ?_
                clear hK K
              refine lexE_last ?_
              simp only [lastOp, List.getElem?_toArray, List.getElem?_cons_succ, List.getElem?_cons_zero]
              rw [if_pos (by rfl)]
              go_step
              clear l1 l2 r1 hSw n0 n1 x2 x3
              go_wp2_with fail
              go_roundg (8 - (j + 1))
              case measure => omega
              case rel => exact ⟨j + 1, Z.set j (y + x), by omega, rfl, by go_num, HNR, HNZ, Lib.hid ((HB.out.drew).setCell (Nat.le_refl _) _)⟩
            · obtain rfl : j = 8 := by omega
              go_wp2_with fail
              go_ret
              have he : Z = (addV v bs).words := List.ext_getElem (by rw [HZ.out.1]; rfl) (fun i h1 h2 => by
                have hi : i < 8 := by rw [HZ.out.1] at h1; exact h1
                rw [← getDB_pos h1, ← getDB_pos h2, HZ.out.2 i hi, HUE.out]
                exact (plus_at v (roundsV bs v 64) i hi).symm)
              refine ⟨g3, rfl, ?_, HBB.out.trans (HB.out.mono (by rw [HG3.out]; exact HBB.out.size))⟩
              rw [← he]
              exact Sl.lit HR.out rfl HZ.out.1
end Go.Proofs.Ytkcpblfdmfkppaa
