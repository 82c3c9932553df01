/- sha: the rounds' numbers, and a block's 64 words. No condition. -/
import Derived.Test.YtkcpblfdmfkppaaShaWord
import Derived.Test.YtkcpblfdmfkppaaNumFn
import Derived.Test.YtkcpblfdmfkppaaNumPlain2
import Derived.Test.YtkcpblfdmfkppaaRegionS
import Derived.Deep.LoopGhost
import Derived.Deep.DeepCutAuto
namespace Go.Proofs.Ytkcpblfdmfkppaa
open Go.ChangeShapes Go.WideShapes Go.ChangeAt Go.RowKit
def sgm0 (x : BitVec 32) : BitVec 32 := rotR x 7 ^^^ rotR x 18 ^^^ (x >>> 3)
def sgm1 (x : BitVec 32) : BitVec 32 := rotR x 17 ^^^ rotR x 19 ^^^ (x >>> 10)
def wordAt (b : List UInt8) (t : Nat) : BitVec 32 := BitVec.ofNat 32 (getN ((b.drop (4 * t)).take 4))
/-- The next of a block's words. -/
def nextW (b : List UInt8) (W : List (BitVec 32)) (t : Nat) : BitVec 32 :=
  if t < 16 then wordAt b t else W.getD (t - 16) 0 + sgm0 (W.getD (t - 15) 0) + W.getD (t - 7) 0 + sgm1 (W.getD (t - 2) 0)
/-- The first words. -/
def spreadW (b : List UInt8) : Nat → List (BitVec 32)
  | 0 => []
  | t + 1 => spreadW b t ++ [nextW b (spreadW b t) t]
theorem spreadW_length (b : List UInt8) : ∀ t, (spreadW b t).length = t
  | 0 => rfl
  | t + 1 => by rw [spreadW, List.length_append, spreadW_length b t]; rfl
def encW (x : BitVec 32) : Value := .int .u32 (E x)
/-- A block of 64 words, of which the first are told. -/
def WBlk (w : World) (g : Nat) (W : List (BitVec 32)) (e : TypeId) : Prop := w.heap[g]? = some (.cells (W.map encW ++ List.replicate (64 - W.length) (Value.int .u32 0)).toArray e)
theorem w_add4 (a b c d : BitVec 32) : (E a + E b + E c + E d) % 4294967296 = E (a + b + c + d) := by
  unfold E
  simp only [BitVec.toNat_add]
  omega
theorem WBlk.below {w w' : World} {g : Nat} {W : List (BitVec 32)} {e : TypeId} (h : WBlk w g W e) (hb : Below w.heap.size w w') : WBlk w' g W e := by
  unfold WBlk at h ⊢
  rw [hb.block g (Array.getElem?_eq_some_iff.1 h).1]
  exact h
theorem WBlk.lt {w : World} {g : Nat} {W : List (BitVec 32)} {e : TypeId} (h : WBlk w g W e) : g < w.heap.size := (Array.getElem?_eq_some_iff.1 h).1
theorem WBlk.at {w : World} {g : Nat} {W : List (BitVec 32)} {e : TypeId} (h : WBlk w g W e) (i : Nat) (hi : i < W.length) : w.cell? ⟨g, i, none⟩ = some (.int .u32 (E (W.getD i 0))) := by
  rw [cell_of_row w g i _ _ _ h]
  rw [List.getElem?_toArray, List.getElem?_append_left (by simpa using hi), List.getElem?_map, List.getElem?_eq_getElem hi]
  simp [encW, List.getD, hi]
theorem WBlk.next {w : World} {g : Nat} {W : List (BitVec 32)} {e : TypeId} (h : WBlk w g W e) (hi : W.length < 64) : w.cell? ⟨g, W.length, none⟩ = some (.int .u32 0) ∧ w.frozen? ⟨g, W.length, none⟩ = false := by
  constructor
  · rw [cell_of_row w g W.length _ _ _ h]
    rw [List.getElem?_toArray, List.getElem?_append_right (by simp), List.getElem?_replicate, if_pos (by simp; omega)]
  · unfold World.frozen?
    unfold WBlk at h
    rw [h]
    rfl
theorem WBlk.put {w : World} {g : Nat} {W : List (BitVec 32)} {e : TypeId} (h : WBlk w g W e) (hi : W.length < 64) (x : BitVec 32) : WBlk (w.setCell ⟨g, W.length, none⟩ (.int .u32 (E x))) g (W ++ [x]) e := by
  unfold WBlk at h ⊢
  unfold World.setCell
  simp only [Array.getElem?_modify, h, Option.map_some, if_true]
  congr 2
  rw [List.length_append, List.length_singleton, List.map_append, List.setIfInBounds_toArray, List.set_append_right _ _ (by simp), List.length_map, Nat.sub_self]
  rw [show 64 - W.length = (64 - (W.length + 1)) + 1 by omega, List.replicate_succ, List.set_cons_zero]
  simp [encW]
theorem WBlk.other {w : World} {g g' o : Nat} {v : Value} {W : List (BitVec 32)} {e : TypeId} (h : WBlk w g W e) (hne : g ≠ g') : WBlk (w.setCell ⟨g', o, none⟩ v) g W e := by
  unfold WBlk at h ⊢
  unfold World.setCell
  simp [Array.getElem?_modify, Ne.symm hne, h]
theorem info64 : (Try.prog.info? 62).map (·.size) = some 64 := by kernel_rfl
/-- The told words can be read. -/
def WS (g : Nat) (W : List (BitVec 32)) (z : World) : Prop := ∀ i, i < W.length → z.cell? ⟨g, i, none⟩ = some (.int .u32 (E (W.getD i 0)))
theorem WBlk.ws {w : World} {g : Nat} {W : List (BitVec 32)} {e : TypeId} (h : WBlk w g W e) : WS g W w := fun i hi => h.at i hi
theorem WS.put {w : World} {g : Nat} {W : List (BitVec 32)} (h : WS g W w) (v : Value) : WS g W (w.setCell ⟨g, W.length, none⟩ v) := fun i hi => by
  rw [World.cell?_setCell_other]
  · exact h i hi
  · intro e
    cases e
    omega
set_option maxHeartbeats 4000000 in
set_option maxRecDepth 100000 in
theorem spread_any (w : World) (a : Option Addr) (cap : Nat) (bs : List UInt8) (hs : Sl encB w a 64 bs) (hcap : 64 ≤ cap) :
    Calls Try.prog 27 #[.slice a 64 cap] w fun e w' => e = .returned (.agg ((spreadW bs 64).map encW).toArray) ∧ Below w.heap.size w w' := by
  have HS := Lib.hid hs
  clear hs
  go_enter Try.func27, Try.ntmps27
  go_wp2_with fail
  go_loopg [9] 64 (fun gn i wr => ∃ j : Nat, j ≤ 64 ∧ gn = 64 - j ∧ i = .int .i64 j ∧ Hid (WBlk wr (w.heap.size + 1) (spreadW bs j) 62) ∧ Hid (WBlk wr w.heap.size [] 62) ∧ Hid (Below w.heap.size w wr))
  case atStart =>
    refine ⟨0, by omega, by omega, by go_num, Lib.hid ?_, Lib.hid ?_, Lib.hid ?_⟩
    · have h := heap_alloc_last (w.alloc (.cells (List.replicate 64 (Value.int .u32 0)).toArray 62)) (.cells (List.replicate 64 (Value.int .u32 0)).toArray 62)
      rw [show (w.alloc (.cells (List.replicate 64 (Value.int .u32 0)).toArray 62)).heap.size = w.heap.size + 1 by simp only [World.alloc, Array.size_push]] at h
      exact h
    · have h := heap_alloc_last w (.cells (List.replicate 64 (Value.int .u32 0)).toArray 62)
      have h2 : WBlk (w.alloc (.cells (List.replicate 64 (Value.int .u32 0)).toArray 62)) w.heap.size [] 62 := h
      exact h2.below ((Below.refl _ _).alloc (Nat.le_refl _) _)
    · exact ((Below.refl _ _).alloc (Nat.le_refl _) _).alloc (by simp) _
  case round =>
    obtain ⟨j, hj, rfl, rfl, HW, HZ, HB⟩ := hrel
    have HL := Lib.hid (spreadW_length bs j)
    by_cases hlt : j < 64
    · obtain ⟨n0, n1⟩ := HW.out.next (by rw [HL.out]; exact hlt)
      rw [HL.out] at n0 n1
      have HP := Lib.hid (fun x => HW.out.put (by rw [HL.out]; exact hlt) x)
      rw [HL.out] at HP
      by_cases h16 : j < 16
      · have hj16 : (j : Int) < 16 := by omega
        have HX := Lib.hid (show nextW bs (spreadW bs j) j = wordAt bs j by unfold nextW; rw [if_pos h16])
        have HG := Lib.hid (Get_any wr a 64 cap bs (4 * j : Int) 4 (HS.out.below HB.out) (by decide) hcap (by unfold IntR; omega) (by unfold IntR; omega))
        have hgl : getN ((bs.drop (4 * j)).take 4) < 4294967296 := by
          have h1 := getN_lt ((bs.drop (4 * j)).take 4)
          have h2 : ((bs.drop (4 * j)).take 4).length ≤ 4 := by rw [List.length_take]; omega
          exact Nat.lt_of_lt_of_le h1 (Nat.le_trans (Nat.pow_le_pow_right (by decide) h2) (by decide))
        have hge : getR bs (4 * j : Int) 4 = ((getN ((bs.drop (4 * j)).take 4) : Int), 0) := by
          unfold getR
          have hl := HS.out.1
          rw [if_neg (by omega), if_neg (by omega)]
          congr 5
        have hwe : E (wordAt bs j) = (getN ((bs.drop (4 * j)).take 4) : Int) := by
          unfold wordAt E
          rw [BitVec.toNat_ofNat, Nat.mod_eq_of_lt (by omega)]
        have HE := Lib.hid hwe
        rw [hge] at HG
        generalize getN ((bs.drop (4 * j)).take 4) = v at *
        have wv : IntKind.u32.wrap (v : Int) = (v : Int) := by rw [IntKind.wrap_u32']; omega
        clear hge hwe h16
        go_wp2_with fail
        refine HG.out.mono ?_
        rintro e w' ⟨rfl, rfl⟩
        go_wp2_with fail
        go_roundg (64 - (j + 1))
        case measure => omega
        case rel =>
          refine ⟨j + 1, by omega, rfl, by go_num, Lib.hid ?_, Lib.hid ?_, Lib.hid (HB.out.setCell (by simp) _)⟩
          · have h := HP.out (wordAt bs j)
            rw [HE.out] at h
            rw [spreadW, HX.out]
            exact h
          · exact HZ.out.other (by omega)
      · have hj16 : decide ((j : Int) < 16) = false := by simp; omega
        have HX := Lib.hid (show nextW bs (spreadW bs j) j = _ by unfold nextW; rw [if_neg h16])
        have q16 := HW.out.at (j - 16) (by rw [HL.out]; omega)
        have q15 := HW.out.at (j - 15) (by rw [HL.out]; omega)
        have q7 := HW.out.at (j - 7) (by rw [HL.out]; omega)
        have q2 := HW.out.at (j - 2) (by rw [HL.out]; omega)
        generalize hx16 : (spreadW bs j).getD (j - 16) 0 = x16 at q16 HX
        generalize hx15 : (spreadW bs j).getD (j - 15) 0 = x15 at q15 HX
        generalize hx7 : (spreadW bs j).getD (j - 7) 0 = x7 at q7 HX
        generalize hx2 : (spreadW bs j).getD (j - 2) 0 = x2 at q2 HX
        have j16 : 16 ≤ j := by omega
        have HB0 := Lib.hid (bdrewN HB.out)
        have HT := Lib.hid (fun w' n h => turn_any w' x15 n h)
        have HT2 := Lib.hid (fun w' n h => turn_any w' x2 n h)
        have HS16 := Lib.hid (fun z (h : WS (w.heap.size + 1) (spreadW bs j) z) => h (j - 16) (by rw [HL.out]; omega))
        have HS7 := Lib.hid (fun z (h : WS (w.heap.size + 1) (spreadW bs j) z) => h (j - 7) (by rw [HL.out]; omega))
        rw [hx16] at HS16
        rw [hx7] at HS7
        clear h16
        go_upto_region 8 with fail
        go_quiet (fail)
        have hlr : wr.heap.size = (wr.drewN nq).heap.size := rfl
        have HWn := Lib.hid (show WBlk (wr.drewN nq) (w.heap.size + 1) (spreadW bs j) 62 from HW.out)
        have HZn := Lib.hid (show WBlk (wr.drewN nq) w.heap.size [] 62 from HZ.out)
        have HBn := Lib.hid (HB0.out nq)
        generalize wr.drewN nq = W at *
        have hx15' := Lib.hid hx15
        have hx2' := Lib.hid hx2
        clear hx16 hx15 hx7 hx2 hlr q16 q15 q7 q2
        have r1 : bits .xor .u32 (E (rotR x15 7)) (E (rotR x15 18)) = E (rotR x15 7 ^^^ rotR x15 18) := w_xor _ _
        have r2 : E x15 / (8 : Int) = E (x15 >>> 3) := w_shr x15 3
        have r3 : bits .xor .u32 (E (rotR x15 7 ^^^ rotR x15 18)) (E (x15 >>> 3)) = E (sgm0 x15) := w_xor _ _
        have r6 : bits .xor .u32 (E (rotR x2 17)) (E (rotR x2 19)) = E (rotR x2 17 ^^^ rotR x2 19) := w_xor _ _
        have r7 : E x2 / (1024 : Int) = E (x2 >>> 10) := w_shr x2 10
        have r8 : bits .xor .u32 (E (rotR x2 17 ^^^ rotR x2 19)) (E (x2 >>> 10)) = E (sgm1 x2) := w_xor _ _
        have r9 : (E x16 + E (sgm0 x15) + E x7 + E (sgm1 x2)) % 4294967296 = E (x16 + sgm0 x15 + x7 + sgm1 x2) := w_add4 _ _ _ _
        have hS2 : ∀ v, WS (w.heap.size + 1) (spreadW bs j) (W.setCell ⟨w.heap.size + 1, j, none⟩ (.int .u32 v)).drew := fun v => by
          have h := (HWn.out.ws).put (.int .u32 v)
          rw [HL.out] at h
          exact h
        have HS2 := Lib.hid hS2
        clear hS2
        go_upto_region 9 with fail
        have g16a : (16 : Int) ≤ j := by omega
        have g16b : (j : Int) - 16 < 64 := by omega
        have g7a : (7 : Int) ≤ j := by omega
        have g7b : (j : Int) - 7 < 64 := by omega
        have gja : (j : Int) < 64 := by omega
        have ld16 := HS16.out
        have ld7 := HS7.out
        have hSw : WS (w.heap.size + 1) (spreadW bs j) W.drew := HWn.out.ws
        refine wp_region_lexS (WS (w.heap.size + 1) (spreadW bs j)) (.of [(0, true), (1, true), (2, true), (3, true), (4, true), (5, true), (7, true), (10, true), (11, true), (14, true), (15, true), (16, true), (17, true), (19, true), (21, true), (24, true), (25, true), (6, false), (8, false), (9, true), (12, true), (13, true), (18, true), (20, false), (22, false), (23, true), (26, true), (27, true), (28, true), (29, false)] (.stir [])) (by kernel_rfl) (by kernel_rfl) (fun c a d v w h => by cases d <;> exact h) ?_
        iterate 17
          refine lexS_step (fun K hK => ?_)
          simp only [lexOp, List.getElem?_toArray, List.getElem?_cons_succ, List.getElem?_cons_zero]
          rw [if_pos (by rfl)]
          apply Exists.intro
          refine ⟨fun w' hS' => ?_, hSw, ?_⟩
          · first | (go_simp <;> with_reducible rfl) | (go_simp; go_bits; with_reducible rfl)
          go_simp
          try go_bits
          refine hK _ _ ?_
          clear hK K
        refine lexS_step (fun K hK => ?_)
        simp only [lexOp, List.getElem?_toArray, List.getElem?_cons_succ, List.getElem?_cons_zero]
        rw [if_pos (by rfl)]
        go_step
        refine (HT.out _ 7 (by decide)).mono ?_
        rintro e w' ⟨rfl, rfl⟩
        refine ⟨hSw, ?_⟩
        go_simp
        refine hK _ _ ?_
        clear hK K
        refine lexS_step (fun K hK => ?_)
        simp only [lexOp, List.getElem?_toArray, List.getElem?_cons_succ, List.getElem?_cons_zero]
        rw [if_pos (by rfl)]
        go_step
        refine (HT.out _ 18 (by decide)).mono ?_
        rintro e w' ⟨rfl, rfl⟩
        refine ⟨hSw, ?_⟩
        go_simp
        refine hK _ _ ?_
        clear hK K
        iterate 4
          refine lexS_step (fun K hK => ?_)
          simp only [lexOp, List.getElem?_toArray, List.getElem?_cons_succ, List.getElem?_cons_zero]
          rw [if_pos (by rfl)]
          apply Exists.intro
          refine ⟨fun w' hS' => ?_, hSw, ?_⟩
          · first | (go_simp <;> with_reducible rfl) | (go_simp; go_bits; with_reducible rfl)
          go_simp
          try go_bits
          refine hK _ _ ?_
          clear hK K
        refine lexS_step (fun K hK => ?_)
        simp only [lexOp, List.getElem?_toArray, List.getElem?_cons_succ, List.getElem?_cons_zero]
        rw [if_pos (by rfl)]
        go_step
        refine (HT2.out _ 17 (by decide)).mono ?_
        rintro e w' ⟨rfl, rfl⟩
        refine ⟨hSw, ?_⟩
        go_simp
        refine hK _ _ ?_
        clear hK K
        refine lexS_step (fun K hK => ?_)
        simp only [lexOp, List.getElem?_toArray, List.getElem?_cons_succ, List.getElem?_cons_zero]
        rw [if_pos (by rfl)]
        go_step
        refine (HT2.out _ 19 (by decide)).mono ?_
        rintro e w' ⟨rfl, rfl⟩
        refine ⟨hSw, ?_⟩
        go_simp
        refine hK _ _ ?_
        clear hK K
        iterate 4
          refine lexS_step (fun K hK => ?_)
          simp only [lexOp, List.getElem?_toArray, List.getElem?_cons_succ, List.getElem?_cons_zero]
          rw [if_pos (by rfl)]
          apply Exists.intro
          refine ⟨fun w' hS' => ?_, hSw, ?_⟩
          · first | (go_simp <;> with_reducible rfl) | (go_simp; go_bits; with_reducible rfl)
          go_simp
          try go_bits
          refine hK _ _ ?_
          clear hK K
        have n0' : W.drew.cell? ⟨w.heap.size + 1, j, none⟩ = some (.int .u32 0) := by rw [← HL.out]; exact (HWn.out.next (by rw [HL.out]; exact hlt)).1
        have n1' : W.drew.frozen? ⟨w.heap.size + 1, j, none⟩ = false := by rw [← HL.out]; exact (HWn.out.next (by rw [HL.out]; exact hlt)).2
        refine lexS_step (fun K hK => ?_)
        simp only [lexOp, List.getElem?_toArray, List.getElem?_cons_succ, List.getElem?_cons_zero]
        rw [if_pos (by rfl)]
        go_step
        refine ⟨HS2.out _, ?_⟩
        refine hK _ _ ?_
        clear hK K
        refine lexS_stir (fun y => y = _) (fun y hy => hy ▸ HS2.out _) rfl ?_
        refine stir_nil (fun y hy => ?_)
        subst hy
        clear hSw ld16 ld7
        go_wp2_with fail
        go_roundg (64 - (j + 1))
        case measure => omega
        case rel =>
          refine ⟨j + 1, by omega, rfl, by go_num, Lib.hid ?_, Lib.hid ?_, Lib.hid ?_⟩
          · rw [spreadW, HX.out]
            have h := HWn.out.put (by rw [HL.out]; exact hlt) (x16 + sgm0 x15 + x7 + sgm1 x2)
            rw [HL.out] at h
            exact h
          · have h := HZn.out.other (g' := w.heap.size + 1) (o := j) (v := .int .u32 (E (x16 + sgm0 x15 + x7 + sgm1 x2))) (by omega)
            exact h
          · exact (HBn.out.setCell (by simp) _).drew
    · obtain rfl : j = 64 := by omega
      have hl := HL.out
      generalize hWE : spreadW bs 64 = W at *
      have HWE := Lib.hid hWE
      clear hWE
      have hsz : (W.map encW).toArray.size = 64 := by simp [hl]
      have H := Lib.hid (show wr.heap[w.heap.size + 1]? = some (.cells (W.map encW).toArray 62) by
        have h := HW.out
        unfold WBlk at h
        rw [hl, Nat.sub_self, List.replicate_zero, List.append_nil] at h
        exact h)
      have H0 := Lib.hid (show wr.heap[w.heap.size]? = some (.cells (List.replicate 64 (Value.int .u32 0)).toArray 62) from HZ.out)
      have hone : (W.map encW).toArray.all (·.oneCell') = true := by simp [encW, Value.oneCell']
      have HSZ := Lib.hid hsz
      have HON := Lib.hid hone
      obtain ⟨A, hA⟩ : ∃ A, A = (W.map encW).toArray := ⟨_, rfl⟩
      have HA := Lib.hid hA
      rw [← hA] at H HSZ HON
      clear HL hl HW HZ hsz hone hA HS
      go_wp2_with (first
        | (refine wpList_load_row rfl _ _ rfl _ rfl _ _ _ _ H.out Try.underlying62 rfl (by rw [HSZ.out]; exact info64) ?_)
        | (refine wpList_store_row rfl _ _ _ rfl _ _ rfl rfl _ _ H0.out (by rw [HSZ.out]; exact info64) (by rw [HSZ.out]; rfl) HON.out ?_))
      refine bodyPost_ret (v := .agg A) (results_cell_row rfl _ _ w.heap.size _ _ _ _ rfl (setRow_heap _ _ _ _ _ _ H0.out) Try.underlying62 rfl (by rw [HSZ.out]; exact info64)) rfl ⟨by rw [HA.out, HWE.out], ?_⟩
      exact below_setRow HB.out (Nat.le_refl _) _
end Go.Proofs.Ytkcpblfdmfkppaa
