/- page: Parse, and the reference's. No condition. -/
import Derived.Test.YtdnnodpchjnleaaPageFn
import Derived.Test.YtdnnodpchjnleaaNumPlain2
import Derived.Test.YtdnnodpchjnleaaRegion
namespace Go.Proofs.Ytdnnodpchjnleaa
open Go.ChangeShapes Go.WideShapes Go.ChangeAt Go.RowKit
def headV (s : Nat) (l v : Bool) : Array Value := #[.int .u32 (s : Int), .bool l, .bool v]
structure HeadR where
  seq : Nat
  live : Bool
  void : Bool
  err : Int
def headR (bs : List UInt8) : HeadR :=
  if bs.length < 12 then ⟨0, false, false, 6⟩
  else if bs.take 2 ≠ [67, 66] then ⟨0, false, false, 8⟩
  else if bs.take 8 ≠ headB (getN ((bs.drop 2).take 4)) then ⟨0, false, false, 7⟩
  else ⟨getN ((bs.drop 2).take 4), bs.getD 8 0 == 0, bs.getD 9 0 != 255, 0⟩
def HeadRet (r : HeadR) (w : World) (e : Ending) (w' : World) : Prop := e = .returned (.tuple #[.agg (headV r.seq r.live r.void), .int .i64 r.err]) ∧ Below w.heap.size w w'
theorem infoHead : (Try.prog.info? 26).map (·.size) = some 3 := by kernel_rfl

theorem eq_no' {a b : Int} (h : ¬ a = b) : (a == b) = false := by simp [h]
theorem ne_yes {a b : Int} (h : ¬ a = b) : (a != b) = true := by simp [h]
theorem take_head6 {bs : List UInt8} (hl : 12 ≤ bs.length) (h2 : bs.take 2 = [67, 66]) : bs.take 6 = head6 (getN ((bs.drop 2).take 4)) := by
  unfold head6
  have h := put_get ((bs.drop 2).take 4)
  rw [show ((bs.drop 2).take 4).length = 4 by simp; omega] at h
  rw [h, ← h2, show (6 : Nat) = 2 + 4 from rfl, List.take_add]
theorem sum_head {bs : List UInt8} (hl : 12 ≤ bs.length) (h2 : bs.take 2 = [67, 66]) : getN ((bs.drop 6).take 2) = crcN (bs.take 6) ↔ bs.take 8 = headB (getN ((bs.drop 2).take 4)) := by
  unfold headB
  rw [← take_head6 hl h2, show (8 : Nat) = 6 + 2 from rfl, List.take_add]
  have h := put_get ((bs.drop 6).take 2)
  rw [show ((bs.drop 6).take 2).length = 2 by simp; omega] at h
  constructor
  · intro e; rw [← e, h]
  · intro e
    have e2 := List.append_cancel_left e
    have e3 := congrArg getN e2
    rw [get_put, Nat.mod_eq_of_lt (show crcN (bs.take 6) < 256 ^ 2 from crcN_lt _)] at e3
    exact e3
theorem get4_lt (bs : List UInt8) : getN ((bs.drop 2).take 4) < 4294967296 := by
  have h1 := getN_lt ((bs.drop 2).take 4)
  have h2 : 256 ^ ((bs.drop 2).take 4).length ≤ 256 ^ 4 := Nat.pow_le_pow_right (by decide) (by simp; omega)
  omega
theorem get2_lt (bs : List UInt8) : getN ((bs.drop 6).take 2) < 65536 := by
  have h1 := getN_lt ((bs.drop 6).take 2)
  have h2 : 256 ^ ((bs.drop 6).take 2).length ≤ 256 ^ 2 := Nat.pow_le_pow_right (by decide) (by simp; omega)
  omega
theorem getR_6 {bs : List UInt8} (hl : 12 ≤ bs.length) : getR bs 6 2 = (((getN ((bs.drop 6).take 2) : Nat) : Int), (0 : Int)) := by
  unfold getR; rw [if_neg (by omega), if_neg (by omega)]; rfl
theorem getR_2 {bs : List UInt8} (hl : 12 ≤ bs.length) : getR bs 2 4 = (((getN ((bs.drop 2).take 4) : Nat) : Int), (0 : Int)) := by
  unfold getR; rw [if_neg (by omega), if_neg (by omega)]; rfl
/-- Two bytes of a text. -/
def TwoS (b off x y : Nat) (w : World) : Prop := w.cell? ⟨b, off + 8, none⟩ = some (.int .u8 (x : Int)) ∧ w.cell? ⟨b, off + 9, none⟩ = some (.int .u8 (y : Int))
/-- The zero header's block, and the mark's, behind which the walk of Parse goes. -/
def HeadW (w w1 : World) : Prop := w1.heap[w.heap.size]? = some (.cells #[.int .u32 0, .bool false, .bool false] 26) ∧ Below w.heap.size w w1
theorem HeadW.below {w w1 w2 : World} (h : HeadW w w1) (hb : Below w1.heap.size w1 w2) : HeadW w w2 := by
  have hlt : w.heap.size < w1.heap.size := (Array.getElem?_eq_some_iff.1 h.1).1
  exact ⟨by rw [hb.block _ hlt]; exact h.1, h.2.trans (hb.mono h.2.size)⟩
theorem HeadW.first (w : World) : HeadW w (w.alloc (.cells #[.int .u32 0, .bool false, .bool false] 26)) := ⟨heap_alloc_last w _, (Below.refl _ _).alloc (Nat.le_refl _) _⟩
theorem HeadW.cells {w w1 : World} (h : HeadW w w1) : (w1.cell? ⟨w.heap.size, 0, none⟩ = some (.int .u32 0) ∧ w1.cell? ⟨w.heap.size, 1, none⟩ = some (.bool false) ∧ w1.cell? ⟨w.heap.size, 2, none⟩ = some (.bool false)) ∧
    (w1.frozen? ⟨w.heap.size, 0, none⟩ = false ∧ w1.frozen? ⟨w.heap.size, 1, none⟩ = false ∧ w1.frozen? ⟨w.heap.size, 2, none⟩ = false) ∧ w.heap.size < w1.heap.size := by
  have hg := h.1
  refine ⟨⟨?_, ?_, ?_⟩, ⟨?_, ?_, ?_⟩, (Array.getElem?_eq_some_iff.1 hg).1⟩
  · rw [cell_of_row w1 _ 0 _ _ _ hg]; rfl
  · rw [cell_of_row w1 _ 1 _ _ _ hg]; rfl
  · rw [cell_of_row w1 _ 2 _ _ _ hg]; rfl
  all_goals (unfold World.frozen?; rw [hg]; rfl)
theorem heap_set {w : World} {g : Nat} {cs : Array Value} {t : TypeId} {fr : Nat × Nat} (h : w.heap[g]? = some (.cells cs t fr)) (o : Nat) (v : Value) : (w.setCell ⟨g, o, none⟩ v).heap[g]? = some (.cells (cs.setIfInBounds o v) t fr) := by
  unfold World.setCell
  simp [Array.getElem?_modify, h]
theorem keep3 (g : Nat) (w : World) (x y z : Value) : Below g w (((w.setCell ⟨g, 0, none⟩ x).setCell ⟨g, 1, none⟩ y).setCell ⟨g, 2, none⟩ z) :=
  (((Below.refl g w).setCell (p := ⟨g, 0, none⟩) (Nat.le_refl g) x).setCell (p := ⟨g, 1, none⟩) (Nat.le_refl g) y).setCell (p := ⟨g, 2, none⟩) (Nat.le_refl g) z
theorem HeadW.done {w w1 : World} (h : HeadW w w1) (x y z : Value) : ((((w1.setCell ⟨w.heap.size, 0, none⟩ x).setCell ⟨w.heap.size, 1, none⟩ y).setCell ⟨w.heap.size, 2, none⟩ z)).heap[w.heap.size]? = some (.cells #[x, y, z] 26) ∧
    Below w.heap.size w (((w1.setCell ⟨w.heap.size, 0, none⟩ x).setCell ⟨w.heap.size, 1, none⟩ y).setCell ⟨w.heap.size, 2, none⟩ z) :=
  ⟨heap_set (heap_set (heap_set h.1 0 x) 1 y) 2 z, h.2.trans (keep3 _ _ _ _ _)⟩
theorem HeadW.done1 {w w1 : World} (h : HeadW w w1) (x y z : Value) (o : Obj) : ((((w1.setCell ⟨w.heap.size, 0, none⟩ x).setCell ⟨w.heap.size, 1, none⟩ y).setCell ⟨w.heap.size, 2, none⟩ z).alloc o).heap[w.heap.size]? = some (.cells #[x, y, z] 26) ∧
    Below w.heap.size w ((((w1.setCell ⟨w.heap.size, 0, none⟩ x).setCell ⟨w.heap.size, 1, none⟩ y).setCell ⟨w.heap.size, 2, none⟩ z).alloc o) := by
  obtain ⟨h1, h2⟩ := h.done x y z
  have hlt := (Array.getElem?_eq_some_iff.1 h1).1
  exact ⟨by rw [Below.heap_alloc _ _ _ hlt]; exact h1, h2.alloc h2.size _⟩
theorem HeadW.set {w w1 : World} (h : HeadW w w1) (s : Nat) (l v : Bool) : (w1.setRow w.heap.size (headV s l v)).heap[w.heap.size]? = some (.cells (headV s l v) 26) ∧ Below w.heap.size w (w1.setRow w.heap.size (headV s l v)) :=
  ⟨setRow_heap _ _ _ _ _ _ h.1, below_setRow h.2 (Nat.le_refl _) _⟩

set_option maxRecDepth 100000 in
set_option maxHeartbeats 1000000 in
theorem Parse_any (w : World) (a : Option Addr) (n cap : Nat) (bs : List UInt8) (hs : Sl encB w a n bs) (hn : n ≤ 65536) (hcap : n ≤ cap) :
    Calls Try.prog 7 #[.slice a n cap] w (HeadRet (headR bs) w) := by
  have hbl := hs.1
  have HS := Lib.hid hs
  clear hs
  by_cases c1 : n < 12
  · have hR : headR bs = ⟨0, false, false, 6⟩ := by unfold headR; rw [if_pos (by omega)]
    rw [hR]
    go_enter Try.func7, Try.ntmps7
    go_wp2_with fail
    refine (mark_any _).mono ?_
    rintro e w1 ⟨rfl, hb1⟩
    unfold markV
    have HW := Lib.hid ((HeadW.first w).below hb1)
    obtain ⟨⟨q0, q1, q2⟩, ⟨f0, f1, f2⟩, hlt⟩ := HW.out.cells
    have hne : w.heap.size ≠ w1.heap.size := by omega
    clear hb1
    go_wp2
    have hd := HW.out.done1 (.int .u32 0) (.bool false) (.bool false) (Obj.cells #[.int .u8 67, .int .u8 66] 50)
    exact bodyPost_ret (results_cell_row_tmp rfl _ _ w.heap.size _ _ _ _ rfl hd.1 Try.underlying26 rfl infoHead) rfl ⟨rfl, hd.2⟩
  have g1 : (2 : Int) ≤ (n : Int) := by omega
  by_cases c2 : bs.take 2 = [67, 66]
  · have hgr := getR_6 (bs := bs) (by omega)
    have hb2 := get2_lt bs
    have hsum := sum_head (bs := bs) (by omega) c2
    have hcl := crcN_lt (bs.take 6)
    have hp : (bs.take 2 == [67, 66]) = true := by rw [c2]; rfl
    have HP := Lib.hid hp
    have g3 : (6 : Int) ≤ (cap : Int) := by omega
    by_cases c3 : bs.take 8 = headB (getN ((bs.drop 2).take 4))
    · have hR : headR bs = ⟨getN ((bs.drop 2).take 4), bs.getD 8 0 == 0, bs.getD 9 0 != 255, 0⟩ := by unfold headR; rw [if_neg (by omega), if_neg (by simp [c2]), if_neg (by simp [c3])]
      rw [hR]
      rw [← hsum] at c3
      have hb4 := get4_lt bs
      have HG := Lib.hid hgr
      have HG2 := Lib.hid (getR_2 (bs := bs) (by omega))
      have HU := Lib.hid (up_crcN (bs.take 6))
      obtain ⟨x, hx⟩ : ∃ x, x = getN ((bs.drop 6).take 2) := ⟨_, rfl⟩
      obtain ⟨s, hs⟩ : ∃ s, s = getN ((bs.drop 2).take 4) := ⟨_, rfl⟩
      rw [← c3, ← hx] at HU
      rw [← hx] at hb2 HG
      rw [← hs] at hb4 HG2 ⊢
      obtain ⟨b, off, rfl, hbw, hc⟩ := HS.out.2 (by omega)
      have h8 : bs.getD 8 0 = bs[8]'(by omega) := by simp [List.getD, List.getElem?_eq_getElem (by omega : 8 < bs.length)]
      have h9 : bs.getD 9 0 = bs[9]'(by omega) := by simp [List.getD, List.getElem?_eq_getElem (by omega : 9 < bs.length)]
      have k8 := hc 8 (by omega)
      have k9 := hc 9 (by omega)
      obtain ⟨u, hu⟩ : ∃ u : Nat, u = (bs[8]'(by omega)).toNat := ⟨_, rfl⟩
      obtain ⟨v, hv⟩ : ∃ u : Nat, u = (bs[9]'(by omega)).toNat := ⟨_, rfl⟩
      have hl : (bs.getD 8 0 == 0) = ((u : Int) == 0) := by
        rw [h8, hu, Bool.eq_iff_iff]; simp [← UInt8.toNat_inj]
      have hv2 : (bs.getD 9 0 != 255) = ((v : Int) != 255) := by
        rw [h9, hv, Bool.eq_iff_iff]; simp [← UInt8.toNat_inj]; omega
      have hu2 : u < 256 := by rw [hu]; exact UInt8.toNat_lt _
      have hv3 : v < 256 := by rw [hv]; exact UInt8.toNat_lt _
      rw [hl, hv2]
      have HC : Hid (TwoS b off u v w) := ⟨by rw [k8]; unfold encB; rw [hu], by rw [k9]; unfold encB; rw [hv]⟩
      clear hR hp c2 hgr hsum c3 hx hs h8 h9 k8 k9 hc hu hv hl hv2 hcl
      have g8 : (8 : Int) < (n : Int) := by omega
      have g9 : (9 : Int) < (n : Int) := by omega
      go_enter Try.func7, Try.ntmps7
      go_wp2_with fail
      refine (mark_any _).mono ?_
      rintro e w1 ⟨rfl, hb1⟩
      unfold markV
      have HW := Lib.hid ((HeadW.first w).below hb1)
      have HM := Lib.hid (Sl.lit (enc := encB) (n := 2) (xs := [67, 66]) (heap_alloc_last w1 (Obj.cells #[.int .u8 67, .int .u8 66] 50)) rfl rfl)
      have HB := Lib.hid ((HW.out.2).alloc HW.out.2.size (Obj.cells #[.int .u8 67, .int .u8 66] 50))
      clear hb1
      go_wp2_with fail
      refine (HasPrefix_any _ _ n cap bs _ 2 2 [67, 66] (HS.out.below HB.out) HM.out hcap (by omega)).mono ?_
      rw [HP.out]
      rintro e w2 ⟨rfl, rfl⟩
      go_wp2_with fail
      refine (Get_any _ _ n cap bs 6 2 (HS.out.below HB.out) (by omega) hcap (by unfold IntR; omega) (by unfold IntR; omega)).mono ?_
      rw [HG.out]
      rintro e w2 ⟨rfl, rfl⟩
      go_wp2_with fail
      refine (Sum16_any _ _ _ _ (bs.take 6) ((HS.out.below HB.out).take (by omega)).bs (by decide)).mono ?_
      rw [HU.out]
      rintro e w3 ⟨rfl, hb3⟩
      have HW3 := Lib.hid ((HW.out.below ((Below.refl _ _).alloc (Nat.le_refl _) (Obj.cells #[.int .u8 67, .int .u8 66] 50))).below hb3)
      have HB3 := Lib.hid HW3.out.2
      clear hb3
      go_wp2_with fail
      refine (Get_any _ _ n cap bs 2 4 (HS.out.below HB3.out) (by omega) hcap (by unfold IntR; omega) (by unfold IntR; omega)).mono ?_
      rw [HG2.out]
      rintro e w4 ⟨rfl, rfl⟩
      go_wp2_with fail
      obtain ⟨⟨q0, q1, q2⟩, ⟨f0, f1, f2⟩, hlt⟩ := HW3.out.cells
      have hne : w.heap.size ≠ w3.heap.size := by omega
      have hS3 : TwoS b off u v w3 := ⟨by rw [HB3.out.cell (p := ⟨b, off + 8, none⟩) hbw]; exact HC.out.1, by rw [HB3.out.cell (p := ⟨b, off + 9, none⟩) hbw]; exact HC.out.2⟩
      have l8 : ∀ w', TwoS b off u v w' → w'.cell? ⟨b, off + 8, none⟩ = some (.int .u8 (u : Int)) := fun w' h => h.1
      have l9 : ∀ w', TwoS b off u v w' → w'.cell? ⟨b, off + 9, none⟩ = some (.int .u8 (v : Int)) := fun w' h => h.2
      have hSw : TwoS b off u v w3.drew := hS3
      refine wp_region_lex (TwoS b off u v) [(0, true), (1, true), (2, true), (3, true), (4, true), (5, true), (6, true), (7, true), (8, true), (9, true), (10, true), (11, false), (12, true)] (by kernel_rfl) (by kernel_rfl) (fun c a d v w h => by cases d <;> exact h) ?_
      iterate 11
        refine lex_step (fun K hK => ?_)
        simp only [lexOp, List.getElem?_toArray, List.getElem?_cons_succ, List.getElem?_cons_zero]
        rw [if_pos (by rfl)]
        apply Exists.intro
        refine ⟨fun w' hS' => ?_, hSw, ?_⟩
        · first | (go_simp <;> with_reducible rfl) | (go_simp; go_bits; with_reducible rfl)
        go_simp
        try go_bits
        refine hK _ _ ?_
        clear hK K
      refine lex_step (fun K hK => ?_)
      simp only [lexOp, List.getElem?_toArray, List.getElem?_cons_succ, List.getElem?_cons_zero]
      rw [if_pos (by rfl)]
      go_step
      have hb5 : Below w.heap.size w3 (((w3.setCell ⟨w.heap.size, 0, none⟩ (.int .u32 (s : Int))).setCell ⟨w.heap.size, 1, none⟩ (.bool ((u : Int) == 0))).setCell ⟨w.heap.size, 2, none⟩ (.bool ((v : Int) != 255))).drew := (keep3 _ _ _ _ _).drew
      have hS5 : TwoS b off u v (((w3.setCell ⟨w.heap.size, 0, none⟩ (.int .u32 (s : Int))).setCell ⟨w.heap.size, 1, none⟩ (.bool ((u : Int) == 0))).setCell ⟨w.heap.size, 2, none⟩ (.bool ((v : Int) != 255))).drew := ⟨by rw [hb5.cell (p := ⟨b, off + 8, none⟩) hbw]; exact hS3.1, by rw [hb5.cell (p := ⟨b, off + 9, none⟩) hbw]; exact hS3.2⟩
      refine ⟨hS5, hK _ _ ?_⟩
      clear hK K hSw hb5
      have hSw := hS5
      clear hS5
      iterate 1
        refine lex_step (fun K hK => ?_)
        simp only [lexOp, List.getElem?_toArray, List.getElem?_cons_succ, List.getElem?_cons_zero]
        rw [if_pos (by rfl)]
        apply Exists.intro
        refine ⟨fun w' hS' => ?_, hSw, ?_⟩
        · first | (go_simp <;> with_reducible rfl) | (go_simp; go_bits; with_reducible rfl)
        go_simp
        try go_bits
        refine hK _ _ ?_
        clear hK K
      refine lex_nil ?_
      go_wp2
      have hd := HW3.out.done (.int .u32 (s : Int)) (.bool ((u : Int) == 0)) (.bool ((v : Int) != 255))
      exact bodyPost_ret (results_cell_row_tmp rfl _ _ w.heap.size _ _ _ _ rfl hd.1 Try.underlying26 rfl infoHead) rfl ⟨rfl, hd.2.drew⟩
    · have hR : headR bs = ⟨0, false, false, 7⟩ := by unfold headR; rw [if_neg (by omega), if_neg (by simp [c2]), if_pos c3]
      rw [hR]
      rw [← hsum] at c3
      have HG := Lib.hid hgr
      have HU := Lib.hid (up_crcN (bs.take 6))
      obtain ⟨x, hx⟩ : ∃ x, x = getN ((bs.drop 6).take 2) := ⟨_, rfl⟩
      obtain ⟨y, hy⟩ : ∃ y, y = crcN (bs.take 6) := ⟨_, rfl⟩
      rw [← hx] at c3 hb2 HG
      rw [← hy] at c3 hcl HU
      have e1 := eq_no' (show ¬ (x : Int) = (y : Int) by omega)
      have e2 := ne_yes (show ¬ (x : Int) = (y : Int) by omega)
      clear hR hp c2 hgr hsum c3 hx hy
      go_enter Try.func7, Try.ntmps7
      go_wp2_with fail
      refine (mark_any _).mono ?_
      rintro e w1 ⟨rfl, hb1⟩
      unfold markV
      have HW := Lib.hid ((HeadW.first w).below hb1)
      have HM := Lib.hid (Sl.lit (enc := encB) (n := 2) (xs := [67, 66]) (heap_alloc_last w1 (Obj.cells #[.int .u8 67, .int .u8 66] 50)) rfl rfl)
      have HB := Lib.hid ((HW.out.2).alloc HW.out.2.size (Obj.cells #[.int .u8 67, .int .u8 66] 50))
      clear hb1
      go_wp2_with fail
      refine (HasPrefix_any _ _ n cap bs _ 2 2 [67, 66] (HS.out.below HB.out) HM.out hcap (by omega)).mono ?_
      rw [HP.out]
      rintro e w2 ⟨rfl, rfl⟩
      go_wp2_with fail
      refine (Get_any _ _ n cap bs 6 2 (HS.out.below HB.out) (by omega) hcap (by unfold IntR; omega) (by unfold IntR; omega)).mono ?_
      rw [HG.out]
      rintro e w2 ⟨rfl, rfl⟩
      go_wp2_with fail
      refine (Sum16_any _ _ _ _ (bs.take 6) ((HS.out.below HB.out).take (by omega)).bs (by decide)).mono ?_
      rw [HU.out]
      rintro e w3 ⟨rfl, hb3⟩
      have HW3 := Lib.hid ((HW.out.below ((Below.refl _ _).alloc (Nat.le_refl _) (Obj.cells #[.int .u8 67, .int .u8 66] 50))).below hb3)
      obtain ⟨⟨q0, q1, q2⟩, ⟨f0, f1, f2⟩, hlt⟩ := HW3.out.cells
      have hne : w.heap.size ≠ w3.heap.size := by omega
      clear hb3
      go_wp2
      have hd := HW3.out.done (.int .u32 0) (.bool false) (.bool false)
      exact bodyPost_ret (results_cell_row_tmp rfl _ _ w.heap.size _ _ _ _ rfl hd.1 Try.underlying26 rfl infoHead) rfl ⟨rfl, hd.2⟩
  · have hR : headR bs = ⟨0, false, false, 8⟩ := by unfold headR; rw [if_neg (by omega), if_pos c2]
    rw [hR]
    have hp : (bs.take 2 == [67, 66]) = false := by rw [beq_eq_false_iff_ne]; exact c2
    have HP := Lib.hid hp
    clear hR hp c2
    go_enter Try.func7, Try.ntmps7
    go_wp2_with fail
    refine (mark_any _).mono ?_
    rintro e w1 ⟨rfl, hb1⟩
    unfold markV
    have HW := Lib.hid ((HeadW.first w).below hb1)
    obtain ⟨⟨q0, q1, q2⟩, ⟨f0, f1, f2⟩, hlt⟩ := HW.out.cells
    have hne : w.heap.size ≠ w1.heap.size := by omega
    have HM := Lib.hid (Sl.lit (enc := encB) (n := 2) (xs := [67, 66]) (heap_alloc_last w1 (Obj.cells #[.int .u8 67, .int .u8 66] 50)) rfl rfl)
    have HB := Lib.hid ((HW.out.2).alloc HW.out.2.size (Obj.cells #[.int .u8 67, .int .u8 66] 50))
    clear hb1
    go_wp2_with fail
    refine (HasPrefix_any _ _ n cap bs _ 2 2 [67, 66] (HS.out.below HB.out) HM.out hcap (by omega)).mono ?_
    rw [HP.out]
    rintro e w2 ⟨rfl, rfl⟩
    go_wp2
    have hd := HW.out.done1 (.int .u32 0) (.bool false) (.bool false) (Obj.cells #[.int .u8 67, .int .u8 66] 50)
    exact bodyPost_ret (results_cell_row_tmp rfl _ _ w.heap.size _ _ _ _ rfl hd.1 Try.underlying26 rfl infoHead) rfl ⟨rfl, hd.2⟩
end Go.Proofs.Ytdnnodpchjnleaa
