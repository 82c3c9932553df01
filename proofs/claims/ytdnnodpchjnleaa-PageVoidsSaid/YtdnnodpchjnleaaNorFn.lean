/- nor: the small methods. No condition. -/
import Derived.Test.YtdnnodpchjnleaaNumFn -- 21
import Derived.Test.YtdnnodpchjnleaaNorMem
import Derived.Test.YtdnnodpchjnleaaRegionS
import Derived.Deep.DeepCutAuto
namespace Go.Proofs.Ytdnnodpchjnleaa
open Go.ChangeShapes Go.WideShapes Go.ChangeAt Go.RowKit
theorem eqi_no {a b : Int} (h : ¬ a = b) : (a == b) = false := by simp [h]
theorem eqi_yes {a b : Int} (h : a = b) : (a == b) = true := by simp [h]
abbrev FlA := IsFl 71 5 3
set_option maxRecDepth 100000 in
set_option maxHeartbeats 1000000 in
theorem within_any (w : World) (x l h : Int) : Calls Try.prog 35 #[.int .i64 x, .int .i64 l, .int .i64 h] w fun e w' => e = .returned (.bool (decide (l ≤ x ∧ x ≤ h))) ∧ w = w' := by
  by_cases h1 : l ≤ x
  · by_cases h2 : x ≤ h
    · rw [decide_eq_true (show l ≤ x ∧ x ≤ h from ⟨h1, h2⟩)]
      go_enter Try.func35, Try.ntmps35
      go_wp2_with fail
      go_ret
      exact ⟨rfl, rfl⟩
    · rw [decide_eq_false (show ¬ (l ≤ x ∧ x ≤ h) from fun a => h2 a.2)]
      go_enter Try.func35, Try.ntmps35
      go_wp2_with fail
      go_ret
      exact ⟨rfl, rfl⟩
  · rw [decide_eq_false (show ¬ (l ≤ x ∧ x ≤ h) from fun a => h1 a.1)]
    go_enter Try.func35, Try.ntmps35
    go_wp2_with fail
    go_ret
    exact ⟨rfl, rfl⟩
/-- What a method that turns the flash leaves. -/
def Turned (tF : TypeId) (w : World) (g gb gc cb cc : Nat) (f : Fl) (r : Ending) (e : Ending) (w' : World) : Prop := e = r ∧ IsFl tF 5 3 w' g gb gc cb cc f ∧ Kept g gb gc w w'
set_option maxRecDepth 100000 in
set_option maxHeartbeats 1000000 in
theorem Reset_any (w : World) (g gb gc cb cc : Nat) (f : Fl) (hf : FlA w g gb gc cb cc f) :
    Calls Try.prog 18 #[.pointer (some ⟨g, 0, none⟩)] w (Turned 71 w g gb gc cb cc f.reset (.returned (.tuple #[]))) := by
  have HF := Lib.hid hf
  obtain ⟨c0, c1, c2, c3, c4, c5, c6, c7, c8⟩ := hf.cells
  have m5 := hf.melt 5
  have m6 := hf.melt 6
  have hlt := hf.lt.1
  have hz := Lib.hid ((hf.setDown false).setLeft (-1) (by omega) (by omega))
  have hk := Lib.hid (((Kept.refl g gb gc w).set (o := 5) (.inl rfl) (.bool false)).set (o := 6) (.inl rfl) (.int .i64 (-1)))
  clear hf
  go_enter Try.func18, Try.ntmps18
  go_wp2_with fail
  go_end0
  exact ⟨rfl, hz.out, hk.out⟩
theorem cell_other {w : World} {g o : Nat} {v : Value} {b off : Nat} (h : b ≠ g) : (w.setCell ⟨g, o, none⟩ v).cell? ⟨b, off, none⟩ = w.cell? ⟨b, off, none⟩ := by
  rw [World.cell?_setCell_other]; intro e; cases e; exact h rfl
def BoxS (b : Nat) (x y : Value) (w : World) : Prop := w.cell? ⟨b, 0, none⟩ = some x ∧ w.cell? ⟨b, 1, none⟩ = some y
theorem BoxS.set {b g o : Nat} {x y v : Value} {w : World} (h : BoxS b x y w) (hne : b ≠ g) : BoxS b x y (w.setCell ⟨g, o, none⟩ v) := ⟨by rw [cell_other hne]; exact h.1, by rw [cell_other hne]; exact h.2⟩
set_option maxRecDepth 100000 in
set_option maxHeartbeats 4000000 in
theorem Fuse_any (w : World) (g gb gc cb cc : Nat) (f : Fl) (hf : FlA w g gb gc cb cc f) (n keep : Int) (mask : UInt8) (hn : IntR n) (hk : IntR keep) :
    Calls Try.prog 16 #[.pointer (some ⟨g, 0, none⟩), .int .i64 n, .agg #[.int .i64 keep, .int .u8 (mask.toNat : Int)]] w (Turned 71 w g gb gc cb cc (f.fuse n keep mask) (.returned (.tuple #[]))) := by
  obtain ⟨n1, n2⟩ := hn
  obtain ⟨k1, k2⟩ := hk
  have hb : Below w.heap.size w (w.alloc (.cells #[.int .i64 keep, .int .u8 (mask.toNat : Int)] 40)) := (Below.refl _ _).alloc (Nat.le_refl _) _
  have hlt := hf.lt.1
  have hf1 := hf.below (hb.trans (Below.refl _ _).drew)
  have hK1 : Kept g gb gc w (w.alloc (.cells #[.int .i64 keep, .int .u8 (mask.toNat : Int)] 40)).drew := (Kept.ofBelow hb).drew
  have hS0 : BoxS w.heap.size (.int .i64 keep) (.int .u8 (mask.toNat : Int)) (w.alloc (.cells #[.int .i64 keep, .int .u8 (mask.toNat : Int)] 40)).drew := by
    constructor
    · rw [cell_of_row (w.alloc (.cells #[.int .i64 keep, .int .u8 (mask.toNat : Int)] 40)).drew w.heap.size 0 _ _ _ (heap_alloc_last w _)]; rfl
    · rw [cell_of_row (w.alloc (.cells #[.int .i64 keep, .int .u8 (mask.toNat : Int)] 40)).drew w.heap.size 1 _ _ _ (heap_alloc_last w _)]; rfl
  obtain ⟨mx, hmx, hmx2, hmx3, hmx4⟩ : ∃ mx : Int, (if n < -1 then -1 else n) = mx ∧ mx = max n (-1) ∧ -1 ≤ mx ∧ mx ≤ 9223372036854775807 := ⟨_, rfl, by split <;> omega, by split <;> omega, by split <;> omega⟩
  have hne : g ≠ w.heap.size := by omega
  have HF := Lib.hid hf1
  have HK := Lib.hid hK1
  have HM := Lib.hid hmx2
  have m6 := hf1.melt 6
  clear hf hf1 hK1 hmx2 hb
  go_enter Try.func16, Try.ntmps16
  go_upto_region 2 with fail
  generalize hW : (w.alloc (.cells #[.int .i64 keep, .int .u8 (mask.toNat : Int)] 40)) = W0 at HF HK hS0 m6 ⊢
  clear hW
  have hSw := hS0
  refine wp_region_lexS (BoxS w.heap.size (.int .i64 keep) (.int .u8 (mask.toNat : Int))) (.of [(0, true), (1, true), (2, true), (3, true), (4, true), (5, true), (6, true), (7, false), (8, true), (9, true), (10, false)] (.stir [])) (by kernel_rfl) (by kernel_rfl) (fun c a d v w h => by cases d <;> exact h) ?_
  have L := fun w' (h : BoxS w.heap.size (.int .i64 keep) (.int .u8 (mask.toNat : Int)) w') => h.1
  have L2 := fun w' (h : BoxS w.heap.size (.int .i64 keep) (.int .u8 (mask.toNat : Int)) w') => h.2
  generalize hW : W0.drew = W1 at HF HK hS0 hSw m6 ⊢
  clear hW
  obtain ⟨c0, c1, c2, c3, c4, c5, c6, c7, c8⟩ := HF.out.cells
  iterate 7
    refine lexS_step (fun K hK => ?_)
    simp only [lexOp, List.getElem?_toArray, List.getElem?_cons_succ, List.getElem?_cons_zero]
    rw [if_pos (by rfl)]
    apply Exists.intro
    refine ⟨fun w' hS' => ?_, hSw, ?_⟩
    · first | (go_simp <;> with_reducible rfl) | (go_simp; go_bits; with_reducible rfl)
    go_simp
    try go_bits
    refine hK _ _ ?_
    clear hK K
  refine lexS_step (fun K hK => ?_)
  simp only [lexOp, List.getElem?_toArray, List.getElem?_cons_succ, List.getElem?_cons_zero]
  rw [if_pos (by rfl)]
  go_step
  have HF2 := Lib.hid (HF.out.setLeft mx hmx3 hmx4)
  have HK2 := Lib.hid (HK.out.set (o := 6) (.inl rfl) (.int .i64 mx))
  have hS2 := hSw.set (o := 6) (v := .int .i64 mx) (Ne.symm hne)
  generalize hW : W1.setCell ⟨g, 6, none⟩ (.int .i64 mx) = W2 at HF2 HK2 hS2 ⊢
  clear hW hSw m6 c0 c1 c2 c3 c4 c5 c6 c7 c8 hS0 HF HK
  have hSw := hS2
  refine ⟨hSw, hK _ _ ?_⟩
  clear hK K hS2
  obtain ⟨c0, c1, c2, c3, c4, c5, c6, c7, c8⟩ := HF2.out.cells
  have m7 := HF2.out.melt 7
  have m8 := HF2.out.melt 8
  iterate 2
    refine lexS_step (fun K hK => ?_)
    simp only [lexOp, List.getElem?_toArray, List.getElem?_cons_succ, List.getElem?_cons_zero]
    rw [if_pos (by rfl)]
    apply Exists.intro
    refine ⟨fun w' hS' => ?_, hSw, ?_⟩
    · first | (go_simp <;> with_reducible rfl) | (go_simp; go_bits; with_reducible rfl)
    go_simp
    try go_bits
    refine hK _ _ ?_
    clear hK K
  refine lexS_step (fun K hK => ?_)
  simp only [lexOp, List.getElem?_toArray, List.getElem?_cons_succ, List.getElem?_cons_zero]
  rw [if_pos (by rfl)]
  go_step
  have HF3 := Lib.hid (HF2.out.setTear keep mask k1 k2)
  have HK3 := Lib.hid ((HK2.out.set (o := 7) (.inl rfl) (.int .i64 keep)).set (o := 8) (.inl rfl) (.int .u8 (mask.toNat : Int)))
  have hS3 := (hSw.set (o := 7) (v := .int .i64 keep) (Ne.symm hne)).set (o := 8) (v := .int .u8 (mask.toNat : Int)) (Ne.symm hne)
  generalize hW : (W2.setCell ⟨g, 7, none⟩ (.int .i64 keep)).setCell ⟨g, 8, none⟩ (.int .u8 (mask.toNat : Int)) = W3 at HF3 HK3 hS3 ⊢
  clear hW
  refine ⟨hS3, hK _ _ ?_⟩
  clear hK K
  refine lexS_stir (fun y => y = W3) (fun y hy => hy ▸ hS3) rfl ?_
  refine stir_nil (fun y hy => ?_)
  subst hy
  go_wp2_with fail
  go_end0
  refine ⟨rfl, ?_, HK3.out⟩
  have h := HF3.out
  rw [HM.out] at h
  exact h
theorem part_int (f : Fl) (n : Nat) : Int.tmod (max f.keep 0) ((n : Int) + 1) = ((f.part n : Nat) : Int) := by
  unfold Fl.part
  rw [Int.tmod_eq_emod_of_nonneg (by omega)]
  have : (max f.keep 0) = (((max f.keep 0).toNat : Nat) : Int) := by omega
  rw [Int.natCast_emod, ← this]
  rfl
set_option maxRecDepth 100000 in
set_option maxHeartbeats 4000000 in
theorem torn_any (w : World) (g gb gc cb cc : Nat) (f : Fl) (hf : FlA w g gb gc cb cc f) (n : Nat) (hn : n ≤ 4194304) :
    Calls Try.prog 34 #[.pointer (some ⟨g, 0, none⟩), .int .i64 n] w (Turned 71 w g gb gc cb cc f.tick (.returned (.tuple #[.int .i64 (if f.whole = true then (n : Int) else f.part n), .bool (!f.whole)]))) := by
  have l1 := hf.ok.f1
  have l2 := hf.ok.f2
  have k1 := hf.ok.k1
  have k2 := hf.ok.k2
  have hlt := hf.lt.1
  obtain ⟨c0, c1, c2, c3, c4, c5, c6, c7, c8⟩ := hf.cells
  have m5 := hf.melt 5
  have m6 := hf.melt 6
  have HF := Lib.hid hf
  unfold Fl.tick Fl.whole
  by_cases h0 : f.left = 0
  · have z1 : (f.left == 0) = true := eqi_yes h0
    have z2 : (f.left != 0) = false := by simp [h0]
    have hz := Lib.hid (hf.setDown true)
    have hk := Lib.hid ((Kept.refl g gb gc w).set (o := 5) (.inl rfl) (.bool true))
    rw [if_pos h0, z2]
    clear h0 hf
    obtain ⟨mx, hmx, hmx2, hmx0, hmx1⟩ : ∃ mx : Int, (if f.keep < 0 then 0 else f.keep) = mx ∧ mx = max f.keep 0 ∧ 0 ≤ mx ∧ mx ≤ 9223372036854775807 := ⟨_, rfl, by split <;> omega, by split <;> omega, by split <;> omega⟩
    obtain ⟨pp, hpp, hpp2⟩ : ∃ pp : Int, mx % ((n : Int) + 1) = pp ∧ pp = f.part n := ⟨_, rfl, by rw [hmx2, ← part_int, Int.tmod_eq_emod_of_nonneg (by omega)]⟩
    have HP := Lib.hid hpp2
    clear hmx2 hpp2
    go_enter Try.func34, Try.ntmps34
    go_wp2_with fail
    go_ret2
    exact ⟨by rw [HP.out]; rfl, hz.out, hk.out⟩
  · have z1 : (f.left == 0) = false := eqi_no h0
    have z2 : (f.left != 0) = true := by simp [h0]
    rw [if_neg h0, z2]
    by_cases h1 : 0 < f.left
    · have z3 : decide ((0 : Int) < f.left) = true := decide_eq_true h1
      have hz := Lib.hid (hf.setLeft (f.left - 1) (by omega) (by omega))
      have hk := Lib.hid ((Kept.refl g gb gc w).set (o := 6) (.inl rfl) (.int .i64 (f.left - 1)))
      rw [if_pos h1]
      clear hf h0
      go_enter Try.func34, Try.ntmps34
      go_wp2_with fail
      go_ret2
      exact ⟨rfl, hz.out, hk.out⟩
    · have z3 : decide ((0 : Int) < f.left) = false := decide_eq_false h1
      rw [if_neg h1]
      clear hf h0
      go_enter Try.func34, Try.ntmps34
      go_wp2_with fail
      go_ret2
      exact ⟨rfl, HF.out, Kept.refl _ _ _ _⟩
end Go.Proofs.Ytdnnodpchjnleaa
