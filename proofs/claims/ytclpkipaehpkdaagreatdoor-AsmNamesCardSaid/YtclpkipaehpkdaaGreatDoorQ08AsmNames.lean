/- asm: own texts, merged (wip/merge2.py). No condition. -/
import Derived.Test.YtclpkipaehpkdaaGreatDoorQ07AsmNames
import Derived.Test.YtclpkipaehpkdaaGreatDoorQ05AsmNames
set_option linter.unusedVariables false
set_option linter.unusedSimpArgs false
namespace Go.Proofs.YtclpkipaehpkdaaGreatDoor
open Go.ChangeShapes Go.WideShapes Go.ChangeAt Go.RowKit
def RBlk (w : World) (g : Nat) (p : Int) (k : Nat) (x y : Int) : Prop := w.heap[g]? = some (.cells #[.int .i64 p, .int .u8 (k : Nat), .int .i64 x, .int .i64 y] 118)
theorem RBlk.below {w w' : World} {g : Nat} {p : Int} {k : Nat} {x y : Int} (h : RBlk w g p k x y) (hb : Below w.heap.size w w') : RBlk w' g p k x y := by
  unfold RBlk
  rw [hb.block g (Array.getElem?_eq_some_iff.1 h).1]
  exact h
theorem RBlk.box {w : World} {g : Nat} {p : Int} {k : Nat} {x y : Int} (h : RBlk w g p k x y) : (w.cell? ⟨g, 0, none⟩ = some (.int .i64 p) ∧ w.cell? ⟨g, 1, none⟩ = some (.int .u8 (k : Nat)) ∧ w.cell? ⟨g, 2, none⟩ = some (.int .i64 x) ∧ w.cell? ⟨g, 3, none⟩ = some (.int .i64 y)) ∧
    (w.frozen? ⟨g, 2, none⟩ = false ∧ w.frozen? ⟨g, 3, none⟩ = false) ∧ g < w.heap.size := by
  refine ⟨⟨?_, ?_, ?_, ?_⟩, ⟨?_, ?_⟩, (Array.getElem?_eq_some_iff.1 h).1⟩
  · rw [cell_of_row w g 0 _ _ _ h]; rfl
  · rw [cell_of_row w g 1 _ _ _ h]; rfl
  · rw [cell_of_row w g 2 _ _ _ h]; rfl
  · rw [cell_of_row w g 3 _ _ _ h]; rfl
  all_goals (unfold World.frozen?; rw [h]; rfl)
theorem RBlk.set2 {w : World} {g : Nat} {p : Int} {k : Nat} {x y x' : Int} (h : RBlk w g p k x y) : RBlk (w.setCell ⟨g, 2, none⟩ (.int .i64 x')) g p k x' y := heap_setO h 2 _
theorem RBlk.set3 {w : World} {g : Nat} {p : Int} {k : Nat} {x y y' : Int} (h : RBlk w g p k x y) : RBlk (w.setCell ⟨g, 3, none⟩ (.int .i64 y')) g p k x y' := heap_setO h 3 _
theorem grown_set {w w' : World} {g o : Nat} {v : Value} (h : w.grownBy w' (some g)) : w.grownBy (w'.setCell ⟨g, o, none⟩ v) (some g) :=
  ⟨h.os, h.tape, h.output, by rw [size_setX]; exact h.size, fun k hk hne => by rw [heap_setX (fun e => hne (by rw [e]))]; exact h.block k hk hne⟩
theorem grown_below {w w' : World} {row : Option Nat} (h : Below w.heap.size w w') : w.grownBy w' row := ⟨h.os, h.tape, h.output, h.size, fun k hk _ => h.block k hk⟩
theorem grown_drew {w w' : World} {r : Option Nat} (h : w.grownBy w' r) : w.grownBy w'.drew r := ⟨h.os, h.tape, h.output, h.size, h.block⟩
def ReadS (y1 : World) (g p k : Nat) (w' : World) : Prop := (∃ x, RBlk w' g p k x 0) ∧ y1.grownBy w' (some g)
def ReadRet (bs : List UInt8) (p f g k : Nat) (w : World) (e : Ending) (w' : World) : Prop :=
  e = .returned (.int .i64 (if readBad bs p f = true then 8 else 0)) ∧ RBlk w' g p k (readA bs p f) (readB bs p f) ∧ w.grownBy w' (some g)
theorem getR_bound (bs : List UInt8) (i n : Int) : U64 (getR bs i n).1 := by
  unfold getR U64
  by_cases h1 : n < 1 ∨ 8 < n
  · rw [if_pos h1]; exact ⟨by decide, by decide⟩
  rw [if_neg h1]
  by_cases h2 : i < 0 ∨ (bs.length : Int) < i ∨ (bs.length : Int) - i < n
  · rw [if_pos h2]; exact ⟨by decide, by decide⟩
  rw [if_neg h2]
  have h3 := getN_lt ((bs.drop i.toNat).take n.toNat)
  have h4 : 256 ^ ((bs.drop i.toNat).take n.toNat).length ≤ 256 ^ 8 := Nat.pow_le_pow_right (by decide) (by simp; omega)
  simp only
  omega
theorem getR_small (bs : List UInt8) (i n : Int) (m : Nat) (hn : n ≤ m) (hm : m ≤ 8) : (getR bs i n).1 < ((256 ^ m : Nat) : Int) := by
  have hp : 0 < 256 ^ m := Nat.pow_pos (by decide)
  unfold getR
  by_cases h1 : n < 1 ∨ 8 < n
  · rw [if_pos h1]; exact Int.ofNat_lt.2 hp
  rw [if_neg h1]
  by_cases h2 : i < 0 ∨ (bs.length : Int) < i ∨ (bs.length : Int) - i < n
  · rw [if_pos h2]; exact Int.ofNat_lt.2 hp
  rw [if_neg h2]
  have h3 := getN_lt ((bs.drop i.toNat).take n.toNat)
  have h4 : 256 ^ ((bs.drop i.toNat).take n.toNat).length ≤ 256 ^ m := Nat.pow_le_pow_right (by decide) (by simp; omega)
  exact Int.ofNat_lt.2 (Nat.lt_of_lt_of_le h3 h4)
theorem signB_1 (v : Int) : -128 ≤ signB v 1 ∧ signB v 1 ≤ 127 := by rw [show signB v 1 = (v + 128) % 256 - 128 from rfl]; omega
theorem signB_2 (v : Int) : -32768 ≤ signB v 2 ∧ signB v 2 ≤ 32767 := by rw [show signB v 2 = (v + 32768) % 65536 - 32768 from rfl]; omega
set_option maxRecDepth 100000 in
set_option maxHeartbeats 4000000 in
theorem read_1 (w : World) (a : Option Addr) (n cap : Nat) (bs : List UInt8) (g p k : Nat) (hs : Sl encB w a n bs) (hn : n ≤ 1048576) (hcap : n ≤ cap) (hp : p ≤ 1048576) (hb : RBlk w g p k 0 0) :
    Calls Tryz.prog 100 #[.slice a n cap, .pointer (some ⟨g, 0, none⟩), .int .i64 1] w (ReadRet bs p 1 g k w) := by
  have HS := Lib.hid hs
  have HBK := Lib.hid hb
  have HV : Hid ((getR bs ((p : Int) + 1) 1).1 = tellV bs p 1) := Lib.hid rfl
  have HU := Lib.hid (getR_bound bs ((p : Int) + 1) 1)
  have hsm := getR_small bs ((p : Int) + 1) 1 1 (by decide) (by decide)
  have HC := Lib.hid (fun w' (h : Below w.heap.size w w') => Get_any w' a n cap bs ((p : Int) + 1) 1 (hs.below h) hn hcap (by unfold IntR; omega) (by unfold IntR; omega))
  rw [HV.out] at HC HU hsm
  generalize (getR bs ((p : Int) + 1) 1).2 = e2 at *
  have HRA : Hid (readA bs p 1 = 0) := Lib.hid (by unfold readA; simp)
  have HRB : Hid (readB bs p 1 = 0) := Lib.hid (by unfold readB; simp)
  obtain ⟨x, hx⟩ : ∃ x, x = readA bs p 1 := ⟨_, rfl⟩
  obtain ⟨y, hy⟩ : ∃ y, y = readB bs p 1 := ⟨_, rfl⟩
  have HX := Lib.hid hx
  have HY := Lib.hid hy
  rw [← hx] at HRA
  rw [← hy] at HRB
  clear hs hb hx hy HV
  generalize tellV bs p 1 = v at *
  rw [show ((256 ^ 1 : Nat) : Int) = 256 from rfl] at hsm
  have hv0 := HU.out.1
  go_enter Tryz.func100, Tryz.ntmps100
  go_wp2_with fail
  obtain ⟨⟨c0, c1, c2, c3⟩, _, hgl⟩ := HBK.out.box
  have d0 := fun w' (h : Below w.heap.size w w') => cellS_below h c0
  clear c0 c1 c2 c3
  refine wp_region_lexS (Below w.heap.size w) (.stir [(0, true), (1, true), (2, true), (3, true), (4, true), (5, true), (6, true), (7, false), (8, true), (9, true), (10, false), (11, true), (12, true), (13, true), (14, true), (15, true)]) (by kernel_rfl) (by kernel_rfl) (fun c a d v w h => by cases d <;> exact h) ?_
  refine lexS_stir (Below w.heap.size w) (fun _ h => h) (Below.refl _ _).drew ?_
  iterate 7
    refine stir_step (fun K hK => ?_)
    simp only [stirOp, List.getElem?_toArray, List.getElem?_cons_succ, List.getElem?_cons_zero]
    rw [if_pos (by rfl)]
    apply Exists.intro
    refine ⟨fun w' hS' => ?_, ?_⟩
    · first | (go_simp <;> with_reducible rfl) | (go_simp; go_bits; with_reducible rfl)
    go_simp
    try go_bits
    refine hK _ ?_
    clear hK K
  refine stir_step (fun K hK => ?_)
  simp only [stirOp, List.getElem?_toArray, List.getElem?_cons_succ, List.getElem?_cons_zero]
  rw [if_pos (by rfl)]
  apply Exists.intro
  refine ⟨fun w' hS' => ?_, ?_⟩
  · go_simp
    exact Stirs.call (Calls.mono ((size_any w' 1 (by decide))) fun e w'' h => ⟨h.1, (fun hb'' => hb'' ▸ hS') h.2⟩)
  go_simp
  refine hK _ ?_
  clear hK K
  rw [show sizeN 1 = 1 from rfl]
  iterate 2
    refine stir_step (fun K hK => ?_)
    simp only [stirOp, List.getElem?_toArray, List.getElem?_cons_succ, List.getElem?_cons_zero]
    rw [if_pos (by rfl)]
    apply Exists.intro
    refine ⟨fun w' hS' => ?_, ?_⟩
    · first | (go_simp <;> with_reducible rfl) | (go_simp; go_bits; with_reducible rfl)
    go_simp
    try go_bits
    refine hK _ ?_
    clear hK K
  refine stir_step (fun K hK => ?_)
  simp only [stirOp, List.getElem?_toArray, List.getElem?_cons_succ, List.getElem?_cons_zero]
  rw [if_pos (by rfl)]
  apply Exists.intro
  refine ⟨fun w' hS' => ?_, ?_⟩
  · go_simp
    exact Stirs.call (Calls.mono ((HC.out w' hS')) fun e w'' h => ⟨h.1, (fun hb'' => hb'' ▸ hS') h.2⟩)
  go_simp
  refine hK _ ?_
  clear hK K
  iterate 5
    refine stir_step (fun K hK => ?_)
    simp only [stirOp, List.getElem?_toArray, List.getElem?_cons_succ, List.getElem?_cons_zero]
    rw [if_pos (by rfl)]
    apply Exists.intro
    refine ⟨fun w' hS' => ?_, ?_⟩
    · first | (go_simp <;> with_reducible rfl) | (go_simp; go_bits; with_reducible rfl)
    go_simp
    try go_bits
    refine hK _ ?_
    clear hK K
  refine stir_nil (fun y1 hy => ?_)
  have HY1 := Lib.hid hy
  have HB1 := Lib.hid (HBK.out.below hy)
  clear d0 hy HC
  obtain ⟨⟨c0, c1, c2, c3⟩, ⟨f2, f3⟩, hg1⟩ := HB1.out.box
  go_wp2_with fail
  go_ret
  exact ⟨rfl, by rw [← HX.out, ← HY.out, HRA.out, HRB.out]; exact HB1.out, grown_below HY1.out⟩
set_option maxRecDepth 100000 in
set_option maxHeartbeats 4000000 in
theorem read_2 (w : World) (a : Option Addr) (n cap : Nat) (bs : List UInt8) (g p k : Nat) (hs : Sl encB w a n bs) (hn : n ≤ 1048576) (hcap : n ≤ cap) (hp : p ≤ 1048576) (hb : RBlk w g p k 0 0) :
    Calls Tryz.prog 100 #[.slice a n cap, .pointer (some ⟨g, 0, none⟩), .int .i64 2] w (ReadRet bs p 2 g k w) := by
  have HS := Lib.hid hs
  have HBK := Lib.hid hb
  have HV : Hid ((getR bs ((p : Int) + 1) 1).1 = tellV bs p 2) := Lib.hid rfl
  have HU := Lib.hid (getR_bound bs ((p : Int) + 1) 1)
  have hsm := getR_small bs ((p : Int) + 1) 1 1 (by decide) (by decide)
  have HC := Lib.hid (fun w' (h : Below w.heap.size w w') => Get_any w' a n cap bs ((p : Int) + 1) 1 (hs.below h) hn hcap (by unfold IntR; omega) (by unfold IntR; omega))
  rw [HV.out] at HC HU hsm
  generalize (getR bs ((p : Int) + 1) 1).2 = e2 at *
  have HRA : Hid (readA bs p 2 = tellV bs p 2) := Lib.hid (by unfold readA; simp)
  have HRB : Hid (readB bs p 2 = 0) := Lib.hid (by unfold readB; simp)
  obtain ⟨x, hx⟩ : ∃ x, x = readA bs p 2 := ⟨_, rfl⟩
  obtain ⟨y, hy⟩ : ∃ y, y = readB bs p 2 := ⟨_, rfl⟩
  have HX := Lib.hid hx
  have HY := Lib.hid hy
  rw [← hx] at HRA
  rw [← hy] at HRB
  clear hs hb hx hy HV
  generalize tellV bs p 2 = v at *
  rw [show ((256 ^ 1 : Nat) : Int) = 256 from rfl] at hsm
  have hv0 := HU.out.1
  go_enter Tryz.func100, Tryz.ntmps100
  go_wp2_with fail
  obtain ⟨⟨c0, c1, c2, c3⟩, _, hgl⟩ := HBK.out.box
  have d0 := fun w' (h : Below w.heap.size w w') => cellS_below h c0
  clear c0 c1 c2 c3
  refine wp_region_lexS (Below w.heap.size w) (.stir [(0, true), (1, true), (2, true), (3, true), (4, true), (5, true), (6, true), (7, false), (8, true), (9, true), (10, false), (11, true), (12, true), (13, true), (14, true), (15, true)]) (by kernel_rfl) (by kernel_rfl) (fun c a d v w h => by cases d <;> exact h) ?_
  refine lexS_stir (Below w.heap.size w) (fun _ h => h) (Below.refl _ _).drew ?_
  iterate 7
    refine stir_step (fun K hK => ?_)
    simp only [stirOp, List.getElem?_toArray, List.getElem?_cons_succ, List.getElem?_cons_zero]
    rw [if_pos (by rfl)]
    apply Exists.intro
    refine ⟨fun w' hS' => ?_, ?_⟩
    · first | (go_simp <;> with_reducible rfl) | (go_simp; go_bits; with_reducible rfl)
    go_simp
    try go_bits
    refine hK _ ?_
    clear hK K
  refine stir_step (fun K hK => ?_)
  simp only [stirOp, List.getElem?_toArray, List.getElem?_cons_succ, List.getElem?_cons_zero]
  rw [if_pos (by rfl)]
  apply Exists.intro
  refine ⟨fun w' hS' => ?_, ?_⟩
  · go_simp
    exact Stirs.call (Calls.mono ((size_any w' 2 (by decide))) fun e w'' h => ⟨h.1, (fun hb'' => hb'' ▸ hS') h.2⟩)
  go_simp
  refine hK _ ?_
  clear hK K
  rw [show sizeN 2 = 2 from rfl]
  iterate 2
    refine stir_step (fun K hK => ?_)
    simp only [stirOp, List.getElem?_toArray, List.getElem?_cons_succ, List.getElem?_cons_zero]
    rw [if_pos (by rfl)]
    apply Exists.intro
    refine ⟨fun w' hS' => ?_, ?_⟩
    · first | (go_simp <;> with_reducible rfl) | (go_simp; go_bits; with_reducible rfl)
    go_simp
    try go_bits
    refine hK _ ?_
    clear hK K
  refine stir_step (fun K hK => ?_)
  simp only [stirOp, List.getElem?_toArray, List.getElem?_cons_succ, List.getElem?_cons_zero]
  rw [if_pos (by rfl)]
  apply Exists.intro
  refine ⟨fun w' hS' => ?_, ?_⟩
  · go_simp
    exact Stirs.call (Calls.mono ((HC.out w' hS')) fun e w'' h => ⟨h.1, (fun hb'' => hb'' ▸ hS') h.2⟩)
  go_simp
  refine hK _ ?_
  clear hK K
  iterate 5
    refine stir_step (fun K hK => ?_)
    simp only [stirOp, List.getElem?_toArray, List.getElem?_cons_succ, List.getElem?_cons_zero]
    rw [if_pos (by rfl)]
    apply Exists.intro
    refine ⟨fun w' hS' => ?_, ?_⟩
    · first | (go_simp <;> with_reducible rfl) | (go_simp; go_bits; with_reducible rfl)
    go_simp
    try go_bits
    refine hK _ ?_
    clear hK K
  refine stir_nil (fun y1 hy => ?_)
  have HY1 := Lib.hid hy
  have HB1 := Lib.hid (HBK.out.below hy)
  clear d0 hy HC
  obtain ⟨⟨c0, c1, c2, c3⟩, ⟨f2, f3⟩, hg1⟩ := HB1.out.box
  go_wp2_with fail
  go_ret
  exact ⟨rfl, by rw [← HX.out, ← HY.out, HRA.out, HRB.out]; exact HB1.out.set2, grown_set (grown_below HY1.out)⟩
set_option maxRecDepth 100000 in
set_option maxHeartbeats 4000000 in
theorem read_3 (w : World) (a : Option Addr) (n cap : Nat) (bs : List UInt8) (g p k : Nat) (hs : Sl encB w a n bs) (hn : n ≤ 1048576) (hcap : n ≤ cap) (hp : p ≤ 1048576) (hb : RBlk w g p k 0 0) :
    Calls Tryz.prog 100 #[.slice a n cap, .pointer (some ⟨g, 0, none⟩), .int .i64 3] w (ReadRet bs p 3 g k w) := by
  have HS := Lib.hid hs
  have HBK := Lib.hid hb
  have HV : Hid ((getR bs ((p : Int) + 1) 1).1 = tellV bs p 3) := Lib.hid rfl
  have HU := Lib.hid (getR_bound bs ((p : Int) + 1) 1)
  have hsm := getR_small bs ((p : Int) + 1) 1 1 (by decide) (by decide)
  have HC := Lib.hid (fun w' (h : Below w.heap.size w w') => Get_any w' a n cap bs ((p : Int) + 1) 1 (hs.below h) hn hcap (by unfold IntR; omega) (by unfold IntR; omega))
  rw [HV.out] at HC HU hsm
  generalize (getR bs ((p : Int) + 1) 1).2 = e2 at *
  have HRA : Hid (readA bs p 3 = signB (tellV bs p 3) 1) := Lib.hid (by unfold readA; simp)
  have HRB : Hid (readB bs p 3 = 0) := Lib.hid (by unfold readB; simp)
  obtain ⟨x, hx⟩ : ∃ x, x = readA bs p 3 := ⟨_, rfl⟩
  obtain ⟨y, hy⟩ : ∃ y, y = readB bs p 3 := ⟨_, rfl⟩
  have HX := Lib.hid hx
  have HY := Lib.hid hy
  rw [← hx] at HRA
  rw [← hy] at HRB
  clear hs hb hx hy HV
  generalize tellV bs p 3 = v at *
  rw [show ((256 ^ 1 : Nat) : Int) = 256 from rfl] at hsm
  have hv0 := HU.out.1
  go_enter Tryz.func100, Tryz.ntmps100
  go_wp2_with fail
  obtain ⟨⟨c0, c1, c2, c3⟩, _, hgl⟩ := HBK.out.box
  have d0 := fun w' (h : Below w.heap.size w w') => cellS_below h c0
  clear c0 c1 c2 c3
  refine wp_region_lexS (Below w.heap.size w) (.stir [(0, true), (1, true), (2, true), (3, true), (4, true), (5, true), (6, true), (7, false), (8, true), (9, true), (10, false), (11, true), (12, true), (13, true), (14, true), (15, true)]) (by kernel_rfl) (by kernel_rfl) (fun c a d v w h => by cases d <;> exact h) ?_
  refine lexS_stir (Below w.heap.size w) (fun _ h => h) (Below.refl _ _).drew ?_
  iterate 7
    refine stir_step (fun K hK => ?_)
    simp only [stirOp, List.getElem?_toArray, List.getElem?_cons_succ, List.getElem?_cons_zero]
    rw [if_pos (by rfl)]
    apply Exists.intro
    refine ⟨fun w' hS' => ?_, ?_⟩
    · first | (go_simp <;> with_reducible rfl) | (go_simp; go_bits; with_reducible rfl)
    go_simp
    try go_bits
    refine hK _ ?_
    clear hK K
  refine stir_step (fun K hK => ?_)
  simp only [stirOp, List.getElem?_toArray, List.getElem?_cons_succ, List.getElem?_cons_zero]
  rw [if_pos (by rfl)]
  apply Exists.intro
  refine ⟨fun w' hS' => ?_, ?_⟩
  · go_simp
    exact Stirs.call (Calls.mono ((size_any w' 3 (by decide))) fun e w'' h => ⟨h.1, (fun hb'' => hb'' ▸ hS') h.2⟩)
  go_simp
  refine hK _ ?_
  clear hK K
  rw [show sizeN 3 = 2 from rfl]
  iterate 2
    refine stir_step (fun K hK => ?_)
    simp only [stirOp, List.getElem?_toArray, List.getElem?_cons_succ, List.getElem?_cons_zero]
    rw [if_pos (by rfl)]
    apply Exists.intro
    refine ⟨fun w' hS' => ?_, ?_⟩
    · first | (go_simp <;> with_reducible rfl) | (go_simp; go_bits; with_reducible rfl)
    go_simp
    try go_bits
    refine hK _ ?_
    clear hK K
  refine stir_step (fun K hK => ?_)
  simp only [stirOp, List.getElem?_toArray, List.getElem?_cons_succ, List.getElem?_cons_zero]
  rw [if_pos (by rfl)]
  apply Exists.intro
  refine ⟨fun w' hS' => ?_, ?_⟩
  · go_simp
    exact Stirs.call (Calls.mono ((HC.out w' hS')) fun e w'' h => ⟨h.1, (fun hb'' => hb'' ▸ hS') h.2⟩)
  go_simp
  refine hK _ ?_
  clear hK K
  iterate 5
    refine stir_step (fun K hK => ?_)
    simp only [stirOp, List.getElem?_toArray, List.getElem?_cons_succ, List.getElem?_cons_zero]
    rw [if_pos (by rfl)]
    apply Exists.intro
    refine ⟨fun w' hS' => ?_, ?_⟩
    · first | (go_simp <;> with_reducible rfl) | (go_simp; go_bits; with_reducible rfl)
    go_simp
    try go_bits
    refine hK _ ?_
    clear hK K
  refine stir_nil (fun y1 hy => ?_)
  have HY1 := Lib.hid hy
  have HB1 := Lib.hid (HBK.out.below hy)
  clear d0 hy HC
  obtain ⟨⟨c0, c1, c2, c3⟩, ⟨f2, f3⟩, hg1⟩ := HB1.out.box
  have HSG := Lib.hid (Sign_any y1 v 1 HU.out (by unfold IntR; omega))
  go_wp2_with fail
  refine HSG.out.mono ?_
  rintro e w' ⟨rfl, rfl⟩
  go_wp2_with fail
  go_ret
  exact ⟨rfl, by rw [← HX.out, ← HY.out, HRA.out, HRB.out]; exact HB1.out.set2, grown_set (grown_below HY1.out)⟩
set_option maxRecDepth 100000 in
set_option maxHeartbeats 4000000 in
theorem read_4 (w : World) (a : Option Addr) (n cap : Nat) (bs : List UInt8) (g p k : Nat) (hs : Sl encB w a n bs) (hn : n ≤ 1048576) (hcap : n ≤ cap) (hp : p ≤ 1048576) (hb : RBlk w g p k 0 0) :
    Calls Tryz.prog 100 #[.slice a n cap, .pointer (some ⟨g, 0, none⟩), .int .i64 4] w (ReadRet bs p 4 g k w) := by
  have HS := Lib.hid hs
  have HBK := Lib.hid hb
  have HV : Hid ((getR bs ((p : Int) + 1) 2).1 = tellV bs p 4) := Lib.hid rfl
  have HU := Lib.hid (getR_bound bs ((p : Int) + 1) 2)
  have hsm := getR_small bs ((p : Int) + 1) 2 2 (by decide) (by decide)
  have HC := Lib.hid (fun w' (h : Below w.heap.size w w') => Get_any w' a n cap bs ((p : Int) + 1) 2 (hs.below h) hn hcap (by unfold IntR; omega) (by unfold IntR; omega))
  rw [HV.out] at HC HU hsm
  generalize (getR bs ((p : Int) + 1) 2).2 = e2 at *
  have HRA : Hid (readA bs p 4 = signB (tellV bs p 4) 2) := Lib.hid (by unfold readA; simp)
  have HRB : Hid (readB bs p 4 = 0) := Lib.hid (by unfold readB; simp)
  obtain ⟨x, hx⟩ : ∃ x, x = readA bs p 4 := ⟨_, rfl⟩
  obtain ⟨y, hy⟩ : ∃ y, y = readB bs p 4 := ⟨_, rfl⟩
  have HX := Lib.hid hx
  have HY := Lib.hid hy
  rw [← hx] at HRA
  rw [← hy] at HRB
  clear hs hb hx hy HV
  generalize tellV bs p 4 = v at *
  rw [show ((256 ^ 2 : Nat) : Int) = 65536 from rfl] at hsm
  have hv0 := HU.out.1
  go_enter Tryz.func100, Tryz.ntmps100
  go_wp2_with fail
  obtain ⟨⟨c0, c1, c2, c3⟩, _, hgl⟩ := HBK.out.box
  have d0 := fun w' (h : Below w.heap.size w w') => cellS_below h c0
  clear c0 c1 c2 c3
  refine wp_region_lexS (Below w.heap.size w) (.stir [(0, true), (1, true), (2, true), (3, true), (4, true), (5, true), (6, true), (7, false), (8, true), (9, true), (10, false), (11, true), (12, true), (13, true), (14, true), (15, true)]) (by kernel_rfl) (by kernel_rfl) (fun c a d v w h => by cases d <;> exact h) ?_
  refine lexS_stir (Below w.heap.size w) (fun _ h => h) (Below.refl _ _).drew ?_
  iterate 7
    refine stir_step (fun K hK => ?_)
    simp only [stirOp, List.getElem?_toArray, List.getElem?_cons_succ, List.getElem?_cons_zero]
    rw [if_pos (by rfl)]
    apply Exists.intro
    refine ⟨fun w' hS' => ?_, ?_⟩
    · first | (go_simp <;> with_reducible rfl) | (go_simp; go_bits; with_reducible rfl)
    go_simp
    try go_bits
    refine hK _ ?_
    clear hK K
  refine stir_step (fun K hK => ?_)
  simp only [stirOp, List.getElem?_toArray, List.getElem?_cons_succ, List.getElem?_cons_zero]
  rw [if_pos (by rfl)]
  apply Exists.intro
  refine ⟨fun w' hS' => ?_, ?_⟩
  · go_simp
    exact Stirs.call (Calls.mono ((size_any w' 4 (by decide))) fun e w'' h => ⟨h.1, (fun hb'' => hb'' ▸ hS') h.2⟩)
  go_simp
  refine hK _ ?_
  clear hK K
  rw [show sizeN 4 = 3 from rfl]
  iterate 2
    refine stir_step (fun K hK => ?_)
    simp only [stirOp, List.getElem?_toArray, List.getElem?_cons_succ, List.getElem?_cons_zero]
    rw [if_pos (by rfl)]
    apply Exists.intro
    refine ⟨fun w' hS' => ?_, ?_⟩
    · first | (go_simp <;> with_reducible rfl) | (go_simp; go_bits; with_reducible rfl)
    go_simp
    try go_bits
    refine hK _ ?_
    clear hK K
  refine stir_step (fun K hK => ?_)
  simp only [stirOp, List.getElem?_toArray, List.getElem?_cons_succ, List.getElem?_cons_zero]
  rw [if_pos (by rfl)]
  apply Exists.intro
  refine ⟨fun w' hS' => ?_, ?_⟩
  · go_simp
    exact Stirs.call (Calls.mono ((HC.out w' hS')) fun e w'' h => ⟨h.1, (fun hb'' => hb'' ▸ hS') h.2⟩)
  go_simp
  refine hK _ ?_
  clear hK K
  iterate 5
    refine stir_step (fun K hK => ?_)
    simp only [stirOp, List.getElem?_toArray, List.getElem?_cons_succ, List.getElem?_cons_zero]
    rw [if_pos (by rfl)]
    apply Exists.intro
    refine ⟨fun w' hS' => ?_, ?_⟩
    · first | (go_simp <;> with_reducible rfl) | (go_simp; go_bits; with_reducible rfl)
    go_simp
    try go_bits
    refine hK _ ?_
    clear hK K
  refine stir_nil (fun y1 hy => ?_)
  have HY1 := Lib.hid hy
  have HB1 := Lib.hid (HBK.out.below hy)
  clear d0 hy HC
  obtain ⟨⟨c0, c1, c2, c3⟩, ⟨f2, f3⟩, hg1⟩ := HB1.out.box
  have HSG := Lib.hid (Sign_any y1 v 2 HU.out (by unfold IntR; omega))
  go_wp2_with fail
  refine HSG.out.mono ?_
  rintro e w' ⟨rfl, rfl⟩
  go_wp2_with fail
  go_ret
  exact ⟨rfl, by rw [← HX.out, ← HY.out, HRA.out, HRB.out]; exact HB1.out.set2, grown_set (grown_below HY1.out)⟩
set_option maxRecDepth 100000 in
set_option maxHeartbeats 4000000 in
theorem read_5 (w : World) (a : Option Addr) (n cap : Nat) (bs : List UInt8) (g p k : Nat) (hs : Sl encB w a n bs) (hn : n ≤ 1048576) (hcap : n ≤ cap) (hp : p ≤ 1048576) (hb : RBlk w g p k 0 0) :
    Calls Tryz.prog 100 #[.slice a n cap, .pointer (some ⟨g, 0, none⟩), .int .i64 5] w (ReadRet bs p 5 g k w) := by
  have HS := Lib.hid hs
  have HBK := Lib.hid hb
  have HV : Hid ((getR bs ((p : Int) + 1) 1).1 = tellV bs p 5) := Lib.hid rfl
  have HU := Lib.hid (getR_bound bs ((p : Int) + 1) 1)
  have hsm := getR_small bs ((p : Int) + 1) 1 1 (by decide) (by decide)
  have HC := Lib.hid (fun w' (h : Below w.heap.size w w') => Get_any w' a n cap bs ((p : Int) + 1) 1 (hs.below h) hn hcap (by unfold IntR; omega) (by unfold IntR; omega))
  rw [HV.out] at HC HU hsm
  generalize (getR bs ((p : Int) + 1) 1).2 = e2 at *
  have HRA : Hid (readA bs p 5 = tellV bs p 5) := Lib.hid (by unfold readA; simp)
  have HRB : Hid (readB bs p 5 = 0) := Lib.hid (by unfold readB; simp)
  obtain ⟨x, hx⟩ : ∃ x, x = readA bs p 5 := ⟨_, rfl⟩
  obtain ⟨y, hy⟩ : ∃ y, y = readB bs p 5 := ⟨_, rfl⟩
  have HX := Lib.hid hx
  have HY := Lib.hid hy
  rw [← hx] at HRA
  rw [← hy] at HRB
  clear hs hb hx hy HV
  generalize tellV bs p 5 = v at *
  rw [show ((256 ^ 1 : Nat) : Int) = 256 from rfl] at hsm
  have hv0 := HU.out.1
  go_enter Tryz.func100, Tryz.ntmps100
  go_wp2_with fail
  obtain ⟨⟨c0, c1, c2, c3⟩, _, hgl⟩ := HBK.out.box
  have d0 := fun w' (h : Below w.heap.size w w') => cellS_below h c0
  clear c0 c1 c2 c3
  refine wp_region_lexS (Below w.heap.size w) (.stir [(0, true), (1, true), (2, true), (3, true), (4, true), (5, true), (6, true), (7, false), (8, true), (9, true), (10, false), (11, true), (12, true), (13, true), (14, true), (15, true)]) (by kernel_rfl) (by kernel_rfl) (fun c a d v w h => by cases d <;> exact h) ?_
  refine lexS_stir (Below w.heap.size w) (fun _ h => h) (Below.refl _ _).drew ?_
  iterate 7
    refine stir_step (fun K hK => ?_)
    simp only [stirOp, List.getElem?_toArray, List.getElem?_cons_succ, List.getElem?_cons_zero]
    rw [if_pos (by rfl)]
    apply Exists.intro
    refine ⟨fun w' hS' => ?_, ?_⟩
    · first | (go_simp <;> with_reducible rfl) | (go_simp; go_bits; with_reducible rfl)
    go_simp
    try go_bits
    refine hK _ ?_
    clear hK K
  refine stir_step (fun K hK => ?_)
  simp only [stirOp, List.getElem?_toArray, List.getElem?_cons_succ, List.getElem?_cons_zero]
  rw [if_pos (by rfl)]
  apply Exists.intro
  refine ⟨fun w' hS' => ?_, ?_⟩
  · go_simp
    exact Stirs.call (Calls.mono ((size_any w' 5 (by decide))) fun e w'' h => ⟨h.1, (fun hb'' => hb'' ▸ hS') h.2⟩)
  go_simp
  refine hK _ ?_
  clear hK K
  rw [show sizeN 5 = 2 from rfl]
  iterate 2
    refine stir_step (fun K hK => ?_)
    simp only [stirOp, List.getElem?_toArray, List.getElem?_cons_succ, List.getElem?_cons_zero]
    rw [if_pos (by rfl)]
    apply Exists.intro
    refine ⟨fun w' hS' => ?_, ?_⟩
    · first | (go_simp <;> with_reducible rfl) | (go_simp; go_bits; with_reducible rfl)
    go_simp
    try go_bits
    refine hK _ ?_
    clear hK K
  refine stir_step (fun K hK => ?_)
  simp only [stirOp, List.getElem?_toArray, List.getElem?_cons_succ, List.getElem?_cons_zero]
  rw [if_pos (by rfl)]
  apply Exists.intro
  refine ⟨fun w' hS' => ?_, ?_⟩
  · go_simp
    exact Stirs.call (Calls.mono ((HC.out w' hS')) fun e w'' h => ⟨h.1, (fun hb'' => hb'' ▸ hS') h.2⟩)
  go_simp
  refine hK _ ?_
  clear hK K
  iterate 5
    refine stir_step (fun K hK => ?_)
    simp only [stirOp, List.getElem?_toArray, List.getElem?_cons_succ, List.getElem?_cons_zero]
    rw [if_pos (by rfl)]
    apply Exists.intro
    refine ⟨fun w' hS' => ?_, ?_⟩
    · first | (go_simp <;> with_reducible rfl) | (go_simp; go_bits; with_reducible rfl)
    go_simp
    try go_bits
    refine hK _ ?_
    clear hK K
  refine stir_nil (fun y1 hy => ?_)
  have HY1 := Lib.hid hy
  have HB1 := Lib.hid (HBK.out.below hy)
  clear d0 hy HC
  obtain ⟨⟨c0, c1, c2, c3⟩, ⟨f2, f3⟩, hg1⟩ := HB1.out.box
  go_wp2_with fail
  go_ret
  exact ⟨rfl, by rw [← HX.out, ← HY.out, HRA.out, HRB.out]; exact HB1.out.set2, grown_set (grown_below HY1.out)⟩
set_option maxRecDepth 100000 in
set_option maxHeartbeats 4000000 in
theorem read_6 (w : World) (a : Option Addr) (n cap : Nat) (bs : List UInt8) (g p k : Nat) (hs : Sl encB w a n bs) (hn : n ≤ 1048576) (hcap : n ≤ cap) (hp : p ≤ 1048576) (hb : RBlk w g p k 0 0) :
    Calls Tryz.prog 100 #[.slice a n cap, .pointer (some ⟨g, 0, none⟩), .int .i64 6] w (ReadRet bs p 6 g k w) := by
  have HS := Lib.hid hs
  have HBK := Lib.hid hb
  have HV : Hid ((getR bs ((p : Int) + 1) 2).1 = tellV bs p 6) := Lib.hid rfl
  have HU := Lib.hid (getR_bound bs ((p : Int) + 1) 2)
  have hsm := getR_small bs ((p : Int) + 1) 2 2 (by decide) (by decide)
  have HC := Lib.hid (fun w' (h : Below w.heap.size w w') => Get_any w' a n cap bs ((p : Int) + 1) 2 (hs.below h) hn hcap (by unfold IntR; omega) (by unfold IntR; omega))
  rw [HV.out] at HC HU hsm
  generalize (getR bs ((p : Int) + 1) 2).2 = e2 at *
  have HRA : Hid (readA bs p 6 = tellV bs p 6) := Lib.hid (by unfold readA; simp)
  have HRB : Hid (readB bs p 6 = 0) := Lib.hid (by unfold readB; simp)
  obtain ⟨x, hx⟩ : ∃ x, x = readA bs p 6 := ⟨_, rfl⟩
  obtain ⟨y, hy⟩ : ∃ y, y = readB bs p 6 := ⟨_, rfl⟩
  have HX := Lib.hid hx
  have HY := Lib.hid hy
  rw [← hx] at HRA
  rw [← hy] at HRB
  clear hs hb hx hy HV
  generalize tellV bs p 6 = v at *
  rw [show ((256 ^ 2 : Nat) : Int) = 65536 from rfl] at hsm
  have hv0 := HU.out.1
  go_enter Tryz.func100, Tryz.ntmps100
  go_wp2_with fail
  obtain ⟨⟨c0, c1, c2, c3⟩, _, hgl⟩ := HBK.out.box
  have d0 := fun w' (h : Below w.heap.size w w') => cellS_below h c0
  clear c0 c1 c2 c3
  refine wp_region_lexS (Below w.heap.size w) (.stir [(0, true), (1, true), (2, true), (3, true), (4, true), (5, true), (6, true), (7, false), (8, true), (9, true), (10, false), (11, true), (12, true), (13, true), (14, true), (15, true)]) (by kernel_rfl) (by kernel_rfl) (fun c a d v w h => by cases d <;> exact h) ?_
  refine lexS_stir (Below w.heap.size w) (fun _ h => h) (Below.refl _ _).drew ?_
  iterate 7
    refine stir_step (fun K hK => ?_)
    simp only [stirOp, List.getElem?_toArray, List.getElem?_cons_succ, List.getElem?_cons_zero]
    rw [if_pos (by rfl)]
    apply Exists.intro
    refine ⟨fun w' hS' => ?_, ?_⟩
    · first | (go_simp <;> with_reducible rfl) | (go_simp; go_bits; with_reducible rfl)
    go_simp
    try go_bits
    refine hK _ ?_
    clear hK K
  refine stir_step (fun K hK => ?_)
  simp only [stirOp, List.getElem?_toArray, List.getElem?_cons_succ, List.getElem?_cons_zero]
  rw [if_pos (by rfl)]
  apply Exists.intro
  refine ⟨fun w' hS' => ?_, ?_⟩
  · go_simp
    exact Stirs.call (Calls.mono ((size_any w' 6 (by decide))) fun e w'' h => ⟨h.1, (fun hb'' => hb'' ▸ hS') h.2⟩)
  go_simp
  refine hK _ ?_
  clear hK K
  rw [show sizeN 6 = 3 from rfl]
  iterate 2
    refine stir_step (fun K hK => ?_)
    simp only [stirOp, List.getElem?_toArray, List.getElem?_cons_succ, List.getElem?_cons_zero]
    rw [if_pos (by rfl)]
    apply Exists.intro
    refine ⟨fun w' hS' => ?_, ?_⟩
    · first | (go_simp <;> with_reducible rfl) | (go_simp; go_bits; with_reducible rfl)
    go_simp
    try go_bits
    refine hK _ ?_
    clear hK K
  refine stir_step (fun K hK => ?_)
  simp only [stirOp, List.getElem?_toArray, List.getElem?_cons_succ, List.getElem?_cons_zero]
  rw [if_pos (by rfl)]
  apply Exists.intro
  refine ⟨fun w' hS' => ?_, ?_⟩
  · go_simp
    exact Stirs.call (Calls.mono ((HC.out w' hS')) fun e w'' h => ⟨h.1, (fun hb'' => hb'' ▸ hS') h.2⟩)
  go_simp
  refine hK _ ?_
  clear hK K
  iterate 5
    refine stir_step (fun K hK => ?_)
    simp only [stirOp, List.getElem?_toArray, List.getElem?_cons_succ, List.getElem?_cons_zero]
    rw [if_pos (by rfl)]
    apply Exists.intro
    refine ⟨fun w' hS' => ?_, ?_⟩
    · first | (go_simp <;> with_reducible rfl) | (go_simp; go_bits; with_reducible rfl)
    go_simp
    try go_bits
    refine hK _ ?_
    clear hK K
  refine stir_nil (fun y1 hy => ?_)
  have HY1 := Lib.hid hy
  have HB1 := Lib.hid (HBK.out.below hy)
  clear d0 hy HC
  obtain ⟨⟨c0, c1, c2, c3⟩, ⟨f2, f3⟩, hg1⟩ := HB1.out.box
  go_wp2_with fail
  go_ret
  exact ⟨rfl, by rw [← HX.out, ← HY.out, HRA.out, HRB.out]; exact HB1.out.set2, grown_set (grown_below HY1.out)⟩
set_option maxRecDepth 100000 in
set_option maxHeartbeats 4000000 in
theorem read_7 (w : World) (a : Option Addr) (n cap : Nat) (bs : List UInt8) (g p k : Nat) (hs : Sl encB w a n bs) (hn : n ≤ 1048576) (hcap : n ≤ cap) (hp : p ≤ 1048576) (hb : RBlk w g p k 0 0) :
    Calls Tryz.prog 100 #[.slice a n cap, .pointer (some ⟨g, 0, none⟩), .int .i64 7] w (ReadRet bs p 7 g k w) := by
  have HS := Lib.hid hs
  have HBK := Lib.hid hb
  have HV : Hid ((getR bs ((p : Int) + 1) 2).1 = tellV bs p 7) := Lib.hid rfl
  have HU := Lib.hid (getR_bound bs ((p : Int) + 1) 2)
  have hsm := getR_small bs ((p : Int) + 1) 2 2 (by decide) (by decide)
  have HC := Lib.hid (fun w' (h : Below w.heap.size w w') => Get_any w' a n cap bs ((p : Int) + 1) 2 (hs.below h) hn hcap (by unfold IntR; omega) (by unfold IntR; omega))
  rw [HV.out] at HC HU hsm
  generalize (getR bs ((p : Int) + 1) 2).2 = e2 at *
  have HRA : Hid (readA bs p 7 = (p : Int) + signB (tellV bs p 7) 2) := Lib.hid (by unfold readA; simp)
  have HRB : Hid (readB bs p 7 = 0) := Lib.hid (by unfold readB; simp)
  obtain ⟨x, hx⟩ : ∃ x, x = readA bs p 7 := ⟨_, rfl⟩
  obtain ⟨y, hy⟩ : ∃ y, y = readB bs p 7 := ⟨_, rfl⟩
  have HX := Lib.hid hx
  have HY := Lib.hid hy
  rw [← hx] at HRA
  rw [← hy] at HRB
  clear hs hb hx hy HV
  generalize tellV bs p 7 = v at *
  rw [show ((256 ^ 2 : Nat) : Int) = 65536 from rfl] at hsm
  have hv0 := HU.out.1
  go_enter Tryz.func100, Tryz.ntmps100
  go_wp2_with fail
  obtain ⟨⟨c0, c1, c2, c3⟩, _, hgl⟩ := HBK.out.box
  have d0 := fun w' (h : Below w.heap.size w w') => cellS_below h c0
  clear c0 c1 c2 c3
  refine wp_region_lexS (Below w.heap.size w) (.stir [(0, true), (1, true), (2, true), (3, true), (4, true), (5, true), (6, true), (7, false), (8, true), (9, true), (10, false), (11, true), (12, true), (13, true), (14, true), (15, true)]) (by kernel_rfl) (by kernel_rfl) (fun c a d v w h => by cases d <;> exact h) ?_
  refine lexS_stir (Below w.heap.size w) (fun _ h => h) (Below.refl _ _).drew ?_
  iterate 7
    refine stir_step (fun K hK => ?_)
    simp only [stirOp, List.getElem?_toArray, List.getElem?_cons_succ, List.getElem?_cons_zero]
    rw [if_pos (by rfl)]
    apply Exists.intro
    refine ⟨fun w' hS' => ?_, ?_⟩
    · first | (go_simp <;> with_reducible rfl) | (go_simp; go_bits; with_reducible rfl)
    go_simp
    try go_bits
    refine hK _ ?_
    clear hK K
  refine stir_step (fun K hK => ?_)
  simp only [stirOp, List.getElem?_toArray, List.getElem?_cons_succ, List.getElem?_cons_zero]
  rw [if_pos (by rfl)]
  apply Exists.intro
  refine ⟨fun w' hS' => ?_, ?_⟩
  · go_simp
    exact Stirs.call (Calls.mono ((size_any w' 7 (by decide))) fun e w'' h => ⟨h.1, (fun hb'' => hb'' ▸ hS') h.2⟩)
  go_simp
  refine hK _ ?_
  clear hK K
  rw [show sizeN 7 = 3 from rfl]
  iterate 2
    refine stir_step (fun K hK => ?_)
    simp only [stirOp, List.getElem?_toArray, List.getElem?_cons_succ, List.getElem?_cons_zero]
    rw [if_pos (by rfl)]
    apply Exists.intro
    refine ⟨fun w' hS' => ?_, ?_⟩
    · first | (go_simp <;> with_reducible rfl) | (go_simp; go_bits; with_reducible rfl)
    go_simp
    try go_bits
    refine hK _ ?_
    clear hK K
  refine stir_step (fun K hK => ?_)
  simp only [stirOp, List.getElem?_toArray, List.getElem?_cons_succ, List.getElem?_cons_zero]
  rw [if_pos (by rfl)]
  apply Exists.intro
  refine ⟨fun w' hS' => ?_, ?_⟩
  · go_simp
    exact Stirs.call (Calls.mono ((HC.out w' hS')) fun e w'' h => ⟨h.1, (fun hb'' => hb'' ▸ hS') h.2⟩)
  go_simp
  refine hK _ ?_
  clear hK K
  iterate 5
    refine stir_step (fun K hK => ?_)
    simp only [stirOp, List.getElem?_toArray, List.getElem?_cons_succ, List.getElem?_cons_zero]
    rw [if_pos (by rfl)]
    apply Exists.intro
    refine ⟨fun w' hS' => ?_, ?_⟩
    · first | (go_simp <;> with_reducible rfl) | (go_simp; go_bits; with_reducible rfl)
    go_simp
    try go_bits
    refine hK _ ?_
    clear hK K
  refine stir_nil (fun y1 hy => ?_)
  have HY1 := Lib.hid hy
  have HB1 := Lib.hid (HBK.out.below hy)
  clear d0 hy HC
  obtain ⟨⟨c0, c1, c2, c3⟩, ⟨f2, f3⟩, hg1⟩ := HB1.out.box
  have HSG := Lib.hid (fun w' => Sign_any w' v 2 HU.out (by unfold IntR; omega))
  have hs2 := signB_2 v
  go_wp2_with fail
  have d0 := fun w' (h : ReadS y1 g p k w') => h.1.choose_spec.box.1.1
  have HBd := HB1.out.below (Below.refl y1.heap.size y1).drew
  have hSw : ReadS y1 g p k y1.drew := ⟨⟨0, HBd⟩, grown_below (Below.refl _ _).drew⟩
  clear c0 c1 c2 c3 f2 f3
  have HBD := Lib.hid HBd
  clear HBd
  refine wp_region_lexS (ReadS y1 g p k) (.of [(0, true), (1, true), (2, true), (3, true), (4, true), (5, true), (6, false), (7, true), (8, true), (9, true), (10, false)] (.stir [])) (by kernel_rfl) (by kernel_rfl) (fun c a d v w h => by cases d <;> exact h) ?_
  iterate 6
    refine lexS_step (fun K hK => ?_)
    simp only [lexOp, List.getElem?_toArray, List.getElem?_cons_succ, List.getElem?_cons_zero]
    rw [if_pos (by rfl)]
    apply Exists.intro
    refine ⟨fun w' hS' => ?_, hSw, ?_⟩
    · first | (go_simp <;> with_reducible rfl) | (go_simp; go_bits; with_reducible rfl)
    go_simp
    try go_bits
    refine hK _ _ ?_
    clear hK K
  refine lexS_step (fun K hK => ?_)
  simp only [lexOp, List.getElem?_toArray, List.getElem?_cons_succ, List.getElem?_cons_zero]
  rw [if_pos (by rfl)]
  go_step
  refine (HSG.out _).mono ?_
  rintro e w' ⟨rfl, rfl⟩
  go_simp
  refine hK _ _ ?_
  clear hK K
  iterate 3
    refine lexS_step (fun K hK => ?_)
    simp only [lexOp, List.getElem?_toArray, List.getElem?_cons_succ, List.getElem?_cons_zero]
    rw [if_pos (by rfl)]
    apply Exists.intro
    refine ⟨fun w' hS' => ?_, hSw, ?_⟩
    · first | (go_simp <;> with_reducible rfl) | (go_simp; go_bits; with_reducible rfl)
    go_simp
    try go_bits
    refine hK _ _ ?_
    clear hK K
  obtain ⟨⟨c0, c1, c2, c3⟩, ⟨f2, f3⟩, hg1⟩ := HBD.out.box
  refine lexS_step (fun K hK => ?_)
  simp only [lexOp, List.getElem?_toArray, List.getElem?_cons_succ, List.getElem?_cons_zero]
  rw [if_pos (by rfl)]
  go_step
  have HX2 : RBlk (y1.setCell ⟨g, 2, none⟩ (.int .i64 ((p : Int) + signB v 2))).drew g p k ((p : Int) + signB v 2) 0 := HB1.out.set2
  have HG2 : w.grownBy (y1.setCell ⟨g, 2, none⟩ (.int .i64 ((p : Int) + signB v 2))).drew (some g) := grown_drew (grown_set (grown_below HY1.out))
  refine ⟨⟨⟨_, HX2⟩, grown_drew (grown_set (grown_below (Below.refl _ _)))⟩, hK _ _ ?_⟩
  clear hK K
  have HXX := Lib.hid HX2
  have HGG := Lib.hid HG2
  clear HX2 HG2 c0 c1 c2 c3 f2 f3 d0 hSw
  refine lexS_stir (fun z => z = (y1.setCell ⟨g, 2, none⟩ (.int .i64 ((p : Int) + signB v 2))).drew) (fun z hz => by subst hz; exact ⟨⟨_, HXX.out⟩, grown_drew (grown_set (grown_below (Below.refl _ _)))⟩) rfl ?_
  refine stir_nil (fun y2 hy => ?_)
  subst hy
  go_wp2_with fail
  go_ret
  exact ⟨rfl, by rw [← HX.out, ← HY.out, HRA.out, HRB.out]; exact HXX.out, HGG.out⟩
set_option maxRecDepth 100000 in
set_option maxHeartbeats 4000000 in
theorem read_8 (w : World) (a : Option Addr) (n cap : Nat) (bs : List UInt8) (g p k : Nat) (hs : Sl encB w a n bs) (hn : n ≤ 1048576) (hcap : n ≤ cap) (hp : p ≤ 1048576) (hb : RBlk w g p k 0 0) :
    Calls Tryz.prog 100 #[.slice a n cap, .pointer (some ⟨g, 0, none⟩), .int .i64 8] w (ReadRet bs p 8 g k w) := by
  have HS := Lib.hid hs
  have HBK := Lib.hid hb
  have HV : Hid ((getR bs ((p : Int) + 1) 2).1 = tellV bs p 8) := Lib.hid rfl
  have HU := Lib.hid (getR_bound bs ((p : Int) + 1) 2)
  have hsm := getR_small bs ((p : Int) + 1) 2 2 (by decide) (by decide)
  have HC := Lib.hid (fun w' (h : Below w.heap.size w w') => Get_any w' a n cap bs ((p : Int) + 1) 2 (hs.below h) hn hcap (by unfold IntR; omega) (by unfold IntR; omega))
  rw [HV.out] at HC HU hsm
  generalize (getR bs ((p : Int) + 1) 2).2 = e2 at *
  have HRA : Hid (readA bs p 8 = tellV bs p 8 / 256) := Lib.hid (by unfold readA; simp)
  have HRB : Hid (readB bs p 8 = signB (tellV bs p 8) 1) := Lib.hid (by unfold readB; simp)
  obtain ⟨x, hx⟩ : ∃ x, x = readA bs p 8 := ⟨_, rfl⟩
  obtain ⟨y, hy⟩ : ∃ y, y = readB bs p 8 := ⟨_, rfl⟩
  have HX := Lib.hid hx
  have HY := Lib.hid hy
  rw [← hx] at HRA
  rw [← hy] at HRB
  clear hs hb hx hy HV
  generalize tellV bs p 8 = v at *
  rw [show ((256 ^ 2 : Nat) : Int) = 65536 from rfl] at hsm
  have hv0 := HU.out.1
  go_enter Tryz.func100, Tryz.ntmps100
  go_wp2_with fail
  obtain ⟨⟨c0, c1, c2, c3⟩, _, hgl⟩ := HBK.out.box
  have d0 := fun w' (h : Below w.heap.size w w') => cellS_below h c0
  clear c0 c1 c2 c3
  refine wp_region_lexS (Below w.heap.size w) (.stir [(0, true), (1, true), (2, true), (3, true), (4, true), (5, true), (6, true), (7, false), (8, true), (9, true), (10, false), (11, true), (12, true), (13, true), (14, true), (15, true)]) (by kernel_rfl) (by kernel_rfl) (fun c a d v w h => by cases d <;> exact h) ?_
  refine lexS_stir (Below w.heap.size w) (fun _ h => h) (Below.refl _ _).drew ?_
  iterate 7
    refine stir_step (fun K hK => ?_)
    simp only [stirOp, List.getElem?_toArray, List.getElem?_cons_succ, List.getElem?_cons_zero]
    rw [if_pos (by rfl)]
    apply Exists.intro
    refine ⟨fun w' hS' => ?_, ?_⟩
    · first | (go_simp <;> with_reducible rfl) | (go_simp; go_bits; with_reducible rfl)
    go_simp
    try go_bits
    refine hK _ ?_
    clear hK K
  refine stir_step (fun K hK => ?_)
  simp only [stirOp, List.getElem?_toArray, List.getElem?_cons_succ, List.getElem?_cons_zero]
  rw [if_pos (by rfl)]
  apply Exists.intro
  refine ⟨fun w' hS' => ?_, ?_⟩
  · go_simp
    exact Stirs.call (Calls.mono ((size_any w' 8 (by decide))) fun e w'' h => ⟨h.1, (fun hb'' => hb'' ▸ hS') h.2⟩)
  go_simp
  refine hK _ ?_
  clear hK K
  rw [show sizeN 8 = 3 from rfl]
  iterate 2
    refine stir_step (fun K hK => ?_)
    simp only [stirOp, List.getElem?_toArray, List.getElem?_cons_succ, List.getElem?_cons_zero]
    rw [if_pos (by rfl)]
    apply Exists.intro
    refine ⟨fun w' hS' => ?_, ?_⟩
    · first | (go_simp <;> with_reducible rfl) | (go_simp; go_bits; with_reducible rfl)
    go_simp
    try go_bits
    refine hK _ ?_
    clear hK K
  refine stir_step (fun K hK => ?_)
  simp only [stirOp, List.getElem?_toArray, List.getElem?_cons_succ, List.getElem?_cons_zero]
  rw [if_pos (by rfl)]
  apply Exists.intro
  refine ⟨fun w' hS' => ?_, ?_⟩
  · go_simp
    exact Stirs.call (Calls.mono ((HC.out w' hS')) fun e w'' h => ⟨h.1, (fun hb'' => hb'' ▸ hS') h.2⟩)
  go_simp
  refine hK _ ?_
  clear hK K
  iterate 5
    refine stir_step (fun K hK => ?_)
    simp only [stirOp, List.getElem?_toArray, List.getElem?_cons_succ, List.getElem?_cons_zero]
    rw [if_pos (by rfl)]
    apply Exists.intro
    refine ⟨fun w' hS' => ?_, ?_⟩
    · first | (go_simp <;> with_reducible rfl) | (go_simp; go_bits; with_reducible rfl)
    go_simp
    try go_bits
    refine hK _ ?_
    clear hK K
  refine stir_nil (fun y1 hy => ?_)
  have HY1 := Lib.hid hy
  have HB1 := Lib.hid (HBK.out.below hy)
  clear d0 hy HC
  obtain ⟨⟨c0, c1, c2, c3⟩, ⟨f2, f3⟩, hg1⟩ := HB1.out.box
  have HSG := Lib.hid (Sign_any y1 v 1 HU.out (by unfold IntR; omega))
  go_wp2_with fail
  refine HSG.out.mono ?_
  rintro e w' ⟨rfl, rfl⟩
  go_wp2_with fail
  go_ret
  exact ⟨rfl, by rw [← HX.out, ← HY.out, HRA.out, HRB.out]; exact HB1.out.set2.set3, grown_set (grown_set (grown_below HY1.out))⟩
set_option maxRecDepth 100000 in
set_option maxHeartbeats 4000000 in
theorem read_9 (w : World) (a : Option Addr) (n cap : Nat) (bs : List UInt8) (g p k : Nat) (hs : Sl encB w a n bs) (hn : n ≤ 1048576) (hcap : n ≤ cap) (hp : p ≤ 1048576) (hb : RBlk w g p k 0 0) :
    Calls Tryz.prog 100 #[.slice a n cap, .pointer (some ⟨g, 0, none⟩), .int .i64 9] w (ReadRet bs p 9 g k w) := by
  have HS := Lib.hid hs
  have HBK := Lib.hid hb
  have HV : Hid ((getR bs ((p : Int) + 1) 1).1 = tellV bs p 9) := Lib.hid rfl
  have HU := Lib.hid (getR_bound bs ((p : Int) + 1) 1)
  have hsm := getR_small bs ((p : Int) + 1) 1 1 (by decide) (by decide)
  have HC := Lib.hid (fun w' (h : Below w.heap.size w w') => Get_any w' a n cap bs ((p : Int) + 1) 1 (hs.below h) hn hcap (by unfold IntR; omega) (by unfold IntR; omega))
  rw [HV.out] at HC HU hsm
  generalize (getR bs ((p : Int) + 1) 1).2 = e2 at *
  have HRA : Hid (readA bs p 9 = tellV bs p 9) := Lib.hid (by unfold readA; simp)
  have HRB : Hid (readB bs p 9 = 0) := Lib.hid (by unfold readB; simp)
  obtain ⟨x, hx⟩ : ∃ x, x = readA bs p 9 := ⟨_, rfl⟩
  obtain ⟨y, hy⟩ : ∃ y, y = readB bs p 9 := ⟨_, rfl⟩
  have HX := Lib.hid hx
  have HY := Lib.hid hy
  rw [← hx] at HRA
  rw [← hy] at HRB
  clear hs hb hx hy HV
  generalize tellV bs p 9 = v at *
  rw [show ((256 ^ 1 : Nat) : Int) = 256 from rfl] at hsm
  have hv0 := HU.out.1
  go_enter Tryz.func100, Tryz.ntmps100
  go_wp2_with fail
  obtain ⟨⟨c0, c1, c2, c3⟩, _, hgl⟩ := HBK.out.box
  have d0 := fun w' (h : Below w.heap.size w w') => cellS_below h c0
  clear c0 c1 c2 c3
  refine wp_region_lexS (Below w.heap.size w) (.stir [(0, true), (1, true), (2, true), (3, true), (4, true), (5, true), (6, true), (7, false), (8, true), (9, true), (10, false), (11, true), (12, true), (13, true), (14, true), (15, true)]) (by kernel_rfl) (by kernel_rfl) (fun c a d v w h => by cases d <;> exact h) ?_
  refine lexS_stir (Below w.heap.size w) (fun _ h => h) (Below.refl _ _).drew ?_
  iterate 7
    refine stir_step (fun K hK => ?_)
    simp only [stirOp, List.getElem?_toArray, List.getElem?_cons_succ, List.getElem?_cons_zero]
    rw [if_pos (by rfl)]
    apply Exists.intro
    refine ⟨fun w' hS' => ?_, ?_⟩
    · first | (go_simp <;> with_reducible rfl) | (go_simp; go_bits; with_reducible rfl)
    go_simp
    try go_bits
    refine hK _ ?_
    clear hK K
  refine stir_step (fun K hK => ?_)
  simp only [stirOp, List.getElem?_toArray, List.getElem?_cons_succ, List.getElem?_cons_zero]
  rw [if_pos (by rfl)]
  apply Exists.intro
  refine ⟨fun w' hS' => ?_, ?_⟩
  · go_simp
    exact Stirs.call (Calls.mono ((size_any w' 9 (by decide))) fun e w'' h => ⟨h.1, (fun hb'' => hb'' ▸ hS') h.2⟩)
  go_simp
  refine hK _ ?_
  clear hK K
  rw [show sizeN 9 = 2 from rfl]
  iterate 2
    refine stir_step (fun K hK => ?_)
    simp only [stirOp, List.getElem?_toArray, List.getElem?_cons_succ, List.getElem?_cons_zero]
    rw [if_pos (by rfl)]
    apply Exists.intro
    refine ⟨fun w' hS' => ?_, ?_⟩
    · first | (go_simp <;> with_reducible rfl) | (go_simp; go_bits; with_reducible rfl)
    go_simp
    try go_bits
    refine hK _ ?_
    clear hK K
  refine stir_step (fun K hK => ?_)
  simp only [stirOp, List.getElem?_toArray, List.getElem?_cons_succ, List.getElem?_cons_zero]
  rw [if_pos (by rfl)]
  apply Exists.intro
  refine ⟨fun w' hS' => ?_, ?_⟩
  · go_simp
    exact Stirs.call (Calls.mono ((HC.out w' hS')) fun e w'' h => ⟨h.1, (fun hb'' => hb'' ▸ hS') h.2⟩)
  go_simp
  refine hK _ ?_
  clear hK K
  iterate 5
    refine stir_step (fun K hK => ?_)
    simp only [stirOp, List.getElem?_toArray, List.getElem?_cons_succ, List.getElem?_cons_zero]
    rw [if_pos (by rfl)]
    apply Exists.intro
    refine ⟨fun w' hS' => ?_, ?_⟩
    · first | (go_simp <;> with_reducible rfl) | (go_simp; go_bits; with_reducible rfl)
    go_simp
    try go_bits
    refine hK _ ?_
    clear hK K
  refine stir_nil (fun y1 hy => ?_)
  have HY1 := Lib.hid hy
  have HB1 := Lib.hid (HBK.out.below hy)
  clear d0 hy HC
  obtain ⟨⟨c0, c1, c2, c3⟩, ⟨f2, f3⟩, hg1⟩ := HB1.out.box
  have HBD : Hid (readBad bs p 9 = (!(readA bs p 9 == 8) && !(readA bs p 9 == 10))) := Lib.hid rfl
  rw [← HX.out, HRA.out] at HBD
  have HFIN := Lib.hid (show ∀ r : Int, r = (if readBad bs p 9 = true then 8 else 0) → ReadRet bs p 9 g k w (.returned (.int .i64 r)) (y1.setCell ⟨g, 2, none⟩ (.int .i64 v)) from fun r hr =>
    ⟨by rw [hr], by rw [← HX.out, ← HY.out, HRA.out, HRB.out]; exact HB1.out.set2, grown_set (grown_below HY1.out)⟩)
  by_cases h8 : v = 8
  · have e8 : (v != 8) = false := by simp [h8]
    have HR := Lib.hid (show readBad bs p 9 = false by rw [HBD.out]; simp [h8])
    rw [HR.out] at HFIN
    clear h8 HBD
    go_wp2_with fail
    go_ret
    exact HFIN.out 0 rfl
  · have e8 : (v != 8) = true := by simp [h8]
    by_cases h10 : v = 10
    · have e10 : (v != 10) = false := by simp [h10]
      have HR := Lib.hid (show readBad bs p 9 = false by rw [HBD.out]; simp [h10])
      rw [HR.out] at HFIN
      clear h8 h10 HBD
      go_wp2_with fail
      go_ret
      exact HFIN.out 0 rfl
    · have e10 : (v != 10) = true := by simp [h10]
      have HR := Lib.hid (show readBad bs p 9 = true by rw [HBD.out]; simp [h8, h10])
      rw [HR.out] at HFIN
      clear h8 h10 HBD
      go_wp2_with fail
      go_ret
      exact HFIN.out 8 rfl
theorem read_any (w : World) (a : Option Addr) (n cap : Nat) (bs : List UInt8) (g p k f : Nat) (hs : Sl encB w a n bs) (hn : n ≤ 1048576) (hcap : n ≤ cap) (hp : p ≤ 1048576) (hb : RBlk w g p k 0 0) (h1 : f ≠ 0) (h9 : f ≤ 9) :
    Calls Tryz.prog 100 #[.slice a n cap, .pointer (some ⟨g, 0, none⟩), .int .i64 (f : Nat)] w (ReadRet bs p f g k w) := by
  have h : f = 1 ∨ f = 2 ∨ f = 3 ∨ f = 4 ∨ f = 5 ∨ f = 6 ∨ f = 7 ∨ f = 8 ∨ f = 9 := by omega
  rcases h with rfl | rfl | rfl | rfl | rfl | rfl | rfl | rfl | rfl
  · exact read_1 w a n cap bs g p k hs hn hcap hp hb
  · exact read_2 w a n cap bs g p k hs hn hcap hp hb
  · exact read_3 w a n cap bs g p k hs hn hcap hp hb
  · exact read_4 w a n cap bs g p k hs hn hcap hp hb
  · exact read_5 w a n cap bs g p k hs hn hcap hp hb
  · exact read_6 w a n cap bs g p k hs hn hcap hp hb
  · exact read_7 w a n cap bs g p k hs hn hcap hp hb
  · exact read_8 w a n cap bs g p k hs hn hcap hp hb
  · exact read_9 w a n cap bs g p k hs hn hcap hp hb
end Go.Proofs.YtclpkipaehpkdaaGreatDoor

