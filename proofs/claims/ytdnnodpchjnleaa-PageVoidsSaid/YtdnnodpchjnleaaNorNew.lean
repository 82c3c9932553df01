/- nor: New. No condition. -/
import Derived.Test.YtdnnodpchjnleaaNorRep
namespace Go.Proofs.Ytdnnodpchjnleaa
open Go.ChangeShapes Go.WideShapes Go.ChangeAt Go.RowKit
def newOk (S Z L : Int) : Prop := (1 ≤ S ∧ S ≤ 64) ∧ (64 ≤ Z ∧ Z ≤ 65536) ∧ (1 ≤ L ∧ L ≤ 1048576)
instance (S Z L : Int) : Decidable (newOk S Z L) := by unfold newOk; infer_instance
/-- A new flash, somewhere from B on. -/
def NewAt (tF : TypeId) (B : Nat) (S Z L : Nat) (g : Nat) (w' : World) : Prop :=
  ∃ gb gc cb cc, IsFl tF 5 3 w' g gb gc cb cc (Fl.mk0 S Z L) ∧ B ≤ g ∧ B ≤ gb ∧ B ≤ gc
/-- The parts of a flash, before its struct is laid. -/
structure PartsAt (W : World) (gb gc cb cc S Z L : Nat) : Prop where
  hb : ∃ cur : Array Value, W.heap[gb]? = some (.cells cur 5) ∧ S * Z ≤ cb ∧ cb ≤ maxLen ∧ cb ≤ cur.size ∧ cur.toList.take (S * Z) = (List.replicate (S * Z) (255 : UInt8)).map encB
  hc : ∃ cur : Array Value, W.heap[gc]? = some (.cells cur 3) ∧ S ≤ cc ∧ cc ≤ maxLen ∧ cc ≤ cur.size ∧ cur.toList.take S = (List.replicate S 0).map encI
  ne : gb ≠ gc
  ok : newOk S Z L
theorem PartsAt.flash {W : World} {gb gc cb cc S Z L : Nat} (tF : TypeId) (h : PartsAt W gb gc cb cc S Z L) :
    IsFl tF 5 3 (W.alloc (.cells (flCells (Fl.mk0 S Z L) gb gc cb cc) tF)) W.heap.size gb gc cb cc (Fl.mk0 S Z L) := by
  obtain ⟨c1, hg1, a1, a2, a3, a4⟩ := h.hb
  obtain ⟨c2, hg2, b1, b2, b3, b4⟩ := h.hc
  have l1 := (Array.getElem?_eq_some_iff.1 hg1).1
  have l2 := (Array.getElem?_eq_some_iff.1 hg2).1
  obtain ⟨o1, o2, o3⟩ := h.ok
  refine ⟨heap_alloc_last W _, ⟨c1, by rw [Below.heap_alloc W _ gb l1]; exact hg1, a1, a2, a3, a4, by simp [Fl.mk0]⟩, ⟨c2, by rw [Below.heap_alloc W _ gc l2]; exact hg2, b1, b2, b3, b4, by simp [Fl.mk0]⟩, by omega, by omega, h.ne, Fl.mk0_ok (by omega) (by omega) (by omega) (by omega) (by omega) (by omega)⟩
def newCells (S Z L n gb gc cb cc : Nat) : Array Value :=
  #[.int .i64 S, .int .i64 Z, .int .i64 L, .slice (some ⟨gb, 0, none⟩) n cb, .slice (some ⟨gc, 0, none⟩) S cc, .bool false, .int .i64 (-1), .int .i64 0, .int .u8 0]
def NewRet (tF : TypeId) (w : World) (S Z L : Nat) (e : Ending) (w' : World) : Prop := ∃ g, e = .returned (.tuple #[.pointer (some ⟨g, 0, none⟩), .int .i64 0]) ∧ NewAt tF w.heap.size S Z L g w' ∧ Below w.heap.size w w'
theorem info_i64 : (Try.prog.info? 3).map (fun i => (i.zero, i.size, i.bytes)) = some (some (.int .i64 0), 1, 8) := by kernel_rfl
theorem make_rep (v : Value) (n : Nat) : madeCells #[v] n = Array.replicate n v := by
  apply Array.ext
  · simp [madeCells]
  · intro i h1 h2
    simp [madeCells, Nat.mod_one]
theorem make_ints (w : World) (n : Nat) (h : n ≤ 1048576) : (Instr.makeSlice 69 (.int .i64 n) (.int .i64 n)).run Try.prog w = .ok (.slice (some ⟨w.heap.size, 0, none⟩) n n) (w.alloc (.cells (Array.replicate n (encI 0)) 3)) := by
  obtain ⟨i, hi, hz0, hz1, hz2⟩ := info_parts info_i64
  have hr := run_makeSlice (P := Try.prog) (w := w) 69 3 i (.int .i64 0) Try.underlying69 hi hz0 .i64 .i64 n n (by omega) (Int.le_refl _) (by rw [hz1]; omega) (by rw [hz2]; omega) (by omega)
  rw [hz1] at hr
  simp only [Int.toNat_natCast, Nat.mul_one] at hr
  rw [show (Value.int IntKind.i64 0).cells = #[.int .i64 0] from rfl, make_rep] at hr
  exact hr
theorem make_bytes (w : World) (n : Nat) (h : n ≤ 4194304) : (Instr.makeSlice 23 (.int .i64 n) (.int .i64 n)).run Try.prog w = .ok (.slice (some ⟨w.heap.size, 0, none⟩) n n) (w.alloc (.cells (Array.replicate n (encB 0)) 5)) := by
  obtain ⟨i, hi, hz0, hz1, hz2⟩ := info_parts info_u8
  have hr := run_makeSlice (P := Try.prog) (w := w) 23 5 i (.int .u8 0) Try.underlying23 hi hz0 .i64 .i64 n n (by omega) (Int.le_refl _) (by rw [hz1]; omega) (by rw [hz2]; omega) (by omega)
  rw [hz1] at hr
  simp only [Int.toNat_natCast, Nat.mul_one] at hr
  rw [show (Value.int IntKind.u8 0).cells = #[.int .u8 0] from rfl, make_rep] at hr
  exact hr
theorem partsA {W W' : World} {n sz S Z L : Nat} (hn : S * Z = n) (hok : newOk S Z L) (h1 : n ≤ sz) (h2 : sz ≤ maxLen) (hr : RepW W n n sz 255 W') :
    PartsAt (W'.alloc (.cells (Array.replicate S (encI 0)) 3)) W.heap.size W'.heap.size n S S Z L := by
  obtain ⟨cur, hg, hl, ht, hb⟩ := hr
  have hlt := (Array.getElem?_eq_some_iff.1 hg).1
  have := hok.1
  refine ⟨⟨cur.toArray, by rw [Below.heap_alloc W' _ _ hlt]; exact hg, by omega, by omega, by simp; omega, by rw [hn]; simpa using ht⟩, ⟨_, heap_alloc_last W' _, Nat.le_refl _, by unfold maxLen; omega, by simp, by simp⟩, by omega, hok⟩
theorem partsB {W W' : World} {n sz S Z L gc : Nat} (hn : S * Z = n) (hok : newOk S Z L) (h1 : n ≤ sz) (h2 : sz ≤ maxLen) (hg : W.heap[gc]? = some (.cells (Array.replicate S (encI 0)) 3)) (hr : RepW W n n sz 255 W') :
    PartsAt W' W.heap.size gc n S S Z L := by
  obtain ⟨cur, hg2, hl, ht, hb⟩ := hr
  have hlt := (Array.getElem?_eq_some_iff.1 hg).1
  have := hok.1
  refine ⟨⟨cur.toArray, hg2, by omega, by omega, by simp; omega, by rw [hn]; simpa using ht⟩, ⟨_, by rw [hb.block _ hlt]; exact hg, Nat.le_refl _, by unfold maxLen; omega, by simp, by simp⟩, by omega, hok⟩
theorem PartsAt.new {tF : TypeId} {w W0 W : World} {gb gc cb cc S Z L : Nat} (h : PartsAt W gb gc cb cc S Z L) (h0 : Below w.heap.size w W0) (hb : Below W0.heap.size W0 W) (h1 : W0.heap.size ≤ gb) (h2 : W0.heap.size ≤ gc) {n : Nat} (hn : S * Z = n) :
    NewRet tF w S Z L (.returned (.tuple #[.pointer (some ⟨W.heap.size, 0, none⟩), .int .i64 0])) (W.alloc (.cells (newCells S Z L n gb gc cb cc) tF)) := by
  subst hn
  have a := h0.size
  have b := hb.size
  exact ⟨_, rfl, ⟨gb, gc, cb, cc, h.flash tF, by omega, by omega, by omega⟩, (h0.trans (hb.mono h0.size)).alloc (by omega) _⟩
set_option maxRecDepth 100000 in
set_option maxHeartbeats 4000000 in
theorem New_no (w : World) (S Z L : Int) (h : ¬ newOk S Z L) : Calls Try.prog 32 #[.agg #[.int .i64 S, .int .i64 Z, .int .i64 L]] w fun e w' => e = .returned (.tuple #[.pointer none, .int .i64 1]) ∧ Below w.heap.size w w' := by
  unfold newOk at h
  have H := Lib.hid ((Below.refl w.heap.size w).alloc (Nat.le_refl _) (.cells #[.int .i64 S, .int .i64 Z, .int .i64 L] 43))
  have W1 := fun w' => within_any w' S 1 64
  have W2 := fun w' => within_any w' Z 64 65536
  have W3 := fun w' => within_any w' L 1 1048576
  by_cases h1 : 1 ≤ S ∧ S ≤ 64
  · rw [decide_eq_true h1] at W1
    by_cases h2 : 64 ≤ Z ∧ Z ≤ 65536
    · have h3 : ¬ (1 ≤ L ∧ L ≤ 1048576) := fun a => h ⟨h1, h2, a⟩
      rw [decide_eq_true h2] at W2
      rw [decide_eq_false h3] at W3
      have W1 := Lib.hid W1
      have W2 := Lib.hid W2
      have W3 := Lib.hid W3
      clear h h1 h2 h3
      go_enter Try.func32, Try.ntmps32
      go_wp2_with fail
      with_reducible refine (W1.out _).mono ?_
      rintro e w1 ⟨rfl, rfl⟩
      go_wp2_with fail
      with_reducible refine (W2.out _).mono ?_
      rintro e w1 ⟨rfl, rfl⟩
      go_wp2_with fail
      with_reducible refine (W3.out _).mono ?_
      rintro e w1 ⟨rfl, rfl⟩
      go_wp2_with fail
      go_ret2
      exact ⟨rfl, H.out⟩
    · rw [decide_eq_false h2] at W2
      have W1 := Lib.hid W1
      have W2 := Lib.hid W2
      clear h h1 h2 W3
      go_enter Try.func32, Try.ntmps32
      go_wp2_with fail
      with_reducible refine (W1.out _).mono ?_
      rintro e w1 ⟨rfl, rfl⟩
      go_wp2_with fail
      with_reducible refine (W2.out _).mono ?_
      rintro e w1 ⟨rfl, rfl⟩
      go_wp2_with fail
      go_ret2
      exact ⟨rfl, H.out⟩
  · rw [decide_eq_false h1] at W1
    have W1 := Lib.hid W1
    clear h h1 W2 W3
    go_enter Try.func32, Try.ntmps32
    go_wp2_with fail
    with_reducible refine (W1.out _).mono ?_
    rintro e w1 ⟨rfl, rfl⟩
    go_wp2_with fail
    go_ret2
    exact ⟨rfl, H.out⟩
set_option maxRecDepth 100000 in
set_option maxHeartbeats 4000000 in
theorem New_yes (w : World) (S Z L : Nat) (h : newOk S Z L) : Calls Try.prog 32 #[.agg #[.int .i64 S, .int .i64 Z, .int .i64 L]] w (NewRet 71 w S Z L) := by
  have h0 := h
  obtain ⟨h1, h2, h3⟩ := h0
  have HOK := Lib.hid h
  have W1 := fun w' => within_any w' S 1 64
  have W2 := fun w' => within_any w' Z 64 65536
  have W3 := fun w' => within_any w' L 1 1048576
  rw [decide_eq_true h1] at W1
  rw [decide_eq_true h2] at W2
  rw [decide_eq_true h3] at W3
  replace W1 := Lib.hid W1
  replace W2 := Lib.hid W2
  replace W3 := Lib.hid W3
  obtain ⟨n, hn⟩ : ∃ n : Nat, S * Z = n := ⟨_, rfl⟩
  have hn1 : 1 ≤ n ∧ n ≤ 4194304 := by
    rw [← hn]
    have a : 1 * 64 ≤ S * Z := Nat.mul_le_mul (by omega) (by omega)
    have b : S * Z ≤ 64 * 65536 := Nat.mul_le_mul (by omega) (by omega)
    omega
  have hni : (S : Int) * (Z : Int) = n := by rw [← hn]; simp
  have hnw : IntKind.i64.wrap (n : Int) = n := IntWalk.i64_in _ (by omega)
  have HN := Lib.hid hn
  clear h hn
  have HB0 : Hid (Below w.heap.size w (w.alloc (.cells #[.int .i64 S, .int .i64 Z, .int .i64 L] 43)).drew) := ((Below.refl _ _).alloc (Nat.le_refl _) _).drew
  have hg0 : ∀ i, (w.alloc (.cells #[.int .i64 S, .int .i64 Z, .int .i64 L] 43)).drew.cell? ⟨w.heap.size, i, none⟩ = (#[.int .i64 S, .int .i64 Z, .int .i64 L] : Array Value)[i]? := fun i => by
    rw [cell_of_row (w.alloc (.cells #[.int .i64 S, .int .i64 Z, .int .i64 L] 43)).drew w.heap.size i _ _ _ (heap_alloc_last w _)]
  have hlt : w.heap.size < (w.alloc (.cells #[.int .i64 S, .int .i64 Z, .int .i64 L] 43)).drew.heap.size := by show w.heap.size < (w.alloc _).heap.size; simp
  go_enter Try.func32, Try.ntmps32
  go_wp2_with fail
  with_reducible refine (W1.out _).mono ?_
  rintro e w1 ⟨rfl, rfl⟩
  go_wp2_with fail
  with_reducible refine (W2.out _).mono ?_
  rintro e w1 ⟨rfl, rfl⟩
  go_wp2_with fail
  with_reducible refine (W3.out _).mono ?_
  rintro e w1 ⟨rfl, rfl⟩
  go_upto_region 3 with fail
  refine wp_region_lexS (Below (w.alloc (.cells #[.int .i64 S, .int .i64 Z, .int .i64 L] 43)).drew.heap.size (w.alloc (.cells #[.int .i64 S, .int .i64 Z, .int .i64 L] 43)).drew)
    (.of [(0, true), (2, true), (3, true), (4, true), (5, true), (6, true), (8, true), (9, true)]
      (.fork 1 (.fork 7 (.of [(10, false), (11, true), (12, false)] (.stir [(13, true), (14, true)])) 10 (.of [(7, false), (11, true), (12, false)] (.stir [(13, true), (14, true)])))
        10 (.of [(1, false), (7, false), (11, true), (12, false)] (.stir [(13, true), (14, true)])))) (by kernel_rfl) (by kernel_rfl) (fun c a d v w h => by cases d <;> exact h) ?_
  generalize (w.alloc (.cells #[.int .i64 S, .int .i64 Z, .int .i64 L] 43)).drew = W0 at HB0 hg0 hlt ⊢
  have hSw : Below W0.heap.size W0 W0 := Below.refl _ _
  have L0 := fun w' (h : Below W0.heap.size W0 w') => (h.cell hlt).trans (hg0 0)
  have L1 := fun w' (h : Below W0.heap.size W0 w') => (h.cell hlt).trans (hg0 1)
  have L2 := fun w' (h : Below W0.heap.size W0 w') => (h.cell hlt).trans (hg0 2)
  simp only [List.getElem?_toArray, List.getElem?_cons_succ, List.getElem?_cons_zero] at L0 L1 L2
  clear hg0
  iterate 8
    refine lexS_step (fun K hK => ?_)
    simp only [lexOp, List.getElem?_toArray, List.getElem?_cons_succ, List.getElem?_cons_zero]
    rw [if_pos (by rfl)]
    apply Exists.intro
    refine ⟨fun w' hS' => ?_, hSw, ?_⟩
    · first | (go_simp <;> with_reducible rfl) | (go_simp; go_bits; with_reducible rfl)
    go_simp
    try go_bits
    refine hK _ _ ?_
    clear hK K
  have hmk := fun w' => make_ints w' S (by omega)
  refine lexS_fork ?_ ?_
  · intro K hK
    simp only [lexOp, List.getElem?_toArray, List.getElem?_cons_succ, List.getElem?_cons_zero]
    rw [if_pos (by rfl)]
    go_step
    have hb1 : Below W0.heap.size W0 (W0.alloc (.cells #[.int .u8 255] 5)) := hSw.alloc hSw.size _
    have S1 := Lib.hid (show Sl encB (W0.alloc (.cells #[.int .u8 255] 5)) (some ⟨W0.heap.size, 0, none⟩) 1 [255] from Sl.lit (heap_alloc_last W0 _) rfl rfl)
    have hs1 : W0.heap.size ≤ (W0.alloc (.cells #[.int .u8 255] 5)).heap.size := by simp
    generalize W0.alloc (.cells #[.int .u8 255] 5) = W1 at hb1 S1 hs1 ⊢
    clear hSw
    have hSw := hb1
    refine ⟨hSw, hK _ _ ?_⟩
    clear hK K hb1
    refine lexS_fork ?_ ?_
    · intro K hK
      simp only [lexOp, List.getElem?_toArray, List.getElem?_cons_succ, List.getElem?_cons_zero]
      rw [if_pos (by rfl)]
      go_step
      with_reducible refine (Repeat_any W1 _ 1 255 S1.out n hn1.1 hn1.2).mono ?_
      rintro e W2 ⟨sz, rfl, z1, z2, hr⟩
      have hb2 : Below W1.heap.size W1 W2 := hr.choose_spec.2.2.2
      have hgb : W0.heap.size ≤ W1.heap.size := hs1
      have hgc : W0.heap.size ≤ W2.heap.size := Nat.le_trans hs1 hb2.size
      have HP := Lib.hid (partsA HN.out HOK.out z1 z2 hr)
      replace hSw := hSw.trans (hb2.mono hSw.size)
      clear hb2 hr z1 z2
      refine ⟨hSw, ?_⟩
      go_simp
      refine hK _ _ ?_
      clear hK K
      refine lexS_step (fun K hK => ?_)
      simp only [lexOp, List.getElem?_toArray, List.getElem?_cons_succ, List.getElem?_cons_zero]
      rw [if_pos (by rfl)]
      go_step
      replace hSw := hSw.alloc hSw.size (.cells (Array.replicate S (encI 0)) 3)
      generalize hWX : W2.alloc (.cells (Array.replicate S (encI 0)) 3) = W3 at HP hSw ⊢
      clear hWX
      refine ⟨hSw, hK _ _ ?_⟩
      clear hK K
      iterate 1
        refine lexS_step (fun K hK => ?_)
        simp only [lexOp, List.getElem?_toArray, List.getElem?_cons_succ, List.getElem?_cons_zero]
        rw [if_pos (by rfl)]
        apply Exists.intro
        refine ⟨fun w' hS' => ?_, hSw, ?_⟩
        · first | (go_simp <;> with_reducible rfl) | (go_simp; go_bits; with_reducible rfl)
        go_simp
        try go_bits
        refine hK _ _ ?_
        clear hK K
      refine lexS_step (fun K hK => ?_)
      simp only [lexOp, List.getElem?_toArray, List.getElem?_cons_succ, List.getElem?_cons_zero]
      rw [if_pos (by rfl)]
      go_step
      have HF := Lib.hid (HP.out.new (tF := 71) HB0.out hSw hgb hgc HN.out)
      have hb5 : Below W0.heap.size W0 (W3.alloc (.cells (newCells S Z L n W1.heap.size W2.heap.size n S) 71)) := hSw.alloc hSw.size _
      refine ⟨hb5, hK _ _ ?_⟩
      clear hK K
      refine lexS_stir (fun y => y = W3.alloc (.cells (newCells S Z L n W1.heap.size W2.heap.size n S) 71)) (fun y hy => hy ▸ hb5) rfl ?_
      clear hb5
      iterate 2
        refine stir_step (fun K hK => ?_)
        simp only [stirOp, List.getElem?_toArray, List.getElem?_cons_succ, List.getElem?_cons_zero]
        rw [if_pos (by rfl)]
        apply Exists.intro
        refine ⟨fun w' hS' => ?_, ?_⟩
        · first | (go_simp <;> with_reducible rfl) | (go_simp; go_bits; with_reducible rfl)
        go_simp
        try go_bits
        refine hK _ ?_
        clear hK K
      refine stir_nil (fun y hy => ?_)
      subst hy
      go_wp2_with fail
      go_ret2
      exact HF.out
    · intro K hK
      simp only [lexOp, List.getElem?_toArray, List.getElem?_cons_succ, List.getElem?_cons_zero]
      rw [if_pos (by rfl)]
      go_step
      have hb2 : Below W0.heap.size W0 (W1.alloc (.cells (Array.replicate S (encI 0)) 3)) := hSw.alloc hSw.size _
      have hg2 := heap_alloc_last W1 (.cells (Array.replicate S (encI 0)) 3)
      have S2 := Lib.hid (S1.out.below ((Below.refl _ _).alloc (Nat.le_refl _) (.cells (Array.replicate S (encI 0)) 3)))
      have hs2 : W1.heap.size ≤ (W1.alloc (.cells (Array.replicate S (encI 0)) 3)).heap.size := by simp
      generalize W1.alloc (.cells (Array.replicate S (encI 0)) 3) = W2 at hb2 hg2 S2 hs2 ⊢
      clear hSw
      have hSw := hb2
      refine ⟨hSw, hK _ _ ?_⟩
      clear hK K hb2
      refine lexS_step (fun K hK => ?_)
      simp only [lexOp, List.getElem?_toArray, List.getElem?_cons_succ, List.getElem?_cons_zero]
      rw [if_pos (by rfl)]
      go_step
      with_reducible refine (Repeat_any W2 _ 1 255 S2.out n hn1.1 hn1.2).mono ?_
      rintro e W3 ⟨sz, rfl, z1, z2, hr⟩
      have hb3 : Below W2.heap.size W2 W3 := hr.choose_spec.2.2.2
      have hgb : W0.heap.size ≤ W2.heap.size := by omega
      have hgc : W0.heap.size ≤ W1.heap.size := hs1
      have HP := Lib.hid (partsB HN.out HOK.out z1 z2 hg2 hr)
      replace hSw := hSw.trans (hb3.mono hSw.size)
      clear hb3 hr z1 z2 hg2
      refine ⟨hSw, ?_⟩
      go_simp
      refine hK _ _ ?_
      clear hK K
      iterate 1
        refine lexS_step (fun K hK => ?_)
        simp only [lexOp, List.getElem?_toArray, List.getElem?_cons_succ, List.getElem?_cons_zero]
        rw [if_pos (by rfl)]
        apply Exists.intro
        refine ⟨fun w' hS' => ?_, hSw, ?_⟩
        · first | (go_simp <;> with_reducible rfl) | (go_simp; go_bits; with_reducible rfl)
        go_simp
        try go_bits
        refine hK _ _ ?_
        clear hK K
      refine lexS_step (fun K hK => ?_)
      simp only [lexOp, List.getElem?_toArray, List.getElem?_cons_succ, List.getElem?_cons_zero]
      rw [if_pos (by rfl)]
      go_step
      have HF := Lib.hid (HP.out.new (tF := 71) HB0.out hSw hgb hgc HN.out)
      have hb5 : Below W0.heap.size W0 (W3.alloc (.cells (newCells S Z L n W2.heap.size W1.heap.size n S) 71)) := hSw.alloc hSw.size _
      refine ⟨hb5, hK _ _ ?_⟩
      clear hK K
      refine lexS_stir (fun y => y = W3.alloc (.cells (newCells S Z L n W2.heap.size W1.heap.size n S) 71)) (fun y hy => hy ▸ hb5) rfl ?_
      clear hb5
      iterate 2
        refine stir_step (fun K hK => ?_)
        simp only [stirOp, List.getElem?_toArray, List.getElem?_cons_succ, List.getElem?_cons_zero]
        rw [if_pos (by rfl)]
        apply Exists.intro
        refine ⟨fun w' hS' => ?_, ?_⟩
        · first | (go_simp <;> with_reducible rfl) | (go_simp; go_bits; with_reducible rfl)
        go_simp
        try go_bits
        refine hK _ ?_
        clear hK K
      refine stir_nil (fun y hy => ?_)
      subst hy
      go_wp2_with fail
      go_ret2
      exact HF.out
  · intro K hK
    simp only [lexOp, List.getElem?_toArray, List.getElem?_cons_succ, List.getElem?_cons_zero]
    rw [if_pos (by rfl)]
    go_step
    have hb1 : Below W0.heap.size W0 (W0.alloc (.cells (Array.replicate S (encI 0)) 3)) := hSw.alloc hSw.size _
    have hg1 := heap_alloc_last W0 (.cells (Array.replicate S (encI 0)) 3)
    have hs1 : W0.heap.size ≤ (W0.alloc (.cells (Array.replicate S (encI 0)) 3)).heap.size := by simp
    generalize W0.alloc (.cells (Array.replicate S (encI 0)) 3) = W1 at hb1 hg1 hs1 ⊢
    clear hSw
    have hSw := hb1
    refine ⟨hSw, hK _ _ ?_⟩
    clear hK K hb1
    refine lexS_step (fun K hK => ?_)
    simp only [lexOp, List.getElem?_toArray, List.getElem?_cons_succ, List.getElem?_cons_zero]
    rw [if_pos (by rfl)]
    go_step
    have hb2 : Below W0.heap.size W0 (W1.alloc (.cells #[.int .u8 255] 5)) := hSw.alloc hSw.size _
    have S2 := Lib.hid (show Sl encB (W1.alloc (.cells #[.int .u8 255] 5)) (some ⟨W1.heap.size, 0, none⟩) 1 [255] from Sl.lit (heap_alloc_last W1 _) rfl rfl)
    have hs2 : W1.heap.size ≤ (W1.alloc (.cells #[.int .u8 255] 5)).heap.size := by simp
    have hg2 : (W1.alloc (.cells #[.int .u8 255] 5)).heap[W0.heap.size]? = some (.cells (Array.replicate S (encI 0)) 3) := by
      rw [Below.heap_alloc W1 _ _ (Array.getElem?_eq_some_iff.1 hg1).1]; exact hg1
    generalize W1.alloc (.cells #[.int .u8 255] 5) = W2 at hb2 S2 hs2 hg2 ⊢
    clear hSw hg1
    have hSw := hb2
    refine ⟨hSw, hK _ _ ?_⟩
    clear hK K hb2
    refine lexS_step (fun K hK => ?_)
    simp only [lexOp, List.getElem?_toArray, List.getElem?_cons_succ, List.getElem?_cons_zero]
    rw [if_pos (by rfl)]
    go_step
    with_reducible refine (Repeat_any W2 _ 1 255 S2.out n hn1.1 hn1.2).mono ?_
    rintro e W3 ⟨sz, rfl, z1, z2, hr⟩
    have hb3 : Below W2.heap.size W2 W3 := hr.choose_spec.2.2.2
    have hgb : W0.heap.size ≤ W2.heap.size := by omega
    have hgc : W0.heap.size ≤ W0.heap.size := Nat.le_refl _
    have HP := Lib.hid (partsB HN.out HOK.out z1 z2 hg2 hr)
    replace hSw := hSw.trans (hb3.mono hSw.size)
    clear hb3 hr z1 z2 hg2
    refine ⟨hSw, ?_⟩
    go_simp
    refine hK _ _ ?_
    clear hK K
    iterate 1
      refine lexS_step (fun K hK => ?_)
      simp only [lexOp, List.getElem?_toArray, List.getElem?_cons_succ, List.getElem?_cons_zero]
      rw [if_pos (by rfl)]
      apply Exists.intro
      refine ⟨fun w' hS' => ?_, hSw, ?_⟩
      · first | (go_simp <;> with_reducible rfl) | (go_simp; go_bits; with_reducible rfl)
      go_simp
      try go_bits
      refine hK _ _ ?_
      clear hK K
    refine lexS_step (fun K hK => ?_)
    simp only [lexOp, List.getElem?_toArray, List.getElem?_cons_succ, List.getElem?_cons_zero]
    rw [if_pos (by rfl)]
    go_step
    have HF := Lib.hid (HP.out.new (tF := 71) HB0.out hSw hgb hgc HN.out)
    have hb5 : Below W0.heap.size W0 (W3.alloc (.cells (newCells S Z L n W2.heap.size W0.heap.size n S) 71)) := hSw.alloc hSw.size _
    refine ⟨hb5, hK _ _ ?_⟩
    clear hK K
    refine lexS_stir (fun y => y = W3.alloc (.cells (newCells S Z L n W2.heap.size W0.heap.size n S) 71)) (fun y hy => hy ▸ hb5) rfl ?_
    clear hb5
    iterate 2
      refine stir_step (fun K hK => ?_)
      simp only [stirOp, List.getElem?_toArray, List.getElem?_cons_succ, List.getElem?_cons_zero]
      rw [if_pos (by rfl)]
      apply Exists.intro
      refine ⟨fun w' hS' => ?_, ?_⟩
      · first | (go_simp <;> with_reducible rfl) | (go_simp; go_bits; with_reducible rfl)
      go_simp
      try go_bits
      refine hK _ ?_
      clear hK K
    refine stir_nil (fun y hy => ?_)
    subst hy
    go_wp2_with fail
    go_ret2
    exact HF.out
end Go.Proofs.Ytdnnodpchjnleaa
