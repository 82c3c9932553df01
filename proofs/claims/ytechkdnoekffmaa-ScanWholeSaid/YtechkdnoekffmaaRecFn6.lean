/- rec: Parse, where there is no record. No condition. -/
import Derived.Test.YtechkdnoekffmaaRecFn5
namespace Go.Proofs.Ytechkdnoekffmaa
open Go.ChangeShapes Go.WideShapes Go.ChangeAt Go.RowKit
theorem results_cell_row_tmp3 {P : Program} {fn : Func} {p u v x : Tmp} {ty : TypeId} (h : fn.results = #[.cell p ty, .tmp u, .tmp v, .tmp x]) (tmps : Array Value) (w : World) (g : Nat) (t : TypeId) (cs : Array Value) (fr : Nat × Nat) (d : TypeDesc)
    (hp : tmps.getD p undef = .pointer (some ⟨g, 0, none⟩)) (hg : w.heap[g]? = some (.cells cs t fr))
    (hu : P.underlying ty = some d) (hd : (match d with | .struct _ | .array _ _ => true | _ => false) = true) (hi : (P.info? ty).map (·.size) = some cs.size) :
    (results fn tmps).run P w = .ok (.tuple #[.agg cs, tmps.getD u undef, tmps.getD v undef, tmps.getD x undef]) w := by
  have hr : (results fn tmps).run P w = ((asAddr (tmps.getD p undef)).run P w).andThen fun a w₁ => ((loadVar ty a).run P w₁).andThen fun y w₂ => .ok (.tuple #[y, tmps.getD u undef, tmps.getD v undef, tmps.getD x undef]) w₂ := by
    simp only [results, h]
    simp [Sem.run_bind, Result.andThen]
  rw [hr, hp]
  simp [asAddr, run_loadVar_row w g t ty cs fr d hg hu hd hi, Result.andThen]
theorem infoRec : (Try.prog.info? 28).map (·.size) = some 5 := by kernel_rfl
theorem Blk5.set {w : World} {g : Nat} {x y z u v x' y' z' u' v' : Value} {t : TypeId} (h : Blk5 w g x y z u v t) :
    Blk5 (((((w.setCell ⟨g, 0, none⟩ x').setCell ⟨g, 1, none⟩ y').setCell ⟨g, 2, none⟩ z').setCell ⟨g, 3, none⟩ u').setCell ⟨g, 4, none⟩ v') g x' y' z' u' v' t :=
  heap_set5 (heap_set5 (heap_set5 (heap_set5 (heap_set5 h 0 x') 1 y') 2 z') 3 u') 4 v'
theorem keep55 (g : Nat) (w : World) (x y z u v : Value) : Below g w (((((w.setCell ⟨g, 0, none⟩ x).setCell ⟨g, 1, none⟩ y).setCell ⟨g, 2, none⟩ z).setCell ⟨g, 3, none⟩ u).setCell ⟨g, 4, none⟩ v) :=
  (((((Below.refl g w).setCell (p := ⟨g, 0, none⟩) (Nat.le_refl g) x).setCell (p := ⟨g, 1, none⟩) (Nat.le_refl g) y).setCell (p := ⟨g, 2, none⟩) (Nat.le_refl g) z).setCell (p := ⟨g, 3, none⟩) (Nat.le_refl g) u).setCell (p := ⟨g, 4, none⟩) (Nat.le_refl g) v
def ParseNo (sz er : Int) (w : World) (e : Ending) (w' : World) : Prop :=
  e = .returned (.tuple #[recV 0 0 ⟨#[]⟩ none 0 0 0, .int .i64 sz, .bool false, .int .i64 er]) ∧ Below w.heap.size w w'
set_option maxRecDepth 100000 in
set_option maxHeartbeats 4000000 in
theorem Parse_none (w : World) (a : Option Addr) (n cap : Nat) (bs : List UInt8) (hs : Sl encB w a n bs) (hn : n ≤ 65536) (h : n = 0 ∨ bs.getD 0 0 = 255) :
    Calls Try.prog 15 #[.slice a n cap] w (ParseNo 0 11 w) := by
  have K0 := Lib.hid (show Blk5 (w.alloc (.cells #[.int .i64 0, .int .u32 0, .string ⟨#[]⟩, .slice none 0 0, .int .i64 0] 28)) w.heap.size (.int .i64 0) (.int .u32 0) (.string ⟨#[]⟩) (.slice none 0 0) (.int .i64 0) 28 from heap_alloc_last w _)
  have HB := Lib.hid ((Below.refl w.heap.size w).alloc (Nat.le_refl _) (.cells #[.int .i64 0, .int .u32 0, .string ⟨#[]⟩, .slice none 0 0, .int .i64 0] 28))
  by_cases h0 : n = 0
  · subst h0
    clear h hs
    go_enter Try.func15, Try.ntmps15
    go_wp2_with fail
    exact bodyPost_ret (results_cell_row_tmp3 rfl _ _ w.heap.size _ _ _ _ rfl K0.out Try.underlying28 rfl infoRec) rfl ⟨rfl, HB.out⟩
  · have h1 : bs.getD 0 0 = 255 := h.resolve_left h0
    obtain ⟨b, off, rfl, hlt, hc⟩ := hs.2 (by omega)
    have c0 := hc 0 (by have := hs.1; omega)
    rw [show bs[0]'(by have := hs.1; omega) = 255 by rw [← h1]; simp [List.getD, List.getElem?_eq_getElem (show 0 < bs.length by have := hs.1; omega)]] at c0
    have g1 : (0 : Int) < (n : Int) := by omega
    have e0 : ((n : Int) == 0) = false := eqi_no (by omega)
    have c0' : w.cell? ⟨b, off, none⟩ = some (.int .u8 255) := c0
    clear h hs hc h1 c0 h0
    go_enter Try.func15, Try.ntmps15
    go_wp2_with fail
    exact bodyPost_ret (results_cell_row_tmp3 rfl _ _ w.heap.size _ _ _ _ rfl K0.out Try.underlying28 rfl infoRec) rfl ⟨rfl, HB.out⟩
/-- What is known of bytes that may begin with a record. -/
theorem first_cell {w : World} {a : Option Addr} {n : Nat} {bs : List UInt8} (hs : Sl encB w a n bs) (h0 : 0 < n) (h1 : bs.getD 0 0 ≠ 255) :
    ∃ b off, a = some ⟨b, off, none⟩ ∧ b < w.heap.size ∧ w.cell? ⟨b, off, none⟩ = some (.int .u8 ((bs.getD 0 0).toNat : Int)) ∧ (((bs.getD 0 0).toNat : Int) == 255) = false ∧ ∀ i, i < n → w.cell? ⟨b, off + i, none⟩ = some (.int .u8 ((bs.getD i 0).toNat : Int)) := by
  obtain ⟨b, off, ha, hlt, hc⟩ := hs.2 h0
  have hl := hs.1
  have key : ∀ i, i < n → w.cell? ⟨b, off + i, none⟩ = some (.int .u8 ((bs.getD i 0).toNat : Int)) := by
    intro i hi
    have := hc i (by omega)
    rw [this]
    simp [List.getD, List.getElem?_eq_getElem (show i < bs.length by omega), encB]
  refine ⟨b, off, ha, hlt, key 0 h0, ?_, key⟩
  apply eqi_no
  intro h
  apply h1
  apply UInt8.toNat_inj.1
  show (bs.getD 0 0).toNat = 255
  omega
set_option maxRecDepth 100000 in
set_option maxHeartbeats 4000000 in
theorem Parse_short (w : World) (a : Option Addr) (n cap : Nat) (bs : List UInt8) (hs : Sl encB w a n bs) (h0 : 0 < n) (h1 : bs.getD 0 0 ≠ 255) (h : n < 11) :
    Calls Try.prog 15 #[.slice a n cap] w (ParseNo 0 6 w) := by
  have K0 := Lib.hid (show Blk5 (w.alloc (.cells #[.int .i64 0, .int .u32 0, .string ⟨#[]⟩, .slice none 0 0, .int .i64 0] 28)) w.heap.size (.int .i64 0) (.int .u32 0) (.string ⟨#[]⟩) (.slice none 0 0) (.int .i64 0) 28 from heap_alloc_last w _)
  have HB := Lib.hid ((Below.refl w.heap.size w).alloc (Nat.le_refl _) (.cells #[.int .i64 0, .int .u32 0, .string ⟨#[]⟩, .slice none 0 0, .int .i64 0] 28))
  obtain ⟨b, off, rfl, hlt, c0, e255, _⟩ := first_cell hs h0 h1
  generalize ((bs.getD 0 0).toNat : Int) = x0 at c0 e255
  have g1 : (0 : Int) < (n : Int) := by omega
  have e0 : ((n : Int) == 0) = false := eqi_no (by omega)
  clear h1 hs
  go_enter Try.func15, Try.ntmps15
  go_wp2_with fail
  exact bodyPost_ret (results_cell_row_tmp3 rfl _ _ w.heap.size _ _ _ _ rfl K0.out Try.underlying28 rfl infoRec) rfl ⟨rfl, HB.out⟩
theorem putB_two (v : Nat) : putB v 2 = [UInt8.ofNat (v / 256 % 256), UInt8.ofNat (v % 256)] := by
  unfold putB
  simp [List.range, List.range.loop]
set_option maxRecDepth 100000 in
set_option maxHeartbeats 4000000 in
theorem Parse_sum1 (w : World) (a : Option Addr) (n cap : Nat) (bs : List UInt8) (hs : Sl encB w a n bs) (hn : n ≤ 65536) (hcap : n ≤ cap) (h1 : bs.getD 0 0 ≠ 255) (h : 11 ≤ n) (h9 : crcN (bs.take 9) / 256 ≠ (bs.getD 9 0).toNat) :
    Calls Try.prog 15 #[.slice a n cap] w (ParseNo 0 7 w) := by
  have K0 := Lib.hid (show Blk5 (w.alloc (.cells #[.int .i64 0, .int .u32 0, .string ⟨#[]⟩, .slice none 0 0, .int .i64 0] 28)) w.heap.size (.int .i64 0) (.int .u32 0) (.string ⟨#[]⟩) (.slice none 0 0) (.int .i64 0) 28 from heap_alloc_last w _)
  have HB := Lib.hid ((Below.refl w.heap.size w).alloc (Nat.le_refl _) (.cells #[.int .i64 0, .int .u32 0, .string ⟨#[]⟩, .slice none 0 0, .int .i64 0] 28))
  obtain ⟨b, off, rfl, hlt, c0, e255, hcell⟩ := first_cell hs (by omega) h1
  have c9 := hcell 9 (by omega)
  have HS9 := Lib.hid (hs.take (j := 9) (by omega))
  have hcr := crcN_lt (bs.take 9)
  have hM := fun w' (hb : Below w.heap.size w w') => Sum16_n w' (some ⟨b, off, none⟩) 9 cap (bs.take 9) (HS9.out.below hb) (by omega)
  generalize ((bs.getD 0 0).toNat : Int) = x0 at c0 e255
  have hx9 := u8_lt (bs.getD 9 0)
  generalize (bs.getD 9 0).toNat = x9 at c9 hx9 h9
  generalize crcN (bs.take 9) = cr at hcr hM h9
  have HM := Lib.hid hM
  have HC9 := Lib.hid c9
  have g1 : (0 : Int) < (n : Int) := by omega
  have g2 : (9 : Int) ≤ (cap : Int) := by omega
  have g3 : (9 : Int) < (n : Int) := by omega
  have e0 : ((n : Int) == 0) = false := eqi_no (by omega)
  clear h1 hs hcell hM c9
  go_enter Try.func15, Try.ntmps15
  go_wp2_with fail
  have ld9 : ∀ w', Below (w.heap.size + 1) (w.alloc (.cells #[.int .i64 0, .int .u32 0, .string ⟨#[]⟩, .slice none 0 0, .int .i64 0] 28)) w' → w'.cell? ⟨b, off + 9, none⟩ = some (.int .u8 (x9 : Int)) := fun w' h => by
    rw [(HB.out.trans (h.mono (by simp))).cell (by simpa using hlt)]; exact HC9.out
  have hSw : Below (w.heap.size + 1) (w.alloc (.cells #[.int .i64 0, .int .u32 0, .string ⟨#[]⟩, .slice none 0 0, .int .i64 0] 28)) (w.alloc (.cells #[.int .i64 0, .int .u32 0, .string ⟨#[]⟩, .slice none 0 0, .int .i64 0] 28)).drew := (Below.refl _ _).drew
  refine wp_region_lex2 (Below (w.heap.size + 1) (w.alloc (.cells #[.int .i64 0, .int .u32 0, .string ⟨#[]⟩, .slice none 0 0, .int .i64 0] 28))) [(0, true), (1, true), (7, true), (8, true), (9, true), (2, false), (3, true), (4, false), (5, true), (6, true), (10, true), (11, true)] (by kernel_rfl) (by kernel_rfl) (fun c a d v w h => by cases d <;> exact h) ?_
  iterate 5
    refine lex2_step (fun K hK => ?_)
    simp only [lexOp, List.getElem?_toArray, List.getElem?_cons_succ, List.getElem?_cons_zero]
    rw [if_pos (by rfl)]
    apply Exists.intro
    refine ⟨fun w' hS' => ?_, hSw, ?_⟩
    · first | (go_simp <;> with_reducible rfl) | (go_simp; go_bits; with_reducible rfl)
    go_simp
    try go_bits
    refine hK _ _ ?_
    clear hK K
  refine lex2_step (fun K hK => ?_)
  simp only [lexOp, List.getElem?_toArray, List.getElem?_cons_succ, List.getElem?_cons_zero]
  rw [if_pos (by rfl)]
  go_step
  refine (HM.out _ (HB.out.trans (hSw.mono (by omega)))).mono ?_
  rintro e w5 ⟨rfl, hb5⟩
  replace hSw : Below (w.heap.size + 1) (w.alloc (.cells #[.int .i64 0, .int .u32 0, .string ⟨#[]⟩, .slice none 0 0, .int .i64 0] 28)) w5 := hSw.trans (hb5.mono (by simp))
  have sz5 : w.heap.size + 1 ≤ w5.heap.size := by have := hSw.size; simpa using this
  clear hb5
  go_simp
  refine hK _ _ ?_
  clear hK K
  iterate 1
    refine lex2_step (fun K hK => ?_)
    simp only [lexOp, List.getElem?_toArray, List.getElem?_cons_succ, List.getElem?_cons_zero]
    rw [if_pos (by rfl)]
    apply Exists.intro
    refine ⟨fun w' hS' => ?_, hSw, ?_⟩
    · first | (go_simp <;> with_reducible rfl) | (go_simp; go_bits; with_reducible rfl)
    go_simp
    try go_bits
    refine hK _ _ ?_
    clear hK K
  refine lex2_step (fun K hK => ?_)
  simp only [lexOp, List.getElem?_toArray, List.getElem?_cons_succ, List.getElem?_cons_zero]
  rw [if_pos (by rfl)]
  go_step
  refine (Put_any _ none 0 0 [] cr 2 (Sl.nil _ _) (by omega) (by omega) (by omega) (by omega) (by omega)).mono ?_
  rintro e w6 ⟨v6, m6, rfl, hown, hb6⟩
  rw [List.nil_append, putB_two] at hown
  obtain rfl : m6 = 2 := by have h := hown.1; simp at h; omega
  obtain ⟨a6, c6, rfl, _, hc6⟩ := Sl.ofOwn hown
  obtain ⟨g6, rfl, _, _⟩ := own_addr hown (by omega)
  have hcell := own_cell hown 0 (by simp)
  rw [show encB ([UInt8.ofNat (cr / 256 % 256), UInt8.ofNat (cr % 256)][0]'(by simp)) = .int .u8 ((cr / 256 : Nat) : Int) by
    show encB (UInt8.ofNat (cr / 256 % 256)) = _
    rw [← encB_num (cr / 256 % 256) (by omega), Nat.mod_eq_of_lt (by omega)]] at hcell
  generalize cr / 256 = q at h9 hcell
  have HC6 := Lib.hid hcell
  replace hSw : Below (w.heap.size + 1) (w.alloc (.cells #[.int .i64 0, .int .u32 0, .string ⟨#[]⟩, .slice none 0 0, .int .i64 0] 28)) w6 := hSw.trans (hb6.mono sz5)
  have H6 := Lib.hid (HB.out.trans (hSw.mono (by omega)))
  have K6 := Lib.hid (K0.out.belowB hSw (by omega))
  have e9 : ((q : Int) == (x9 : Int)) = false := eqi_no (by omega)
  have e9' : ((q : Int) != (x9 : Int)) = true := by simp; omega
  clear hown hb6 hcell
  go_simp
  refine hK _ _ ?_
  clear hK K
  refine lex2_strong (Below w6.heap.size w6) (fun x h => hSw.trans (h.mono (by have := hSw.size; simpa using this))) ?_
  have ld6 : ∀ w', Below w6.heap.size w6 w' → w'.cell? ⟨g6, 0, none⟩ = some (.int .u8 (q : Int)) := fun w' h => by
    rw [h.cell (by assumption)]; exact HC6.out
  clear hSw ld9
  have hSw : Below w6.heap.size w6 w6 := Below.refl _ _
  iterate 4
    refine lex2_step (fun K hK => ?_)
    simp only [lexOp, List.getElem?_toArray, List.getElem?_cons_succ, List.getElem?_cons_zero]
    rw [if_pos (by rfl)]
    apply Exists.intro
    refine ⟨fun w' hS' => ?_, hSw, ?_⟩
    · first | (go_simp <;> with_reducible rfl) | (go_simp; go_bits; with_reducible rfl)
    go_simp
    try go_bits
    refine hK _ _ ?_
    clear hK K
  refine lex2_nil ?_
  clear ld6 hSw
  obtain ⟨p0, p1, p2, p3, p4, f0, f1, f2, f3, f4, lt1⟩ := K6.out.box
  go_wp2_with fail
  have K8 := Lib.hid (K6.out.set (x' := .int .i64 0) (y' := .int .u32 0) (z' := .string ⟨#[]⟩) (u' := .slice none 0 0) (v' := .int .i64 0))
  have H8 := Lib.hid (H6.out.trans (keep55 w.heap.size w6 (.int .i64 0) (.int .u32 0) (.string ⟨#[]⟩) (.slice none 0 0) (.int .i64 0)))
  exact bodyPost_ret (results_cell_row_tmp3 rfl _ _ w.heap.size _ _ _ _ rfl K8.out Try.underlying28 rfl infoRec) rfl ⟨rfl, H8.out⟩
end Go.Proofs.Ytechkdnoekffmaa
