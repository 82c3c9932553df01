/- scan: the tallies of Commits. No condition. -/
import Derived.Test.YtechkdnoekffmaaQ08ScanTorn
import Derived.Test.YtechkdnoekffmaaQ09ScanTorn
import Derived.Maps.OwnSet
import Derived.Laws.EntriesVeiled
import Derived.Test.YtechkdnoekffmaaQ02ScanTorn
import Derived.Test.YtechkdnoekffmaaQ03ScanTorn
import Derived.Laws.IdiomCopy
namespace Go.Proofs.Ytechkdnoekffmaa
open Go.ChangeShapes Go.WideShapes Go.ChangeAt Go.RowKit
open Go.Maps (Keyed int_keyed)
/-- How a tally's address reads. -/
def ptrE (v : Value) : Option (DataW Unit × List MemPlace) :=
  match v with
  | .pointer none => some (.lit (.int .i64 (-1)), [])
  | .pointer (some ⟨g, 0, none⟩) => some (.lit (.int .i64 (g : Nat)), [])
  | _ => none
theorem ptrE_none {v : Value} {ps : List MemPlace} (h : ptrE v = some (.lit (.int .i64 (-1)), ps)) : v = .pointer none := by
  unfold ptrE at h
  split at h
  · rfl
  · simp only [Option.some.injEq, Prod.mk.injEq, DataW.lit.injEq, Lit.int.injEq] at h
    omega
  · cases h
theorem ptrE_some {v : Value} {g : Nat} {ps : List MemPlace} (h : ptrE v = some (.lit (.int .i64 (g : Nat)), ps)) : v = .pointer (some ⟨g, 0, none⟩) := by
  unfold ptrE at h
  split at h
  · simp only [Option.some.injEq, Prod.mk.injEq, DataW.lit.injEq, Lit.int.injEq] at h
    omega
  · simp only [Option.some.injEq, Prod.mk.injEq, DataW.lit.injEq, Lit.int.injEq] at h
    rename_i g'
    obtain rfl : g' = g := by omega
    rfl
  · cases h
theorem zeroPtr (w : World) : (zeroValue 54).run Try.prog w = .ok (.pointer none) w := by kernel_rfl
abbrev TalM (w : World) (M n : Nat) (D : DataW Unit) : Prop := w.ownsMap Try.prog 26 ptrE M n D
theorem wf_u32 (k : Nat) (h : k < 4294967296) : (Lit.int .u32 (k : Nat)).wf = true := by
  unfold Lit.wf
  simp only [Bool.and_eq_true, decide_eq_true_eq]
  have h0 : IntKind.u32.min = 0 := rfl
  have h1 : IntKind.u32.max = 4294967295 := rfl
  rw [h0, h1]
  omega
/-- txns[k], where it is. -/
theorem look_have {w : World} {M n : Nat} {D : DataW Unit} (h : TalM w M n D) {k g : Nat} (hk : k < 4294967296) (hD : D.atKey (.int .u32 (k : Nat)) (.lit (.int .i64 (-1))) = .lit (.int .i64 (g : Nat))) :
    (Instr.lookup 53 (.map (some M)) (.int .u32 (k : Nat)) false).run Try.prog w = .ok (.pointer (some ⟨g, 0, none⟩)) w := by
  obtain ⟨v, ps, hrun, hv⟩ := h.lookup (int_keyed Try.underlying26) Try.underlying53 (zeroPtr w) (show ptrE (.pointer none) = some (.lit (.int .i64 (-1)), []) from rfl) (Maps.keyOf_int_mk Try.underlying26 (wf_u32 k hk))
  rw [hD] at hv
  rw [hrun, ptrE_some hv]
theorem look_none {w : World} {M n : Nat} {D : DataW Unit} (h : TalM w M n D) {k : Nat} (hk : k < 4294967296) (hD : D.atKey (.int .u32 (k : Nat)) (.lit (.int .i64 (-1))) = .lit (.int .i64 (-1))) :
    (Instr.lookup 53 (.map (some M)) (.int .u32 (k : Nat)) false).run Try.prog w = .ok (.pointer none) w := by
  obtain ⟨v, ps, hrun, hv⟩ := h.lookup (int_keyed Try.underlying26) Try.underlying53 (zeroPtr w) (show ptrE (.pointer none) = some (.lit (.int .i64 (-1)), []) from rfl) (Maps.keyOf_int_mk Try.underlying26 (wf_u32 k hk))
  rw [hD] at hv
  rw [hrun, ptrE_none hv]
/-- A found record as it is handed. -/
def FV.arr (f : FV) : Array Value := #[.int .i64 f.pos, .int .i64 f.kd, .int .u32 f.tx, .string ⟨f.kb.toArray⟩, .slice f.a f.n f.cap, .int .i64 f.ct]
def PtrRet (g : Nat) (w : World) (e : Ending) (w' : World) : Prop := e = .returned (.pointer (some ⟨g, 0, none⟩)) ∧ Below w.heap.size w w'
/-- The cell of the map. -/
def MapC (w : World) (pc M : Nat) : Prop := w.heap[pc]? = some (.cells #[.map (some M)] 53)
theorem MapC.below {w w' : World} {pc M : Nat} (h : MapC w pc M) (hb : Below w.heap.size w w') : MapC w' pc M := by
  unfold MapC at *
  rw [hb.block pc (Array.getElem?_eq_some_iff.1 h).1]; exact h
theorem MapC.cell {w : World} {pc M : Nat} (h : MapC w pc M) : w.cell? ⟨pc, 0, none⟩ = some (.map (some M)) ∧ pc < w.heap.size := ⟨by rw [cell_of_row w pc 0 _ _ _ h]; rfl, (Array.getElem?_eq_some_iff.1 h).1⟩
theorem ownsMap_below {w w' : World} {M n : Nat} {D : DataW Unit} (h : TalM w M n D) (hb : Below w.heap.size w w') : TalM w' M n D := by
  obtain ⟨es, clock, h1, h2, h3, h4⟩ := h
  exact ⟨es, clock, by rw [hb.block M (Array.getElem?_eq_some_iff.1 h1).1]; exact h1, h2, h3, h4⟩
theorem cellS_below' {w w' : World} (h : Below w.heap.size w w') {a : Addr} {v : Value} (hc : w.cell? a = some v) : w'.cell? a = some v := cell_below h hc
set_option maxRecDepth 100000 in
set_option maxHeartbeats 4000000 in
theorem of_have (w : World) (pc M n : Nat) (D : DataW Unit) (f : FV) (g : Nat) (hc : MapC w pc M) (hm : TalM w M n D) (hk : f.tx < 4294967296) (hD : D.atKey (.int .u32 (f.tx : Nat)) (.lit (.int .i64 (-1))) = .lit (.int .i64 (g : Nat))) :
    Calls Try.prog 18 #[.agg f.arr, .pointer (some ⟨pc, 0, none⟩)] w (PtrRet g w) := by
  obtain ⟨pos, kd, tx, kb, a, n', cap, ct, bb⟩ := f
  unfold FV.arr
  simp only at hk hD ⊢
  have hal : Below w.heap.size w (w.alloc (.cells #[.int .i64 pos, .int .i64 kd, .int .u32 tx, .string ⟨kb.toArray⟩, .slice a n' cap, .int .i64 ct] 31)) := (Below.refl _ _).alloc (Nat.le_refl _) _
  have HL := look_have (ownsMap_below hm hal) hk hD
  obtain ⟨c0, clt⟩ := hc.cell
  have HB := Lib.hid hal
  clear hal hm hc hD
  go_enter Try.func18, Try.ntmps18
  go_wp2_with fail
  go_ret
  exact ⟨rfl, HB.out⟩
/-- What of leaves where it makes a tally. -/
def NewTal (pc M n : Nat) (D : DataW Unit) (k : Nat) (w : World) (e : Ending) (w' : World) : Prop :=
  ∃ g, e = .returned (.pointer (some ⟨g, 0, none⟩)) ∧ w.heap.size ≤ g ∧ Blk3 w' g (.int .i64 0) (.int .i64 0) (.bool false) 56 ∧ TalM w' M (n + 1) (D.put (.int .u32 (k : Nat)) (.lit (.int .i64 (g : Nat)))) ∧ w.heap.size ≤ w'.heap.size ∧
    w'.os = w.os ∧ w'.tape = w.tape ∧ w'.output = w.output ∧ ∀ i, i < w.heap.size → i ≠ M → w'.heap[i]? = w.heap[i]?
set_option maxRecDepth 100000 in
set_option maxHeartbeats 4000000 in
theorem of_new (w : World) (pc M n : Nat) (D : DataW Unit) (f : FV) (hc : MapC w pc M) (hm : TalM w M n D) (hn : n ≤ 1000) (hk : f.tx < 4294967296) (hD : D.atKey (.int .u32 (f.tx : Nat)) (.lit (.int .i64 (-1))) = .lit (.int .i64 (-1))) :
    Calls Try.prog 18 #[.agg f.arr, .pointer (some ⟨pc, 0, none⟩)] w (NewTal pc M n D f.tx w) := by
  obtain ⟨pos, kd, tx, kb, a, n', cap, ct, bb⟩ := f
  unfold FV.arr NewTal
  simp only at hk hD ⊢
  have hal : Below w.heap.size w (w.alloc (.cells #[.int .i64 pos, .int .i64 kd, .int .u32 tx, .string ⟨kb.toArray⟩, .slice a n' cap, .int .i64 ct] 31)) := (Below.refl _ _).alloc (Nat.le_refl _) _
  have HL := look_none (ownsMap_below hm hal) hk hD
  obtain ⟨c0, clt⟩ := hc.cell
  have HB := Lib.hid hal
  have HM := Lib.hid (ownsMap_below hm hal)
  have HMn := Lib.hid hm.lt
  clear hal hm hc hD
  go_enter Try.func18, Try.ntmps18
  go_upto_region 4 with fail
  have HT := Lib.hid (show Blk3 ((w.alloc (.cells #[.int .i64 pos, .int .i64 kd, .int .u32 tx, .string ⟨kb.toArray⟩, .slice a n' cap, .int .i64 ct] 31)).alloc (.cells #[.int .i64 0, .int .i64 0, .bool false] 56)) (w.heap.size + 1) (.int .i64 0) (.int .i64 0) (.bool false) 56 from by
    have := heap_alloc_last (w.alloc (.cells #[.int .i64 pos, .int .i64 kd, .int .u32 tx, .string ⟨kb.toArray⟩, .slice a n' cap, .int .i64 ct] 31)) (.cells #[.int .i64 0, .int .i64 0, .bool false] 56)
    rwa [show (w.alloc (.cells #[.int .i64 pos, .int .i64 kd, .int .u32 tx, .string ⟨kb.toArray⟩, .slice a n' cap, .int .i64 ct] 31)).heap.size = w.heap.size + 1 by simp] at this)
  have hal2 : Below (w.alloc (.cells #[.int .i64 pos, .int .i64 kd, .int .u32 tx, .string ⟨kb.toArray⟩, .slice a n' cap, .int .i64 ct] 31)).heap.size (w.alloc (.cells #[.int .i64 pos, .int .i64 kd, .int .u32 tx, .string ⟨kb.toArray⟩, .slice a n' cap, .int .i64 ct] 31)) ((w.alloc (.cells #[.int .i64 pos, .int .i64 kd, .int .u32 tx, .string ⟨kb.toArray⟩, .slice a n' cap, .int .i64 ct] 31)).alloc (.cells #[.int .i64 0, .int .i64 0, .bool false] 56)) := (Below.refl _ _).alloc (Nat.le_refl _) _
  have HX := Lib.hid (cellS_below' hal2 (show (w.alloc (.cells #[.int .i64 pos, .int .i64 kd, .int .u32 tx, .string ⟨kb.toArray⟩, .slice a n' cap, .int .i64 ct] 31)).cell? ⟨w.heap.size, 2, none⟩ = some (.int .u32 tx) by rw [cell_of_row _ _ 2 _ _ _ (heap_alloc_last w _)]; rfl))
  have HM2 := Lib.hid (ownsMap_below HM.out hal2)
  have HB2 := Lib.hid (HB.out.trans (hal2.mono HB.out.size))
  have hsz : ((w.alloc (.cells #[.int .i64 pos, .int .i64 kd, .int .u32 tx, .string ⟨kb.toArray⟩, .slice a n' cap, .int .i64 ct] 31)).alloc (.cells #[.int .i64 0, .int .i64 0, .bool false] 56)).heap.size = w.heap.size + 2 := by simp
  have HSZ := Lib.hid hsz
  have c0' := cellS_below' (HB2.out) c0
  clear hal2 hsz HB HM HL c0
  generalize (w.alloc (.cells #[.int .i64 pos, .int .i64 kd, .int .u32 tx, .string ⟨kb.toArray⟩, .slice a n' cap, .int .i64 ct] 31)).alloc (.cells #[.int .i64 0, .int .i64 0, .bool false] 56) = W2 at *
  obtain ⟨w', hrun, hown, hturn⟩ := HM2.out.store (int_keyed Try.underlying26) Try.underlying53 (by unfold maxLen; omega) (val := .pointer (some ⟨w.heap.size + 1, 0, none⟩)) (Maps.keyOf_int_mk Try.underlying26 (wf_u32 tx hk)) (show ptrE (.pointer (some ⟨w.heap.size + 1, 0, none⟩)) = some (.lit (.int .i64 ((w.heap.size + 1 : Nat) : Int)), []) from rfl)
  have HOW := Lib.hid hown
  have HTU := Lib.hid hturn
  have hx := HX.out
  clear hown hturn
  go_wp2_with fail
  go_ret
  have hgr := HTU.out.grown
  refine ⟨w.heap.size + 1, rfl, by omega, ?_, HOW.out, ?_, ?_, ?_, ?_, fun i hi hne => ?_⟩
  · have hne : w.heap.size + 1 ≠ M := by have := HMn.out; omega
    unfold Blk3
    rw [hgr.block _ (by rw [HSZ.out]; omega) (fun h => hne (Option.some.inj h))]
    exact HT.out
  · have := hgr.size; rw [HSZ.out] at this; omega
  · exact hgr.os.trans HB2.out.os
  · exact hgr.tape.trans HB2.out.tape
  · exact hgr.output.trans HB2.out.output
  · rw [hgr.block i (by rw [HSZ.out]; omega) (fun h => hne (Option.some.inj h))]
    exact HB2.out.block i hi
end Go.Proofs.Ytechkdnoekffmaa
/- scan: the tallies of two Txns. No condition. -/
namespace Go.Proofs.Ytechkdnoekffmaa
open Go.ChangeShapes Go.WideShapes Go.ChangeAt Go.RowKit
open Go.Maps (Keyed int_keyed)
abbrev TalT := 56
def oneD (g : Nat) : DataW Unit := (DataW.map []).put (.int .u32 ((1 : Nat) : Int)) (.lit (.int .i64 (g : Nat)))
def twoD (g h : Nat) : DataW Unit := (oneD g).put (.int .u32 ((2 : Nat) : Int)) (.lit (.int .i64 (h : Nat)))
def talD : Option Nat → Option Nat → DataW Unit
  | none, _ => .map []
  | some g, none => oneD g
  | some g, some h => twoD g h
theorem isOne (g : Nat) : Maps.IsMap (oneD g) := Maps.isMap_empty.put _ _
theorem at_none (k : Nat) : (talD none none).atKey (.int .u32 (k : Nat)) (.lit (.int .i64 (-1))) = .lit (.int .i64 (-1)) := rfl
theorem at_one1 (g : Nat) (o : Option Nat) : (talD (some g) o).atKey (.int .u32 ((1 : Nat) : Int)) (.lit (.int .i64 (-1))) = .lit (.int .i64 (g : Nat)) := by
  have h1 : (oneD g).atKey (.int .u32 ((1 : Nat) : Int)) (.lit (.int .i64 (-1))) = .lit (.int .i64 (g : Nat)) := Maps.atKey_put_same Maps.isMap_empty (by trivial) _ _
  cases o with
  | none => exact h1
  | some h =>
    show (twoD g h).atKey _ _ = _
    unfold twoD
    rw [Maps.atKey_put_other (by intro h; cases h)]
    exact h1
theorem at_one2 (g : Nat) : (talD (some g) none).atKey (.int .u32 ((2 : Nat) : Int)) (.lit (.int .i64 (-1))) = .lit (.int .i64 (-1)) := by
  show (oneD g).atKey _ _ = _
  unfold oneD
  rw [Maps.atKey_put_other (by intro h; cases h)]
  rfl
theorem at_two2 (g h : Nat) : (talD (some g) (some h)).atKey (.int .u32 ((2 : Nat) : Int)) (.lit (.int .i64 (-1))) = .lit (.int .i64 (h : Nat)) := Maps.atKey_put_same (isOne g) (by trivial) _ _
def FunC (w : World) (pf pc : Nat) : Prop := w.heap[pf]? = some (.cells #[.func (.func 18) #[] #[.pointer (some ⟨pc, 0, none⟩)]] 57)
theorem FunC.below {w w' : World} {pf pc : Nat} (h : FunC w pf pc) (hb : Below w.heap.size w w') : FunC w' pf pc := by
  unfold FunC at *
  rw [hb.block pf (Array.getElem?_eq_some_iff.1 h).1]; exact h
theorem FunC.cell {w : World} {pf pc : Nat} (h : FunC w pf pc) : w.cell? ⟨pf, 0, none⟩ = some (.func (.func 18) #[] #[.pointer (some ⟨pc, 0, none⟩)]) ∧ pf < w.heap.size := ⟨by rw [cell_of_row w pf 0 _ _ _ h]; rfl, (Array.getElem?_eq_some_iff.1 h).1⟩
/-- A tally: its block, how many in all, how many so far, whether it is good. -/
abbrev TV : Type := Nat × Nat × Nat × Bool
structure Tl (w : World) (B M pc pf : Nat) (n1 n2 : Option TV) : Prop where
  map : ∃ k, k ≤ n1.toList.length + n2.toList.length ∧ TalM w M k (talD (n1.map (·.1)) (n2.map (·.1)))
  cpc : MapC w pc M
  cpf : FunC w pf pc
  bM : B ≤ M
  bpc : B ≤ pc
  bpf : B ≤ pf
  t1 : ∀ g a s d, n1 = some (g, a, s, d) → Blk3 w g (.int .i64 (a : Nat)) (.int .i64 (s : Nat)) (.bool d) TalT ∧ B ≤ g
  t2 : ∀ g a s d, n2 = some (g, a, s, d) → Blk3 w g (.int .i64 (a : Nat)) (.int .i64 (s : Nat)) (.bool d) TalT ∧ B ≤ g
  ne : ∀ t u, n1 = some t → n2 = some u → t.1 ≠ u.1
theorem Tl.below {w w' : World} {B M pc pf : Nat} {n1 n2 : Option TV} (h : Tl w B M pc pf n1 n2) (hb : Below w.heap.size w w') : Tl w' B M pc pf n1 n2 := by
  obtain ⟨⟨k, hk, hm⟩, h1, h2, h3, h4, h5, h6, h7, h8⟩ := h
  exact ⟨⟨k, hk, ownsMap_below hm hb⟩, h1.below hb, h2.below hb, h3, h4, h5, fun g a s d e => ⟨(h6 g a s d e).1.below hb, (h6 g a s d e).2⟩, fun g a s d e => ⟨(h7 g a s d e).1.below hb, (h7 g a s d e).2⟩, h8⟩
theorem Tl.ltM {w : World} {B M pc pf : Nat} {n1 n2 : Option TV} (h : Tl w B M pc pf n1 n2) : M < w.heap.size := by
  obtain ⟨k, _, hm⟩ := h.map
  exact hm.lt
theorem map_cells {w : World} {M n g : Nat} {D : DataW Unit} {cs : Array Value} {t : TypeId} {fr : Nat × Nat} (hm : TalM w M n D) (hg : w.heap[g]? = some (.cells cs t fr)) : g ≠ M := by
  rintro rfl
  obtain ⟨es, clock, h1, _⟩ := hm
  rw [hg] at h1
  cases h1
/-- What of leaves where it has made a tally. -/
theorem Tl.new1 {w w' : World} {B M pc pf : Nat} {n1 n2 : Option TV} {D : DataW Unit} {n k : Nat} {e : Ending} (h : Tl w B M pc pf none none) (hN : NewTal pc M n D k w e w') (hn : n ≤ 0) (hk : k = 1) (hD : D = talD none none) (hB : B ≤ w.heap.size) :
    ∃ g, e = .returned (.pointer (some ⟨g, 0, none⟩)) ∧ Tl w' B M pc pf (some (g, 0, 0, false)) none := by
  subst hk hD
  obtain ⟨g, he, hg, hb3, hm, hsz, h1, h2, h3, hblk⟩ := hN
  obtain ⟨k0, _, hm0⟩ := h.map
  have npc := map_cells hm0 h.cpc
  have npf := map_cells hm0 h.cpf
  refine ⟨g, he, ⟨n + 1, by simp; omega, hm⟩, ?_, ?_, h.bM, h.bpc, h.bpf, ?_, (fun g a s d e => by cases e), (fun t u _ e => by cases e)⟩
  · unfold MapC; rw [hblk pc h.cpc.cell.2 npc]; exact h.cpc
  · unfold FunC; rw [hblk pf h.cpf.cell.2 npf]; exact h.cpf
  · intro g' a s d e
    simp only [Option.some.injEq, Prod.mk.injEq] at e
    obtain ⟨rfl, rfl, rfl, rfl⟩ := e
    exact ⟨hb3, by omega⟩
theorem Tl.new2 {w w' : World} {B M pc pf : Nat} {t : TV} {D : DataW Unit} {n k : Nat} {e : Ending} (h : Tl w B M pc pf (some t) none) (hN : NewTal pc M n D k w e w') (hn : n ≤ 1) (hk : k = 2) (hD : D = talD (some t.1) none) (hB : B ≤ w.heap.size) :
    ∃ g, e = .returned (.pointer (some ⟨g, 0, none⟩)) ∧ Tl w' B M pc pf (some t) (some (g, 0, 0, false)) := by
  subst hk hD
  obtain ⟨g, he, hg, hb3, hm, hsz, h1, h2, h3, hblk⟩ := hN
  obtain ⟨k0, _, hm0⟩ := h.map
  have npc := map_cells hm0 h.cpc
  have npf := map_cells hm0 h.cpf
  refine ⟨g, he, ⟨n + 1, by simp; omega, hm⟩, ?_, ?_, h.bM, h.bpc, h.bpf, ?_, ?_, ?_⟩
  · unfold MapC; rw [hblk pc h.cpc.cell.2 npc]; exact h.cpc
  · unfold FunC; rw [hblk pf h.cpf.cell.2 npf]; exact h.cpf
  · intro g' a s d e
    obtain ⟨q1, q2⟩ := h.t1 g' a s d e
    refine ⟨?_, q2⟩
    unfold Blk3
    rw [hblk g' (Array.getElem?_eq_some_iff.1 q1).1 (map_cells hm0 q1)]
    exact q1
  · intro g' a s d e
    simp only [Option.some.injEq, Prod.mk.injEq] at e
    obtain ⟨rfl, rfl, rfl, rfl⟩ := e
    exact ⟨hb3, by omega⟩
  · intro t' u e1 e2
    cases e1
    cases e2
    obtain ⟨g', a, s, d⟩ := t
    have := (Array.getElem?_eq_some_iff.1 (h.t1 g' a s d rfl).1).1
    show g' ≠ g
    omega
theorem NewTal.below {w0 w w' : World} {B pc M n k : Nat} {D : DataW Unit} {e : Ending} (hN : NewTal pc M n D k w e w') (hb : Below B w0 w) (hB : B ≤ w0.heap.size) (hM : B ≤ M) : Below B w0 w' := by
  obtain ⟨g, he, hg, hb3, hm, hsz, h1, h2, h3, hblk⟩ := hN
  exact ⟨h1.trans hb.os, h2.trans hb.tape, h3.trans hb.output, Nat.le_trans hb.size hsz, fun i hi => by rw [hblk i (Nat.lt_of_lt_of_le (Nat.lt_of_lt_of_le hi hB) hb.size) (by omega)]; exact hb.block i hi⟩
theorem setCell_block {w : World} {g k o : Nat} {v : Value} (h : k ≠ g) : (w.setCell ⟨g, o, none⟩ v).heap[k]? = w.heap[k]? := by
  unfold World.setCell
  have hne' : ¬ g = k := fun e => h e.symm
  simp [Array.getElem?_modify, hne']
theorem Tl.set1 {w : World} {B M pc pf g a s : Nat} {d : Bool} {n2 : Option TV} (h : Tl w B M pc pf (some (g, a, s, d)) n2) (o : Nat) (v : Value) (a' s' : Nat) (d' : Bool)
    (hs : Blk3 (w.setCell ⟨g, o, none⟩ v) g (.int .i64 (a' : Nat)) (.int .i64 (s' : Nat)) (.bool d') TalT) : Tl (w.setCell ⟨g, o, none⟩ v) B M pc pf (some (g, a', s', d')) n2 := by
  obtain ⟨k0, hk0, hm0⟩ := h.map
  have hg := (h.t1 g a s d rfl).1
  have ngM := map_cells hm0 hg
  have npc : pc ≠ g := by rintro rfl; have := h.cpc; unfold MapC at this; rw [show w.heap[pc]? = _ from hg] at this; simp at this
  have npf : pf ≠ g := by rintro rfl; have := h.cpf; unfold FunC at this; rw [show w.heap[pf]? = _ from hg] at this; simp at this
  refine ⟨⟨k0, hk0, hm0.setCell (a := ⟨g, o, none⟩) (Ne.symm ngM) v⟩, ?_, ?_, h.bM, h.bpc, h.bpf, ?_, ?_, ?_⟩
  · unfold MapC; rw [setCell_block npc]; exact h.cpc
  · unfold FunC; rw [setCell_block npf]; exact h.cpf
  · intro g' a2 s2 d2 e
    simp only [Option.some.injEq, Prod.mk.injEq] at e
    obtain ⟨rfl, rfl, rfl, rfl⟩ := e
    exact ⟨hs, (h.t1 g a s d rfl).2⟩
  · intro g' a2 s2 d2 e
    obtain ⟨q1, q2⟩ := h.t2 g' a2 s2 d2 e
    refine ⟨?_, q2⟩
    unfold Blk3
    rw [setCell_block (Ne.symm (h.ne _ _ rfl e))]
    exact q1
  · intro t u e1 e2
    cases e1
    exact h.ne (g, a, s, d) u rfl e2
theorem Tl.set2 {w : World} {B M pc pf g a s : Nat} {d : Bool} {n1 : Option TV} (h : Tl w B M pc pf n1 (some (g, a, s, d))) (o : Nat) (v : Value) (a' s' : Nat) (d' : Bool)
    (hs : Blk3 (w.setCell ⟨g, o, none⟩ v) g (.int .i64 (a' : Nat)) (.int .i64 (s' : Nat)) (.bool d') TalT) : Tl (w.setCell ⟨g, o, none⟩ v) B M pc pf n1 (some (g, a', s', d')) := by
  obtain ⟨k0, hk0, hm0⟩ := h.map
  have hg := (h.t2 g a s d rfl).1
  have ngM := map_cells hm0 hg
  have npc : pc ≠ g := by rintro rfl; have := h.cpc; unfold MapC at this; rw [show w.heap[pc]? = _ from hg] at this; simp at this
  have npf : pf ≠ g := by rintro rfl; have := h.cpf; unfold FunC at this; rw [show w.heap[pf]? = _ from hg] at this; simp at this
  refine ⟨⟨k0, hk0, hm0.setCell (a := ⟨g, o, none⟩) (Ne.symm ngM) v⟩, ?_, ?_, h.bM, h.bpc, h.bpf, ?_, ?_, ?_⟩
  · unfold MapC; rw [setCell_block npc]; exact h.cpc
  · unfold FunC; rw [setCell_block npf]; exact h.cpf
  · intro g' a2 s2 d2 e
    obtain ⟨q1, q2⟩ := h.t1 g' a2 s2 d2 e
    refine ⟨?_, q2⟩
    unfold Blk3
    rw [setCell_block (h.ne _ _ e rfl)]
    exact q1
  · intro g' a2 s2 d2 e
    simp only [Option.some.injEq, Prod.mk.injEq] at e
    obtain ⟨rfl, rfl, rfl, rfl⟩ := e
    exact ⟨hs, (h.t2 g a s d rfl).2⟩
  · intro t u e1 e2
    cases e2
    exact h.ne t (g, a, s, d) e1 rfl
theorem of1_have (w : World) (B M pc pf : Nat) (t : TV) (n2 : Option TV) (f : FV) (h : Tl w B M pc pf (some t) n2) (hf : f.tx = 1) : Calls Try.prog 18 #[.agg f.arr, .pointer (some ⟨pc, 0, none⟩)] w (PtrRet t.1 w) := by
  obtain ⟨k, _, hm⟩ := h.map
  exact of_have w pc M k _ f t.1 h.cpc hm (by omega) (by rw [hf]; exact at_one1 _ _)
theorem of2_have (w : World) (B M pc pf : Nat) (t u : TV) (f : FV) (h : Tl w B M pc pf (some t) (some u)) (hf : f.tx = 2) : Calls Try.prog 18 #[.agg f.arr, .pointer (some ⟨pc, 0, none⟩)] w (PtrRet u.1 w) := by
  obtain ⟨k, _, hm⟩ := h.map
  exact of_have w pc M k _ f u.1 h.cpc hm (by omega) (by rw [hf]; exact at_two2 _ _)
/-- What of leaves of a new tally. -/
def Made1 (B M pc pf : Nat) (w0 : World) (e : Ending) (w' : World) : Prop := ∃ g, e = .returned (.pointer (some ⟨g, 0, none⟩)) ∧ Tl w' B M pc pf (some (g, 0, 0, false)) none ∧ Below B w0 w'
def Made2 (B M pc pf : Nat) (t : TV) (w0 : World) (e : Ending) (w' : World) : Prop := ∃ g, e = .returned (.pointer (some ⟨g, 0, none⟩)) ∧ Tl w' B M pc pf (some t) (some (g, 0, 0, false)) ∧ Below B w0 w'
theorem of1_new (w0 w : World) (B M pc pf : Nat) (f : FV) (h : Tl w B M pc pf none none) (hf : f.tx = 1) (hb : Below B w0 w) (hB : B ≤ w0.heap.size) : Calls Try.prog 18 #[.agg f.arr, .pointer (some ⟨pc, 0, none⟩)] w (Made1 B M pc pf w0) := by
  obtain ⟨k, hk, hm⟩ := h.map
  simp at hk
  refine (of_new w pc M k _ f h.cpc hm (by omega) (by omega) (by rw [hf]; exact at_none 1)).mono fun e w' hN => ?_
  obtain ⟨g, he, ht⟩ := Tl.new1 (n1 := none) (n2 := none) h hN (by omega) hf rfl (Nat.le_trans hB hb.size)
  exact ⟨g, he, ht, hN.below hb hB h.bM⟩
theorem of2_new (w0 w : World) (B M pc pf : Nat) (t : TV) (f : FV) (h : Tl w B M pc pf (some t) none) (hf : f.tx = 2) (hb : Below B w0 w) (hB : B ≤ w0.heap.size) : Calls Try.prog 18 #[.agg f.arr, .pointer (some ⟨pc, 0, none⟩)] w (Made2 B M pc pf t w0) := by
  obtain ⟨k, hk, hm⟩ := h.map
  simp at hk
  refine (of_new w pc M k _ f h.cpc hm (by omega) (by omega) (by rw [hf]; exact at_one2 _)).mono fun e w' hN => ?_
  obtain ⟨g, he, ht⟩ := Tl.new2 h hN (by omega) hf rfl (Nat.le_trans hB hb.size)
  exact ⟨g, he, ht, hN.below hb hB h.bM⟩
end Go.Proofs.Ytechkdnoekffmaa
/- Slices of structs whose fields take one cell each. No condition. -/
namespace Go.Proofs.Ytechkdnoekffmaa
open Go.ChangeShapes Go.WideShapes Go.ChangeAt Go.RowKit
/-- The slice at a, of n structs of z cells each, reads as xs. -/
def Ss {α : Type} (z : Nat) (enc : α → List Value) (w : World) (a : Option Addr) (n : Nat) (xs : List α) : Prop :=
  xs.length = n ∧ (0 < n → ∃ b off, a = some ⟨b, off, none⟩ ∧ b < w.heap.size ∧ ∀ i (_ : i < xs.length) j, j < z → w.cell? ⟨b, off + i * z + j, none⟩ = (enc xs[i])[j]?)
theorem addr_add (b o k : Nat) : (⟨b, o, none⟩ : Addr).add k = ⟨b, o + k, none⟩ := by unfold Addr.add; split <;> simp_all
theorem cellS_below {w w' : World} (h : Below w.heap.size w w') {a : Addr} {v : Value} (hc : w.cell? a = some v) : w'.cell? a = some v := by
  have hlt : a.block < w.heap.size := by
    unfold World.cell? at hc
    cases hb : w.heap[a.block]? with
    | none => rw [hb] at hc; simp at hc
    | some o => exact (Array.getElem?_eq_some_iff.1 hb).1
  rw [h.cell hlt]
  exact hc
section
variable {α : Type} {z : Nat} {enc : α → List Value}
theorem Ss.below {w w' : World} {a : Option Addr} {n : Nat} {xs : List α} (h : Ss z enc w a n xs) (hb : Below w.heap.size w w') : Ss z enc w' a n xs := by
  refine ⟨h.1, fun hn => ?_⟩
  obtain ⟨b, off, ha, hlt, hc⟩ := h.2 hn
  exact ⟨b, off, ha, Nat.lt_of_lt_of_le hlt hb.size, fun i hi j hj => by rw [hb.cell (by simpa using hlt)]; exact hc i hi j hj⟩
theorem Ss.nil (w : World) (a : Option Addr) : Ss z enc w a 0 [] := ⟨rfl, fun h => by omega⟩
theorem flat_len (hz : ∀ x, (enc x).length = z) (xs : List α) : (xs.flatMap enc).length = xs.length * z := by
  induction xs with
  | nil => simp
  | cons x xs ih => rw [List.flatMap_cons, List.length_append, hz, ih, List.length_cons, Nat.add_mul, Nat.one_mul, Nat.add_comm]
theorem flat_at (hz : ∀ x, (enc x).length = z) (xs : List α) (i : Nat) (hi : i < xs.length) (j : Nat) (hj : j < z) : (xs.flatMap enc)[i * z + j]? = (enc xs[i])[j]? := by
  induction xs generalizing i with
  | nil => simp at hi
  | cons x xs ih =>
    rw [List.flatMap_cons]
    cases i with
    | zero => rw [Nat.zero_mul, Nat.zero_add, List.getElem?_append_left (by rw [hz]; exact hj)]; simp
    | succ i =>
      rw [List.getElem?_append_right (by rw [hz, Nat.add_mul]; omega), hz, show (i + 1) * z + j - z = i * z + j by rw [Nat.add_mul]; omega, ih i (by simpa using hi)]
      simp
theorem Ss.ofOwn (hz : ∀ x, (enc x).length = z) (z0 : 0 < z) {w : World} {base : Nat} {e : TypeId} {v : Value} {n : Nat} {xs : List α} (h : w.ownsRow base e z v n (xs.flatMap enc)) : ∃ a cap, v = .slice a n cap ∧ Ss z enc w a n xs ∧ n ≤ cap := by
  have hl : xs.length = n := by
    have h1 := h.1
    rw [flat_len hz] at h1
    exact Nat.eq_of_mul_eq_mul_right z0 h1
  rcases h.2 with ⟨rfl, rfl⟩ | ⟨g, cap, cur, rfl, hb, hg, hnc, _, _, ht⟩
  · exact ⟨none, 0, rfl, ⟨hl, fun h => by omega⟩, Nat.le_refl _⟩
  · refine ⟨_, cap, rfl, ⟨hl, fun _ => ⟨g, 0, rfl, (Array.getElem?_eq_some_iff.1 hg).1, fun i hi j hj => ?_⟩⟩, hnc⟩
    have hlt : i * z + j < n * z := by
      have : (i + 1) * z ≤ n * z := Nat.mul_le_mul_right _ (by omega)
      rw [Nat.add_mul] at this
      omega
    rw [Nat.zero_add, h.cellAt (i * z + j) hlt, flat_at hz xs i hi j hj]
theorem Ss.take {w : World} {a : Option Addr} {n j : Nat} {xs : List α} (h : Ss z enc w a n xs) (hj : j ≤ n) : Ss z enc w a j (xs.take j) := by
  refine ⟨by simp [h.1]; omega, fun hn => ?_⟩
  obtain ⟨b, off, ha, hlt, hc⟩ := h.2 (by omega)
  refine ⟨b, off, ha, hlt, fun i hi k hk => ?_⟩
  rw [hc i (by simp at hi; omega) k hk]
  simp
theorem Ss.src {P : Program} (hz : ∀ x, (enc x).length = z) (z0 : 0 < z) (h1 : ∀ x : α, ∀ u ∈ enc x, u.oneCell' = true) {w : World} {a : Option Addr} {n : Nat} {xs : List α} (h : Ss z enc w a n xs) {tx e' : TypeId} (hk : P.underlying tx = some (.slice e')) (cap : Nat) : Src P z tx (.slice a n cap) n (xs.flatMap enc) w := by
  obtain ⟨hl, hc⟩ := h
  have hone : ∀ u ∈ xs.flatMap enc, u.oneCell' = true := by
    intro u hu
    obtain ⟨x, _, hx⟩ := List.mem_flatMap.1 hu
    exact h1 x u hx
  by_cases hn : 0 < n
  · obtain ⟨b, off, rfl, _, hcell⟩ := hc hn
    refine Src.ofSlice w hk ⟨b, off, none⟩ n cap _ (by rw [flat_len hz, hl]) (fun j u hu => ?_) hone
    have hj : j < xs.length * z := by
      rw [← flat_len hz]
      rcases Nat.lt_or_ge j (xs.flatMap enc).length with h | h
      · exact h
      · rw [List.getElem?_eq_none h] at hu; cases hu
    have hjd : j / z < xs.length := Nat.div_lt_of_lt_mul (by rw [Nat.mul_comm]; exact hj)
    have hjm : j % z < z := Nat.mod_lt _ z0
    have hje : j / z * z + j % z = j := by rw [Nat.mul_comm]; exact Nat.div_add_mod j z
    have hf := flat_at hz xs (j / z) hjd (j % z) hjm
    rw [hje, hu] at hf
    rw [addr_add, ← hje, ← Nat.add_assoc, hcell (j / z) hjd (j % z) hjm, ← hf]
  · have h0 : n = 0 := by omega
    subst h0
    have hb : xs = [] := List.eq_nil_of_length_eq_zero hl
    subst hb
    cases a with
    | none => exact Src.ofNil w hk cap
    | some ad => exact Src.ofSlice w hk ad 0 cap [] (by simp) (fun j u hu => by simp at hu) (fun u hu => by cases hu)
end
/-- A slice type t whose elements e take z cells. -/
def StE (t e : TypeId) (z0 : Value) (z bytes : Nat) : Prop := Try.prog.underlying t = some (.slice e) ∧ (Try.prog.info? e).map (fun i => (i.zero, i.size, i.bytes)) = some (some z0, z, bytes) ∧ z0.cells.size = z
theorem wpList_appS {t e : TypeId} {z0 : Value} {z bytes : Nat} (hO : StE t e z0 z bytes) {w : World} {ops : Array Oper} {rest : List Oper} {o : Oper} {a : Act} {Q : Exit → Act → World → Prop} (hgd : Region.wanted o (yielded ops a.tmps) = true) (s x : Operand) (tx : TypeId)
    (ho : o.op = .call { callee := .builtin .append, args := #[s, x], argTypes := #[t, tx] })
    (base : Nat) (v : Value) (n : Nat) (xs : List Value) (hv : a.eval s = v) (hown : w.ownsRow base e z v n xs)
    (y : Value) (m : Nat) (news : List Value) (hy : a.eval x = y) (hs : Src Try.prog z tx y m news w) (hlen : (n + m) * bytes ≤ 140737488355328) (hm : n + m ≤ maxLen) (hbase : base ≤ w.heap.size)
    (h : ∀ v' w', w'.ownsRow base e z v' (n + m) (xs ++ news) → w.grownBy w' v.ownBlock → Below base w w' → wpList Try.prog ops Q rest (a.put o.dst v') w') : wpList Try.prog ops Q (o :: rest) a w := by
  obtain ⟨ht, hinf, hz⟩ := hO
  obtain ⟨i0, hi, hz0, hz1, hz2⟩ := info_parts hinf
  exact wpList_append_src hgd s x t tx ho base e i0 z0 z bytes ht hi hz0 hz1 hz2 hz v n xs hv hown y m news hy hs hm hlen hbase (fun v' w' h1 h2 _ => h v' w' h1 h2 (below_app (Below.refl _ _) hbase hown h2))
theorem Src.litS {P : Program} {w : World} {z m c : Nat} {C : Array Value} {e tx e' : TypeId} (hm : C.size = m * z) (hone : C.toList.all (·.oneCell') = true) (hk : P.underlying tx = some (.slice e')) :
    Src P z tx (.slice (some ⟨w.heap.size, 0, none⟩) m c) m C.toList (w.alloc (.cells C e)) := by
  refine Src.ofSlice _ hk ⟨w.heap.size, 0, none⟩ m c _ (by simpa using hm) (fun j u hu => ?_) (fun u hu => List.all_eq_true.1 hone u hu)
  rw [addr_add, Nat.zero_add, cell_of_row _ w.heap.size j _ _ _ (heap_alloc_last w _)]
  simpa using hu
/-- append(v, x1, .., xm) of structs: what is appended lies in a block of its own, made last. -/
theorem wpList_appS_lit {t e : TypeId} {z0 : Value} {z bytes : Nat} (hO : StE t e z0 z bytes) {w : World} {ops : Array Oper} {rest : List Oper} {o : Oper} {a : Act} {Q : Exit → Act → World → Prop} (hgd : Region.wanted o (yielded ops a.tmps) = true) (s x : Operand)
    (ho : o.op = .call { callee := .builtin .append, args := #[s, x], argTypes := #[t, t] })
    (base : Nat) (v : Value) (n : Nat) (xs : List Value) (hv : a.eval s = v) (hown : w.ownsRow base e z v n xs)
    (C : Array Value) (m c sz : Nat) (hy : a.eval x = .slice (some ⟨sz, 0, none⟩) m c) (hsz : w.heap.size = sz) (hC : C.size = m * z) (hone : C.toList.all (·.oneCell') = true) (hlen : (n + m) * bytes ≤ 140737488355328) (hm : n + m ≤ maxLen) (hbase : base ≤ w.heap.size)
    (h : ∀ v' w', w'.ownsRow base e z v' (n + m) (xs ++ C.toList) → (w.alloc (.cells C e)).grownBy w' v.ownBlock → Below base w w' → wpList Try.prog ops Q rest (a.put o.dst v') w') : wpList Try.prog ops Q (o :: rest) a (w.alloc (.cells C e)) := by
  subst hsz
  exact wpList_appS hO hgd s x t ho base v n xs hv (hown.alloc _) _ m _ hy (Src.litS hC hone hO.1) hlen hm (by simp; omega)
    (fun v' w' h1 h2 h3 => h v' w' h1 h2 (((Below.refl _ _).alloc hbase _).trans h3))
/-- wpList_app_lit, the place of what is appended named. -/
theorem wpList_app_lit2 {t e : TypeId} {z : Value} {bytes : Nat} (hO : OneE t e z bytes) {w : World} {ops : Array Oper} {rest : List Oper} {o : Oper} {a : Act} {Q : Exit → Act → World → Prop} (hgd : Region.wanted o (yielded ops a.tmps) = true) (s x : Operand)
    (ho : o.op = .call { callee := .builtin .append, args := #[s, x], argTypes := #[t, t] })
    (base : Nat) (v : Value) (n : Nat) (xs : List Value) (hv : a.eval s = v) (hown : w.ownsRow base e 1 v n xs)
    (C : Array Value) (m c sz : Nat) (hy : a.eval x = .slice (some ⟨sz, 0, none⟩) m c) (hsz : w.heap.size = sz) (hC : C.size = m) (hone : C.toList.all (·.oneCell') = true) (hlen : (n + m) * bytes ≤ 140737488355328) (hm : n + m ≤ maxLen) (hbase : base ≤ w.heap.size)
    (h : ∀ v' w', w'.ownsRow base e 1 v' (n + m) (xs ++ C.toList) → (w.alloc (.cells C e)).grownBy w' v.ownBlock → Below base w w' → wpList Try.prog ops Q rest (a.put o.dst v') w') : wpList Try.prog ops Q (o :: rest) a (w.alloc (.cells C e)) := by
  subst hsz
  exact wpList_app_lit hO hgd s x ho base v n xs hv hown C m c hy hC hone hlen hm hbase h
end Go.Proofs.Ytechkdnoekffmaa
/- scan: Clone, IndexFunc and DeleteFunc of found records. No condition. -/
namespace Go.Proofs.Ytechkdnoekffmaa
open Go.ChangeShapes Go.WideShapes Go.ChangeAt Go.RowKit
/-- A slice of found records that came in. -/
abbrev Fs (w : World) (a : Option Addr) (k : Nat) (F : List FV) : Prop := Ss 6 FV.cells w a k F
theorem Fs.get {w : World} {a : Option Addr} {k : Nat} {F : List FV} (h : Fs w a k F) (j : Nat) (hj : j < k) : ∃ b off f, a = some ⟨b, off, none⟩ ∧ b < w.heap.size ∧ F[j]? = some f ∧ f ∈ F ∧
    w.cell? ⟨b, off + j * 6, none⟩ = some (.int .i64 f.pos) ∧ w.cell? ⟨b, off + j * 6 + 1, none⟩ = some (.int .i64 f.kd) ∧ w.cell? ⟨b, off + j * 6 + 2, none⟩ = some (.int .u32 f.tx) ∧ w.cell? ⟨b, off + j * 6 + 3, none⟩ = some (.string ⟨f.kb.toArray⟩) ∧ w.cell? ⟨b, off + j * 6 + 4, none⟩ = some (.slice f.a f.n f.cap) ∧ w.cell? ⟨b, off + j * 6 + 5, none⟩ = some (.int .i64 f.ct) := by
  obtain ⟨b, off, ha, hlt, hc⟩ := h.2 (by omega)
  have hl : j < F.length := by rw [h.1]; exact hj
  exact ⟨b, off, F[j], ha, hlt, List.getElem?_eq_getElem hl, List.getElem_mem hl, hc j hl 0 (by omega), hc j hl 1 (by omega), hc j hl 2 (by omega), hc j hl 3 (by omega), hc j hl 4 (by omega), hc j hl 5 (by omega)⟩
def zFound : Value := .agg #[.int .i64 0, .int .i64 0, .int .u32 0, .string ⟨#[]⟩, .slice none 0 0, .int .i64 0]
theorem stF : StE 25 31 zFound 6 72 := ⟨Try.underlying25, infoFound, rfl⟩
theorem FV.one (f : FV) : ∀ u ∈ f.cells, u.oneCell' = true := by
  intro u hu
  simp [FV.cells] at hu
  rcases hu with rfl | rfl | rfl | rfl | rfl | rfl <;> rfl
def CloneF (F : List FV) (k : Nat) (w : World) (e : Ending) (w' : World) : Prop := ∃ g c, e = .returned (.slice (some ⟨g, 0, none⟩) k c) ∧ w'.ownsRow w.heap.size 31 6 (.slice (some ⟨g, 0, none⟩) k c) k (F.flatMap FV.cells) ∧ Below w.heap.size w w'
set_option maxRecDepth 100000 in
set_option maxHeartbeats 2000000 in
theorem cloneF (w : World) (a : Option Addr) (k cap : Nat) (F : List FV) (hs : Fs w a k F) (h0 : 0 < k) (hk : k ≤ 65536) : Calls Try.prog 20 #[.slice a k cap] w (CloneF F k w) := by
  obtain ⟨b, off, rfl, _, _⟩ := hs.2 h0
  have HS := Lib.hid hs
  clear hs
  have hq := fun w' : World => run_eqlNil (P := Try.prog) w' 25 31 (some ⟨b, off, none⟩) k cap Try.underlying25
  have HO0 := Lib.hid (show (w.alloc (.cells #[] 31)).ownsRow w.heap.size 31 6 (.slice (some ⟨w.heap.size, 0, none⟩) 0 0) 0 [] from World.ownsRow_made w #[] 0 (Nat.le_refl _) (by decide) (by simp))
  have HB0 := Lib.hid ((Below.refl w.heap.size w).alloc (Nat.le_refl _) (.cells #[] 31))
  go_enter Try.func20, Try.ntmps20
  go_wp2_with (at_builtin; first
    | (refine wpList_appS stF rfl _ _ _ rfl w.heap.size _ _ _ rfl HO0.out _ _ _ rfl ((HS.out.below HB0.out).src FV.cells_length (by omega) FV.one Try.underlying25 _) (by omega) (by unfold maxLen; omega) HB0.out.size ?_; intro v2 w2 hown2 hg2 hb2; have HO2 := Lib.hid hown2; have HB2 := Lib.hid (HB0.out.trans hb2); clear hown2 hg2 hb2))
  go_ret
  have h := HO2.out
  rw [Nat.zero_add, List.nil_append] at h
  rcases h.2 with ⟨rfl, h1⟩ | ⟨g, c, cur, rfl, hr⟩
  · omega
  · exact ⟨g, c, rfl, h, HB2.out⟩
def BoolB (b : Bool) (w : World) (e : Ending) (w' : World) : Prop := e = .returned (.bool b) ∧ Below w.heap.size w w'
set_option maxRecDepth 100000 in
set_option maxHeartbeats 2000000 in
theorem cl2_commit (w : World) (B M pc pf : Nat) (n1 n2 : Option TV) (h : Tl w B M pc pf n1 n2) (f : FV) (hk : f.kd = 3) : Calls Try.prog 21 #[.agg f.arr, .pointer (some ⟨pf, 0, none⟩)] w (BoolB true w) := by
  obtain ⟨pos, kd, tx, kb, a, n', cap, ct, bb⟩ := f
  unfold FV.arr
  simp only at hk ⊢
  subst hk
  have HB := Lib.hid ((Below.refl w.heap.size w).alloc (Nat.le_refl _) (.cells #[.int .i64 pos, .int .i64 ((3 : Nat) : Int), .int .u32 tx, .string ⟨kb.toArray⟩, .slice a n' cap, .int .i64 ct] 31))
  clear h
  go_enter Try.func21, Try.ntmps21
  go_wp2_with fail
  go_ret
  exact ⟨rfl, HB.out⟩
set_option maxRecDepth 100000 in
set_option maxHeartbeats 2000000 in
theorem cl2_of (w : World) (B M pc pf : Nat) (n1 n2 : Option TV) (h : Tl w B M pc pf n1 n2) (f : FV) (hk : f.kd ≠ 3) (hk2 : f.kd ≤ 65536) (g all seen : Nat) (d : Bool) (hg : ∀ w', Below w.heap.size w w' → Blk3 w' g (.int .i64 (all : Nat)) (.int .i64 (seen : Nat)) (.bool d) TalT)
    (hof : ∀ w', Below w.heap.size w w' → Calls Try.prog 18 #[.agg f.arr, .pointer (some ⟨pc, 0, none⟩)] w' (PtrRet g w')) : Calls Try.prog 21 #[.agg f.arr, .pointer (some ⟨pf, 0, none⟩)] w (BoolB (!d) w) := by
  obtain ⟨pos, kd, tx, kb, a, n', cap, ct, bb⟩ := f
  unfold FV.arr at hof ⊢
  simp only at hk hk2 hof ⊢
  have hal : Below w.heap.size w (w.alloc (.cells #[.int .i64 pos, .int .i64 kd, .int .u32 tx, .string ⟨kb.toArray⟩, .slice a n' cap, .int .i64 ct] 31)) := (Below.refl _ _).alloc (Nat.le_refl _) _
  have HB := Lib.hid hal
  have hX := heap_alloc_last w (.cells #[.int .i64 pos, .int .i64 kd, .int .u32 tx, .string ⟨kb.toArray⟩, .slice a n' cap, .int .i64 ct] 31)
  have HOF := Lib.hid (hof _ hal)
  have HG := Lib.hid hg
  have HFC := Lib.hid (h.cpf.below hal)
  have hk3 : ((kd : Int) == 3) = false := by simp; omega
  clear hof hg h hal hk
  go_enter Try.func21, Try.ntmps21
  go_upto_region 1 with fail
  generalize w.alloc (.cells #[.int .i64 pos, .int .i64 kd, .int .u32 tx, .string ⟨kb.toArray⟩, .slice a n' cap, .int .i64 ct] 31) = W1 at *
  obtain ⟨q0, qlt⟩ := HFC.out.cell
  have x0 : W1.cell? ⟨w.heap.size, 0, none⟩ = some (.int .i64 pos) := by rw [cell_of_row W1 _ 0 _ _ _ hX]; rfl
  have x1 : W1.cell? ⟨w.heap.size, 1, none⟩ = some (.int .i64 kd) := by rw [cell_of_row W1 _ 1 _ _ _ hX]; rfl
  have x2 : W1.cell? ⟨w.heap.size, 2, none⟩ = some (.int .u32 tx) := by rw [cell_of_row W1 _ 2 _ _ _ hX]; rfl
  have x3 : W1.cell? ⟨w.heap.size, 3, none⟩ = some (.string ⟨kb.toArray⟩) := by rw [cell_of_row W1 _ 3 _ _ _ hX]; rfl
  have x4 : W1.cell? ⟨w.heap.size, 4, none⟩ = some (.slice a n' cap) := by rw [cell_of_row W1 _ 4 _ _ _ hX]; rfl
  have x5 : W1.cell? ⟨w.heap.size, 5, none⟩ = some (.int .i64 ct) := by rw [cell_of_row W1 _ 5 _ _ _ hX]; rfl
  clear hX
  go_wp2_with fail
  refine HOF.out.mono ?_
  rintro e w2 ⟨rfl, hb2⟩
  have HB2 := Lib.hid (HB.out.trans (hb2.mono HB.out.size))
  obtain ⟨d0, d1, d2, _, _, _, dlt⟩ := (HG.out w2 HB2.out).box
  clear hb2 x0 x1 x2 x3 x4 x5 q0 qlt HOF
  go_wp2_with fail
  go_ret
  exact ⟨rfl, HB2.out⟩
theorem cl2_one (w : World) (B M pc pf : Nat) (g a s : Nat) (d : Bool) (n2 : Option TV) (h : Tl w B M pc pf (some (g, a, s, d)) n2) (f : FV) (hk : f.kd ≠ 3) (hk2 : f.kd ≤ 65536) (ht : f.tx = 1) : Calls Try.prog 21 #[.agg f.arr, .pointer (some ⟨pf, 0, none⟩)] w (BoolB (!d) w) :=
  cl2_of w B M pc pf _ _ h f hk hk2 g a s d (fun w' hb => (h.t1 g a s d rfl).1.below hb) (fun w' hb => of1_have w' B M pc pf _ _ f (h.below hb) ht)
theorem cl2_two (w : World) (B M pc pf : Nat) (t : TV) (g a s : Nat) (d : Bool) (h : Tl w B M pc pf (some t) (some (g, a, s, d))) (f : FV) (hk : f.kd ≠ 3) (hk2 : f.kd ≤ 65536) (ht : f.tx = 2) : Calls Try.prog 21 #[.agg f.arr, .pointer (some ⟨pf, 0, none⟩)] w (BoolB (!d) w) :=
  cl2_of w B M pc pf _ _ h f hk hk2 g a s d (fun w' hb => (h.t2 g a s d rfl).1.below hb) (fun w' hb => of2_have w' B M pc pf t _ f (h.below hb) ht)
/-- Found records of a commit that is whole, and of one that isn't. -/
structure CmOk (F : List FV) : Prop where
  two : 2 ≤ F.length
  f0 : ∀ f, F[0]? = some f → f.kd = 1 ∧ f.tx = 1
  f1 : ∀ f, F[1]? = some f → f.kd = 3 ∧ f.tx = 1 ∧ f.ct = 1
  f2 : ∀ j f, 2 ≤ j → F[j]? = some f → f.kd ≠ 3 ∧ f.kd ≤ 65536 ∧ f.tx = 2
set_option maxRecDepth 100000 in
set_option maxHeartbeats 4000000 in
theorem indexF (w : World) (B M pc pf g1 : Nat) (n2 : Option TV) (h : Tl w B M pc pf (some (g1, 1, 1, true)) n2) (a : Option Addr) (k cap : Nat) (F : List FV) (hs : Fs w a k F) (hF : CmOk F) (hk : k ≤ 65536) :
    Calls Try.prog 30 #[.slice a k cap, .func (.func 21) #[] #[.pointer (some ⟨pf, 0, none⟩)]] w fun e w' => e = .returned (.int .i64 1) ∧ Below w.heap.size w w' := by
  have HS := Lib.hid hs
  have HF := Lib.hid hF
  have hk2 : 2 ≤ k := by rw [← hs.1]; exact hF.two
  have HC0 := Lib.hid (fun (w' : World) (hb : Below w.heap.size w w') (f : FV) (hk : f.kd = 1) (ht : f.tx = 1) => cl2_one w' B M pc pf g1 1 1 true n2 (h.below hb) f (by omega) (by omega) ht)
  have HC1 := Lib.hid (fun (w' : World) (hb : Below w.heap.size w w') (f : FV) (hk : f.kd = 3) => cl2_commit w' B M pc pf _ n2 (h.below hb) f hk)
  clear hs hF h
  go_enter Try.func30, Try.ntmps30
  go_wp2_with fail
  go_loopg [8] 2 (fun gn i wr => ∃ j : Nat, j ≤ 1 ∧ gn = 2 - j ∧ i = .int .i64 j ∧ Hid (Below w.heap.size w wr))
  case atStart => exact ⟨0, by omega, by omega, by go_num, Lib.hid (Below.refl _ _)⟩
  case round =>
    obtain ⟨j, hj, rfl, rfl, HB⟩ := hrel
    obtain ⟨b, off, f, rfl, hbl, hf, _, c0, c1, c2, c3, c4, c5⟩ := Fs.get (Ss.below HS.out HB.out) j (by omega)
    have j1 : (j : Int) < k := by omega
    by_cases h0 : j = 0
    · subst h0
      obtain ⟨hfk, hft⟩ := HF.out.f0 f hf
      have HX := Lib.hid (HC0.out wr HB.out f hfk hft)
      obtain ⟨pos, kd, tx, kb, fa, fn, fc, ct, bb⟩ := f
      unfold FV.arr at HX
      simp only at c0 c1 c2 c3 c4 c5 HX
      rw [Nat.zero_mul, Nat.add_zero] at c0 c1 c2 c3 c4 c5
      clear hf hfk hft
      go_wp2_with fail
      refine HX.out.mono ?_
      rintro e w2 ⟨rfl, hb2⟩
      have HB2 := Lib.hid (HB.out.trans (hb2.mono HB.out.size))
      clear hb2 HX c0 c1 c2 c3 c4 c5
      go_wp2_with fail
      go_roundg 1
      case measure => omega
      case rel => exact ⟨1, by omega, rfl, by go_num, HB2⟩
    · obtain rfl : j = 1 := by omega
      obtain ⟨hfk, hft, hfc⟩ := HF.out.f1 f hf
      have HX := Lib.hid (HC1.out wr HB.out f hfk)
      obtain ⟨pos, kd, tx, kb, fa, fn, fc, ct, bb⟩ := f
      unfold FV.arr at HX
      simp only at c0 c1 c2 c3 c4 c5 HX
      clear hf hfk hft hfc h0
      go_wp2_with fail
      refine HX.out.mono ?_
      rintro e w2 ⟨rfl, hb2⟩
      have HB2 := Lib.hid (HB.out.trans (hb2.mono HB.out.size))
      clear hb2 HX c0 c1 c2 c3 c4 c5
      go_wp2_with fail
      go_ret
      exact ⟨rfl, HB2.out⟩
end Go.Proofs.Ytechkdnoekffmaa
