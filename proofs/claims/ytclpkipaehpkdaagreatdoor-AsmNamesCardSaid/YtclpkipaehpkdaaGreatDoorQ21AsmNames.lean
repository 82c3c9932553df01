/- asm: own texts, merged (wip/merge2.py). No condition. -/
import Derived.Test.YtclpkipaehpkdaaGreatDoorQ20AsmNames
import Derived.Deep.CutBlock
set_option linter.unusedVariables false
set_option linter.unusedSimpArgs false
namespace Go.Proofs.YtclpkipaehpkdaaGreatDoor
open Go.ChangeShapes Go.WideShapes Go.ChangeAt Go.RowKit Go.Maps
abbrev RawT := 118
def rz : RW := ⟨0, 0, 0, 0⟩
theorem raws_append (s : LW) (p : Nat) (l k : List IN) : s.raws p (l ++ k) = (((s.raws p l).1.raws (p + (l.map lenI).sum) k).1, (s.raws p l).2 ++ ((s.raws p l).1.raws (p + (l.map lenI).sum) k).2) := by
  induction l generalizing s p with
  | nil => simp [LW.raws]
  | cons x l ih =>
    rw [List.cons_append, LW.raws, LW.raws, ih]
    simp only [List.map_cons, List.sum_cons, List.cons_append, Nat.add_assoc]
theorem raws_cnt (s : LW) (p : Nat) (l : List IN) : (s.raws p l).2.length = l.length := by
  induction l generalizing s p with
  | nil => rfl
  | cons x l ih => rw [LW.raws, List.length_cons, List.length_cons, ih]
theorem raws_len (s : LW) (p : Nat) (l : List IN) : (s.raws p l).1.l.length ≤ s.l.length + 12 * l.length := by
  induction l generalizing s p with
  | nil => exact Nat.le_refl _
  | cons x l ih =>
    rw [LW.raws]
    have h1 := raw_len s p x
    have h2 := ih (s.raw p x).1 (p + lenI x)
    simp only [List.length_cons]
    omega
theorem posI_succ {l : List IN} {j : Nat} {x : IN} (h : l[j]? = some x) : posI l (j + 1) = posI l j + lenI x := by
  unfold posI
  have hj := (List.getElem?_eq_some_iff.1 h).1
  rw [List.take_succ_eq_append_getElem hj, (List.getElem?_eq_some_iff.1 h).2, List.map_append, List.sum_append]
  simp
theorem lenI_le (x : IN) : lenI x ≤ 3 := by
  unfold lenI
  have := formN_le x.op
  generalize formN x.op = f at *
  match f, this with
  | 0, _ | 1, _ | 2, _ | 3, _ | 4, _ | 5, _ | 6, _ | 7, _ | 8, _ | 9, _ => decide
  | n + 10, h => omega
theorem posI_le (l : List IN) (n : Nat) : posI l n ≤ 3 * n := by
  unfold posI
  induction n generalizing l with
  | zero => simp
  | succ n ih =>
    cases l with
    | nil => simp
    | cons x l =>
      rw [List.take_succ_cons, List.map_cons, List.sum_cons]
      have h1 := ih l
      have h2 := lenI_le x
      omega
theorem raws_take (s : LW) (l : List IN) (j : Nat) (x : IN) (h : l[j]? = some x) :
    s.raws 0 (l.take (j + 1)) = (((s.raws 0 (l.take j)).1.raw (posI l j) x).1, (s.raws 0 (l.take j)).2 ++ [((s.raws 0 (l.take j)).1.raw (posI l j) x).2]) := by
  have hj := (List.getElem?_eq_some_iff.1 h).1
  rw [List.take_succ_eq_append_getElem hj, (List.getElem?_eq_some_iff.1 h).2, raws_append]
  simp only [LW.raws, Nat.zero_add]
  rfl
theorem raws_at (s : LW) (l : List IN) (j : Nat) (x : IN) (h : l[j]? = some x) : (s.raws 0 l).2[j]? = some ((s.raws 0 (l.take j)).1.raw (posI l j) x).2 := by
  have hj := (List.getElem?_eq_some_iff.1 h).1
  have e : l = l.take (j + 1) ++ l.drop (j + 1) := (List.take_append_drop _ _).symm
  have h1 := raws_append s 0 (l.take (j + 1)) (l.drop (j + 1))
  rw [← e, raws_take s l j x h] at h1
  rw [h1]
  have hc := raws_cnt s 0 (l.take j)
  rw [List.length_take, Nat.min_eq_left (by omega)] at hc
  simp only
  rw [List.getElem?_append_left (by simp; omega), List.getElem?_append_right (by omega), hc]
  simp
def rowsTo (R : List RW) (j : Nat) : List RW := (List.range R.length).map fun k => if k < j then R.getD k rz else rz
theorem rowsTo_len (R : List RW) (j : Nat) : (rowsTo R j).length = R.length := by simp [rowsTo]
theorem rowsTo_zero (R : List RW) : rowsTo R 0 = List.replicate R.length rz := by
  unfold rowsTo
  apply List.ext_getElem (by simp)
  intro i h1 h2
  simp
theorem rowsTo_all (R : List RW) : rowsTo R R.length = R := by
  apply List.ext_getElem (by simp [rowsTo])
  intro i h1 h2
  simp only [rowsTo, List.getElem_map, List.getElem_range]
  rw [if_pos h2]
  simp [List.getD, h2]
theorem rowsTo_set (R : List RW) (j : Nat) (r : RW) (h : R[j]? = some r) : (rowsTo R j).set j r = rowsTo R (j + 1) := by
  have hj := (List.getElem?_eq_some_iff.1 h).1
  apply List.ext_getElem (by simp [rowsTo])
  intro i h1 h2
  rw [List.getElem_set]
  simp only [rowsTo, List.getElem_map, List.getElem_range]
  by_cases e : j = i
  · subst e
    rw [if_pos rfl, if_pos (by omega)]
    simp [List.getD, h]
  · rw [if_neg e]
    by_cases h3 : i < j
    · rw [if_pos h3, if_pos (by omega)]
    · rw [if_neg h3, if_neg (by omega)]
def iz : IN := ⟨0, 0, 0, [], [], [], []⟩
def rowsGo (l : List IN) (R : List RW) (j : Nat) : List RW := (List.range R.length).map fun k => if k < j then branchR l (l.getD k iz) (R.getD k rz) else R.getD k rz
theorem rowsGo_len (l : List IN) (R : List RW) (j : Nat) : (rowsGo l R j).length = R.length := by simp [rowsGo]
theorem rowsGo_zero (l : List IN) (R : List RW) : rowsGo l R 0 = R := by
  unfold rowsGo
  apply List.ext_getElem (by simp)
  intro i h1 h2
  simp [List.getD, h2]
theorem rowsGo_all (l : List IN) (R : List RW) (h : R.length = l.length) : rowsGo l R R.length = rawsB l R := by
  unfold rowsGo rawsB
  apply List.ext_getElem (by simp [h])
  intro i h1 h2
  have hi : i < R.length := by simpa using h1
  have hi2 : i < l.length := by omega
  simp [List.getD, hi, hi2]
theorem rowsGo_at (l : List IN) (R : List RW) (j : Nat) (r : RW) (h : R[j]? = some r) : (rowsGo l R j)[j]? = some r := by
  unfold rowsGo
  have hj := (List.getElem?_eq_some_iff.1 h).1
  rw [List.getElem?_map, List.getElem?_range hj]
  simp [List.getD, h]
theorem rowsGo_set (l : List IN) (R : List RW) (j : Nat) (x : IN) (r : RW) (hx : l[j]? = some x) (h : R[j]? = some r) : (rowsGo l R j).set j (branchR l x r) = rowsGo l R (j + 1) := by
  have hj := (List.getElem?_eq_some_iff.1 h).1
  apply List.ext_getElem (by simp [rowsGo])
  intro i h1 h2
  rw [List.getElem_set]
  simp only [rowsGo, List.getElem_map, List.getElem_range]
  by_cases e : j = i
  · subst e
    rw [if_pos rfl, if_pos (by omega)]
    simp [List.getD, h, hx]
  · rw [if_neg e]
    by_cases h3 : i < j
    · rw [if_pos h3, if_pos (by omega)]
    · rw [if_neg h3, if_neg (by omega)]
theorem rowsGo_stay (l : List IN) (R : List RW) (j : Nat) (x : IN) (r : RW) (hx : l[j]? = some x) (h : R[j]? = some r) (hb : branchR l x r = r) : rowsGo l R (j + 1) = rowsGo l R j := by
  rw [← rowsGo_set l R j x r hx h, hb]
  have h1 := rowsGo_at l R j r h
  have hj := (List.getElem?_eq_some_iff.1 h1).1
  conv => lhs; rw [← (List.getElem?_eq_some_iff.1 h1).2]
  exact List.set_getElem_self hj
theorem goes_snoc (s : LW) (l k : List IN) (x : IN) : s.goes l (k ++ [x]) = if formN x.op = 7 then (s.goes l k).need (inB l x.n) 2 else s.goes l k := by
  induction k generalizing s with
  | nil => rfl
  | cons y k ih => rw [List.cons_append, LW.goes, LW.goes, ih]
theorem goes_l (s : LW) (l k : List IN) : (s.goes l k).l = s.l := by
  induction k generalizing s with
  | nil => rfl
  | cons y k ih =>
    rw [LW.goes, ih]
    split <;> rfl
theorem put_snd (s : LW) (c : KV) (n : Nat) (h : (s.put c).1.l.length ≤ n) : (s.put c).2 ≤ n := Nat.le_of_lt (Nat.lt_of_lt_of_le (put_lt s c) h)
theorem con_le (s : LW) (x : IN) : (s.con x).2 ≤ s.l.length + 4 := by
  unfold LW.con
  split
  · have h := put_le (s.need (int32B x.n) 8) ⟨3, 0, 0, x.n, []⟩
    have h0 : (s.need (int32B x.n) 8).l = s.l := rfl
    rw [h0] at h
    omega
  · split
    · have h1 := text_len s x.tx
      have h2 := put_le (s.text x.tx).1 ⟨8, ((s.text x.tx).2 : Nat), 0, 0, []⟩
      omega
    · split
      · have h := put_le s ⟨5, 0, 0, x.n, []⟩
        omega
      · show 0 ≤ _
        omega
theorem wide_le (s : LW) (x : IN) : (s.wide x).2 ≤ s.l.length + 12 := by
  have h := wide_len s x
  unfold LW.wide at h ⊢
  split
  · next h1 => rw [if_pos h1] at h; exact put_snd _ _ _ h
  · next h1 =>
    rw [if_neg h1] at h
    split
    · next h2 => rw [if_pos h2] at h; exact put_snd _ _ _ h
    · next h2 => rw [if_neg h2] at h; exact put_snd _ _ _ h
theorem raw_ok (s : LW) (p : Nat) (x : IN) (hs : s.l.length ≤ 1000000000000) (hx : x.op < 256) (hp : p ≤ 1048576) : IntRo (s.raw p x).2.pos ∧ IntRo (s.raw p x).2.a ∧ (s.raw p x).2.op < 256 := by
  have hc := con_le (s.need (decide (x.cl = [] ∧ x.nm = [] ∧ x.m = 0)) 8) x
  have h0 : (s.need (decide (x.cl = [] ∧ x.nm = [] ∧ x.m = 0)) 8).l = s.l := rfl
  rw [h0] at hc
  have hw := wide_le s x
  have hz : ∀ q : Nat, q ≤ 1000000000012 → IntRo (q : Int) := fun q hq => intRo_of (by omega)
  have hr : IntRo (wrap32I x.n) := intRo_of (by unfold wrap32I; omega)
  unfold LW.raw
  split
  · exact ⟨hz p (by omega), hz _ (by omega), hx⟩
  · split
    · exact ⟨hz p (by omega), hz _ (by omega), hx⟩
    · split
      · exact ⟨hz p (by omega), hz 0 (by omega), hx⟩
      · exact ⟨hz p (by omega), hr, hx⟩
theorem raws_ok (s : LW) (l : List IN) (hs : s.l.length ≤ 999990000000) (hn : l.length ≤ 4096) (hf : ∀ x ∈ l, x.op < 256) : ∀ r ∈ rawsB l (s.raws 0 l).2, IntRo r.pos ∧ IntRo r.a ∧ r.op < 256 := by
  intro r hr
  unfold rawsB at hr
  obtain ⟨⟨x, r0⟩, hm, rfl⟩ := List.mem_map.1 hr
  obtain ⟨j, hj, he⟩ := List.getElem_of_mem hm
  have hjl : j < l.length := by simp at hj; omega
  rw [List.getElem_zip] at he
  simp only [Prod.mk.injEq] at he
  have hx : l[j]? = some x := by rw [List.getElem?_eq_getElem hjl, he.1]
  have h1 := raws_at s l j x hx
  have hjr : j < (s.raws 0 l).2.length := by rw [raws_cnt]; exact hjl
  rw [List.getElem?_eq_getElem hjr, he.2] at h1
  have h2 := raws_len s 0 (l.take j)
  rw [List.length_take] at h2
  have h3 := raw_ok (s.raws 0 (l.take j)).1 (posI l j) x (by omega) (hf x (List.mem_of_getElem? hx)) (by have := posI_le l j; omega)
  rw [← Option.some.inj h1] at h3
  simp only
  unfold branchR
  split
  · exact ⟨h3.1, intRo_of (by have := posI_le l x.n.toNat; next hb => have := hb.2; unfold inB at this; rw [decide_eq_true_iff] at this; dsimp only; omega), h3.2.2⟩
  · exact h3
def placesTo (l : List IN) (j : Nat) : List Int := (List.range (l.length + 1)).map fun k => if k ≤ j then (posI l k : Int) else 0
theorem placesTo_len (l : List IN) (j : Nat) : (placesTo l j).length = l.length + 1 := by simp [placesTo]
theorem placesTo_zero (l : List IN) : placesTo l 0 = List.replicate (l.length + 1) 0 := by
  apply List.ext_getElem (by simp [placesTo])
  intro i h1 h2
  simp only [placesTo, List.getElem_map, List.getElem_range, List.getElem_replicate]
  split
  · next h => obtain rfl : i = 0 := by omega
              simp [posI]
  · rfl
theorem placesTo_at (l : List IN) (j k : Nat) (h : k ≤ j) (hj : k ≤ l.length) : (placesTo l j)[k]? = some (posI l k : Int) := by
  unfold placesTo
  rw [List.getElem?_map, List.getElem?_range (by omega)]
  simp [h]
theorem placesTo_set (l : List IN) (j : Nat) (h : j < l.length) : (placesTo l j).set (j + 1) (posI l (j + 1) : Int) = placesTo l (j + 1) := by
  apply List.ext_getElem (by simp [placesTo])
  intro i h1 h2
  rw [List.getElem_set]
  simp only [placesTo, List.getElem_map, List.getElem_range]
  by_cases e : j + 1 = i
  · subst e
    rw [if_pos rfl, if_pos (by omega)]
  · rw [if_neg e]
    by_cases h3 : i ≤ j
    · rw [if_pos h3, if_pos (by omega)]
    · rw [if_neg h3, if_neg (by omega)]
theorem flat_block {α : Type} {z : Nat} {enc : α → List Value} (hz : ∀ x, (enc x).length = z) (R : List α) (j : Nat) (r : α) (hj : j < R.length) :
    (R.flatMap enc).take (j * z) ++ enc r ++ (R.flatMap enc).drop (j * z + z) = (R.set j r).flatMap enc := by
  have e : R = R.take j ++ R[j] :: R.drop (j + 1) := by simp
  have hA : ((R.take j).flatMap enc).length = j * z := by rw [flat_len hz, List.length_take, Nat.min_eq_left (by omega)]
  have hs : R.set j r = R.take j ++ r :: R.drop (j + 1) := by rw [List.set_eq_take_append_cons_drop, if_pos hj]
  have hf : R.flatMap enc = (R.take j).flatMap enc ++ (enc R[j] ++ (R.drop (j + 1)).flatMap enc) := by
    conv => lhs; rw [e]
    rw [List.flatMap_append, List.flatMap_cons]
  rw [hs, List.flatMap_append, List.flatMap_cons, hf]
  rw [List.take_left' hA, ← List.append_assoc, List.drop_left' (by rw [List.length_append, hA, hz]), List.append_assoc]
theorem flat_set {α : Type} {z : Nat} {enc : α → List Value} (hz : ∀ x, (enc x).length = z) (R : List α) (j o : Nat) (r : α) (v : Value) (hj : j < R.length) (ho : o < z) (he : (enc R[j]).set o v = enc r) :
    (R.flatMap enc).set (j * z + o) v = (R.set j r).flatMap enc := by
  have e : R = R.take j ++ R[j] :: R.drop (j + 1) := by simp
  have hA : ((R.take j).flatMap enc).length = j * z := by rw [flat_len hz, List.length_take, Nat.min_eq_left (by omega)]
  have hs : R.set j r = R.take j ++ r :: R.drop (j + 1) := by rw [List.set_eq_take_append_cons_drop, if_pos hj]
  have hf : R.flatMap enc = (R.take j).flatMap enc ++ (enc R[j] ++ (R.drop (j + 1)).flatMap enc) := by
    conv => lhs; rw [e]
    rw [List.flatMap_append, List.flatMap_cons]
  rw [hs, List.flatMap_append, List.flatMap_cons, hf, List.set_append_right _ _ (by omega), hA, Nat.add_sub_cancel_left, List.set_append_left _ _ (by rw [hz]; exact ho), he]
def RowRw (w : World) (g : Nat) (R : List RW) : Prop := w.heap[g]? = some (.cells (R.flatMap RW.cells).toArray RawT (0, 0))
def RowIn (w : World) (g : Nat) (P : List Int) : Prop := w.heap[g]? = some (.cells (P.map (Value.int .i64)).toArray 3 (0, 0))
theorem RowRw.keepL {B : Nat} {w w' : World} {g : Nat} {R : List RW} (h : RowRw w g R) (hk : KeepL B w w') : RowRw w' g R := hk.row h (by decide) (by decide)
theorem RowIn.keepL {B : Nat} {w w' : World} {g : Nat} {R : List Int} (h : RowIn w g R) (hk : KeepL B w w') : RowIn w' g R := hk.row h (by decide) (by decide)
theorem RowRw.below {w w' : World} {g : Nat} {R : List RW} (h : RowRw w g R) (hb : Below w.heap.size w w') : RowRw w' g R := row_below h hb
theorem RowIn.below {w w' : World} {g : Nat} {R : List Int} (h : RowIn w g R) (hb : Below w.heap.size w w') : RowIn w' g R := row_below h hb
theorem RowIn.cell {w : World} {g : Nat} {P : List Int} (h : RowIn w g P) {k : Nat} {v : Int} (hk : P[k]? = some v) : w.cell? ⟨g, k, none⟩ = some (.int .i64 v) := row_cell h k (by simp [hk])
theorem RowIn.set {w : World} {g : Nat} {P : List Int} (h : RowIn w g P) (k : Nat) (v : Int) : RowIn (w.setCell ⟨g, k, none⟩ (.int .i64 v)) g (P.set k v) := by
  have h1 := heap_set3 h k (.int .i64 v)
  unfold RowIn
  rw [h1, List.map_set]
  simp
theorem RowRw.ss {w : World} {g : Nat} {R : List RW} (h : RowRw w g R) : Rs w (some ⟨g, 0, none⟩) R.length R := by
  refine ⟨rfl, fun hn => ⟨g, 0, rfl, row_lt h, fun i hi j hj => ?_⟩⟩
  rw [Nat.zero_add]
  have hc := flat_at RW.cells_length R i hi j hj
  have hlt : j < (RW.cells R[i]).length := by rw [RW.cells_length]; exact hj
  rw [List.getElem?_eq_getElem hlt] at hc ⊢
  exact row_cell h (i * 4 + j) (by simpa using hc)
theorem RowRw.setA {w : World} {g : Nat} {R : List RW} (h : RowRw w g R) (i : Nat) (hi : i < R.length) (v : Int) : RowRw (w.setCell ⟨g, i * 4 + 2, none⟩ (.int .i64 v)) g (R.set i { R[i] with a := v }) := by
  have h1 := heap_set3 h (i * 4 + 2) (.int .i64 v)
  have h2 := flat_set RW.cells_length R i 2 { R[i] with a := v } (.int .i64 v) hi (by omega) rfl
  unfold RowRw
  rw [h1, ← h2]
  simp
theorem RowRw.cellA {w : World} {g : Nat} {R : List RW} (h : RowRw w g R) (i : Nat) (hi : i < R.length) : w.cell? ⟨g, i * 4 + 2, none⟩ = some (.int .i64 R[i].a) := by
  have hc := flat_at RW.cells_length R i hi 2 (by omega)
  exact row_cell h (i * 4 + 2) (by simpa [RW.cells] using hc)
theorem below_setRow {B : Nat} {w : World} {g : Nat} (h : B ≤ g) (cs : Array Value) : Below B w (w.setRow g cs) :=
  ⟨rfl, rfl, rfl, by simp [World.setRow], fun k hk => setRow_other w g k cs (by omega)⟩
theorem keptT_setRow {w : World} {g : Nat} {cs cs' : Array Value} {t : TypeId} {fr : Nat × Nat} (h : w.heap[g]? = some (.cells cs t fr)) : KeptT t w (w.setRow g cs') := by
  refine ⟨by simp [World.setRow], fun k cs2 t2 fr2 hk hne => ?_⟩
  rw [setRow_other w g k cs' (by
    rintro rfl
    rw [h] at hk
    cases hk
    exact hne rfl)]
  exact hk
theorem LoS.setR {w : World} {B g : Nat} {s : LW} {h9 : Nat} {cs : Array Value} {t : TypeId} {fr : Nat × Nat} (h : LoS w B g s) (hx : w.heap[h9]? = some (.cells cs t fr)) (h1 : t ≠ ConT) (h2 : t ≠ LowT) (h0 : 0 < h9) (cs' : Array Value) : LoS (w.setRow h9 cs') B g s := by
  obtain ⟨a, cap, b, h⟩ := h
  have hkt := keptT_setRow (cs' := cs') hx
  have hne : b ≠ h9 := by
    rintro rfl
    obtain ⟨es, cl, hm⟩ := h.m.obj
    rw [hm] at hx
    cases hx
  have hgr : w.grownBy (w.setRow h9 cs') (some h9) := ⟨rfl, rfl, rfl, by simp [World.setRow], fun k _ hk => setRow_other w h9 k cs' (fun e => hk (by rw [e]))⟩
  refine ⟨a, cap, b, ⟨hkt.2 _ _ _ _ h.k (Ne.symm h2), own_keptT h.o hkt (Ne.symm h1), h.m.kept hgr (by simpa using hne), h.bB, h.gB, h.B0, ?_⟩⟩
  obtain ⟨m, hm⟩ := h.vw
  refine ⟨m, ?_⟩
  rw [← hm]
  unfold World.cell?
  rw [setRow_other w h9 0 cs' (by omega)]
theorem infoRaw : (Tryz.prog.info? RawT).map (fun i => (i.zero, i.size, i.bytes)) = some (some (.agg #[.int .i64 0, .int .u8 0, .int .i64 0, .int .i64 0]), 4, 32) := by kernel_rfl
theorem infoInt : (Tryz.prog.info? 3).map (fun i => (i.zero, i.size, i.bytes)) = some (some (.int .i64 0), 1, 8) := by kernel_rfl
theorem made_raws (n : Nat) : madeCells (Value.agg #[.int .i64 0, .int .u8 0, .int .i64 0, .int .i64 0]).cells (n * 4) = ((List.replicate n rz).flatMap RW.cells).toArray := by
  apply Array.ext
  · rw [size_madeCells, List.size_toArray, flat_len RW.cells_length, List.length_replicate]
  · intro i h1 h2
    rw [size_madeCells] at h1
    have hi : i / 4 < (List.replicate n rz).length := by rw [List.length_replicate]; omega
    have hc := flat_at RW.cells_length (List.replicate n rz) (i / 4) hi (i % 4) (by omega)
    rw [show i / 4 * 4 + i % 4 = i by omega, List.getElem_replicate] at hc
    have h3 : ((List.replicate n rz).flatMap RW.cells).toArray[i] = ((List.replicate n rz).flatMap RW.cells)[i]'(by simpa using h2) := by simp
    rw [h3]
    have h4 := List.getElem?_eq_getElem (l := (List.replicate n rz).flatMap RW.cells) (i := i) (by simpa using h2)
    rw [hc] at h4
    have h5 : (madeCells (Value.agg #[.int .i64 0, .int .u8 0, .int .i64 0, .int .i64 0]).cells (n * 4))[i]'(by rw [size_madeCells]; exact h1) = (#[Value.int .i64 0, .int .u8 0, .int .i64 0, .int .i64 0])[i % 4]! := by
      simp [madeCells, Value.cells]
    rw [h5]
    have h6 : i % 4 = 0 ∨ i % 4 = 1 ∨ i % 4 = 2 ∨ i % 4 = 3 := by omega
    have h7 : (RW.cells rz)[i % 4]? = some ((#[Value.int .i64 0, .int .u8 0, .int .i64 0, .int .i64 0])[i % 4]!) := by
      rcases h6 with h | h | h | h <;> rw [h] <;> rfl
    rw [h7] at h4
    exact Option.some.inj h4
theorem made_ints (n : Nat) : madeCells (Value.int .i64 0).cells n = ((List.replicate n (0 : Int)).map (Value.int .i64)).toArray := by
  apply Array.ext
  · simp [madeCells]
  · intro i h1 h2
    simp [madeCells, Value.cells, Nat.mod_one]
theorem make_raws (w : World) (n : Nat) (h : n ≤ 1048576) : (Instr.makeSlice 112 (.int .i64 n) (.int .i64 n)).run Tryz.prog w = .ok (.slice (some ⟨w.heap.size, 0, none⟩) n n) (w.alloc (.cells ((List.replicate n rz).flatMap RW.cells).toArray RawT)) := by
  obtain ⟨i, hi, hz0, hz1, hz2⟩ := info_parts infoRaw
  have hr := run_makeSlice (P := Tryz.prog) (w := w) 112 RawT i _ Tryz.underlying112 hi hz0 .i64 .i64 n n (by omega) (Int.le_refl _) (by rw [hz1]; omega) (by rw [hz2]; omega) (by omega)
  rw [hz1] at hr
  simp only [Int.toNat_natCast] at hr
  rw [made_raws] at hr
  exact hr
theorem make_places (w : World) (n : Nat) (h : n ≤ 1048576) : (Instr.makeSlice 138 (.int .i64 ((n : Int) + 1)) (.int .i64 ((n : Int) + 1))).run Tryz.prog w = .ok (.slice (some ⟨w.heap.size, 0, none⟩) (n + 1) (n + 1)) (w.alloc (.cells ((List.replicate (n + 1) (0 : Int)).map (Value.int .i64)).toArray 3)) := by
  obtain ⟨i, hi, hz0, hz1, hz2⟩ := info_parts infoInt
  have hr := run_makeSlice (P := Tryz.prog) (w := w) 138 3 i (.int .i64 0) Tryz.underlying138 hi hz0 .i64 .i64 ((n + 1 : Nat) : Int) ((n + 1 : Nat) : Int) (by omega) (Int.le_refl _) (by rw [hz1]; omega) (by rw [hz2]; omega) (by omega)
  rw [hz1] at hr
  simp only [Int.toNat_natCast, Nat.mul_one] at hr
  rw [made_ints] at hr
  rw [show ((n : Int) + 1) = ((n + 1 : Nat) : Int) by omega]
  exact hr
theorem wpList_store_part {P : Program} {ops : Array Oper} {rest : List Oper} {op : Oper} {a : Act} {w : World} {Q : Exit → Act → World → Prop} (hgd : op.guard = none) (ty : TypeId) (x y : Operand) (ho : op.op = .store ty x y)
    (b o : Nat) (cells : Array Value) (hx : a.eval x = .pointer (some ⟨b, o, none⟩)) (hy : a.eval y = .agg cells) (cur : Array Value) (t : TypeId)
    (hg : w.heap[b]? = some (.cells cur t (0, 0))) (hle : o + cells.size ≤ cur.size) (hi : (P.info? ty).map (·.size) = some cells.size) (h1 : cells.all (·.oneCell') = true)
    (h : wpList P ops Q rest (a.put op.dst undef) (w.setRow b (cur.toList.take o ++ cells.toList ++ cur.toList.drop (o + cells.size)).toArray)) : wpList P ops Q (op :: rest) a w := by
  refine wpList_plain hgd fun K hK => ?_
  have hrun : (storeVar ty ⟨b, o, none⟩ (.agg cells)).run P w = .ok () (w.setRow b (cur.toList.take o ++ cells.toList ++ cur.toList.drop (o + cells.size)).toArray) := by
    have := run_storeCells_at (P := P) b o t cells.toList 0 cur w hg (by simpa using hle) (fun v hv => (Array.all_eq_true_iff_forall_mem.1 h1) v (by simpa using hv))
    cases hq : P.info? ty with
    | none => simp [hq] at hi
    | some i =>
      have hs : cells.size = i.size := by simp [hq] at hi; omega
      simp only [Nat.add_zero, Array.length_toList] at this
      simp [storeVar, sizeOf, typeInfo, hq, Value.cells, hs, Sem.run_bind] at this ⊢
      exact this
  unfold Oper.wp execOp
  simp only [ho, hx, hy, Instr.storeAt, Instr.sureAddr, Sem.run_bind, Sem.run_pure, Result.andThen_ok, hrun]
  exact hK _ _ h
theorem RowRw.setR {w : World} {g : Nat} {R : List RW} (h : RowRw w g R) (j : Nat) (hj : j < R.length) (r : RW) :
    RowRw (w.setRow g (((R.flatMap RW.cells).toArray).toList.take (j * 4) ++ (RW.cells r).toArray.toList ++ ((R.flatMap RW.cells).toArray).toList.drop (j * 4 + (RW.cells r).toArray.size)).toArray) g (R.set j r) := by
  have h1 := setRow_heap w g _ (((R.flatMap RW.cells).toArray).toList.take (j * 4) ++ (RW.cells r).toArray.toList ++ ((R.flatMap RW.cells).toArray).toList.drop (j * 4 + (RW.cells r).toArray.size)).toArray _ _ h
  have h2 := flat_block RW.cells_length R j r hj
  unfold RowRw
  rw [h1, ← h2]
  rfl
end Go.Proofs.YtclpkipaehpkdaaGreatDoor

