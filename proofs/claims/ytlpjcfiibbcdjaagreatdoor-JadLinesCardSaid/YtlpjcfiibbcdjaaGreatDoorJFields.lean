/- The map of what each line sets. No condition. -/
import Derived.Test.YtlpjcfiibbcdjaaGreatDoorJSet
import Derived.Maps.OwnSet
import Derived.Maps.OwnOps
namespace Go.Proofs.YtlpjcfiibbcdjaaGreatDoor
open Go.ChangeShapes Go.WideShapes Go.ChangeAt Go.RowKit
open Go.Maps (Keyed string_keyed)
abbrev DU := DataW Unit
/-- The lines' names, with the blank. -/
def keyT (i : Nat) : List UInt8 :=
  if i = 0 then [78, 97, 109, 101, 58, 32] else if i = 1 then [86, 101, 114, 115, 105, 111, 110, 58, 32] else if i = 2 then [77, 97, 105, 110, 58, 32] else if i = 3 then [83, 105, 122, 101, 58, 32] else [72, 97, 115, 104, 58, 32]
def setF (i : Nat) : Nat := if i = 0 then 47 else if i = 1 then 48 else if i = 2 then 49 else if i = 3 then 50 else 51
def funV (gp i : Nat) : Value := .func (.func (setF i)) #[] #[.pointer (some ⟨gp, 0, none⟩)]
def numF (n : Nat) : Option Nat := if n = 47 then some 0 else if n = 48 then some 1 else if n = 49 then some 2 else if n = 50 then some 3 else if n = 51 then some 4 else none
def ptrIs (gp : Nat) : List Value → Bool
  | [.pointer (some a)] => decide (a = ⟨gp, 0, none⟩)
  | _ => false
theorem ptrIs_inv {gp : Nat} {l : List Value} (h : ptrIs gp l = true) : l = [.pointer (some ⟨gp, 0, none⟩)] := by
  unfold ptrIs at h
  split at h
  · rw [of_decide_eq_true h]
  · cases h
/-- How a func value reads: by its number. -/
def RF (gp : Nat) (v : Value) : Option (DU × List MemPlace) :=
  match v with
  | .nilFunc => some (.lit (.int .i64 5), [])
  | .func (.func n) a c => if a.isEmpty && ptrIs gp c.toList then (numF n).map fun (i : Nat) => (.lit (.int .i64 (i : Int)), []) else none
  | _ => none
theorem RF_fun (gp i : Nat) (h : i < 5) : RF gp (funV gp i) = some (.lit (.int .i64 (i : Int)), []) := by
  have : i = 0 ∨ i = 1 ∨ i = 2 ∨ i = 3 ∨ i = 4 := by omega
  rcases this with rfl | rfl | rfl | rfl | rfl <;> simp [RF, funV, setF, numF, ptrIs]
theorem numF_inv {n i : Nat} (h : numF n = some i) : i < 5 ∧ n = setF i := by
  unfold numF at h
  repeat' split at h
  all_goals first | (cases h; done) | skip
  all_goals (rename_i hm; cases h; exact ⟨by omega, hm⟩)
theorem RF_inv {gp : Nat} {v : Value} {n : Int} {ps : List MemPlace} (h : RF gp v = some (.lit (.int .i64 n), ps)) : (n = 5 ∧ v = .nilFunc) ∨ ∃ i : Nat, i < 5 ∧ n = i ∧ v = funV gp i := by
  unfold RF at h
  split at h
  · cases h; exact .inl ⟨rfl, rfl⟩
  · next m a c =>
    split at h
    · next hc =>
      right
      simp only [Bool.and_eq_true, Array.isEmpty_iff] at hc
      cases hm : numF m with
      | none => rw [hm] at h; cases h
      | some i =>
        rw [hm] at h
        cases h
        obtain ⟨hi, rfl⟩ := numF_inv hm
        refine ⟨i, hi, rfl, ?_⟩
        have e := ptrIs_inv hc.2
        have e2 : c = #[.pointer (some ⟨gp, 0, none⟩)] := by rw [← Array.toArray_toList (xs := c), e]
        rw [hc.1, e2]
        rfl
    · cases h
  · cases h
def klT (i : Nat) : Lit := .string (keyT i)
theorem klT_ne {i k : Nat} (hi : i < 5) (hk : k < 5) (h : i ≠ k) : klT i ≠ klT k := by
  have h1 : i = 0 ∨ i = 1 ∨ i = 2 ∨ i = 3 ∨ i = 4 := by omega
  have h2 : k = 0 ∨ k = 1 ∨ k = 2 ∨ k = 3 ∨ k = 4 := by omega
  rcases h1 with rfl | rfl | rfl | rfl | rfl <;> rcases h2 with rfl | rfl | rfl | rfl | rfl <;> first | exact absurd rfl h | (intro e; simp [klT, keyT] at e)
theorem klT_key (i : Nat) : WideAt.IsKeyLit (klT i) := trivial
/-- The map holds what L says. -/
def MapN (w : World) (gm gp n : Nat) (L : List Nat) : Prop :=
  L.Nodup ∧ (∀ i ∈ L, i < 5) ∧ ∃ D : DU, w.ownsMap Tryz.prog 9 (RF gp) gm n D ∧ Maps.size D = L.length ∧ ∀ i, i < 5 → D.atKey (klT i) (.lit (.int .i64 5)) = .lit (.int .i64 (if i ∈ L then (i : Int) else 5)) ∧ Maps.has D (klT i) = decide (i ∈ L)
theorem MapN.kept {w w' : World} {gm gp n : Nat} {L : List Nat} {row : Option Nat} (h : MapN w gm gp n L) (hg : w.grownBy w' row) (hne : some gm ≠ row) : MapN w' gm gp n L := by
  obtain ⟨h0, h1, D, h2, h3, h4⟩ := h
  exact ⟨h0, h1, D, h2.kept hg hne, h3, h4⟩
theorem MapN.lt {w : World} {gm gp n : Nat} {L : List Nat} (h : MapN w gm gp n L) : gm < w.heap.size := by
  obtain ⟨_, _, D, h2, _⟩ := h
  exact h2.lt
theorem str_keys : Keyed Tryz.prog 9 := string_keyed Tryz.underlying9
theorem key_of (i : Nat) : keyOf Tryz.prog 9 (.string ⟨(keyT i).toArray⟩) = some (klT i) := by
  have hl : (keyT i).length ≤ 9 := by unfold keyT; (repeat' split) <;> simp
  have h := WideMaps.keyOf_string_mk (P := Tryz.prog) (k := 9) Tryz.underlying9 (s := ⟨(keyT i).toArray⟩) (by simp [ByteArray.size]; unfold maxLen; omega)
  rw [h]
  rfl
theorem zero_fun (w : World) : (zeroValue 48).run Tryz.prog w = .ok .nilFunc w := by
  first | exact Tryz.zeroValue48 w | kernel_rfl
theorem MapN.get {w : World} {gm gp n : Nat} {L : List Nat} (h : MapN w gm gp n L) {i : Nat} (hi : i < 5) :
    (Instr.lookup 52 (.map (some gm)) (.string ⟨(keyT i).toArray⟩) false).run Tryz.prog w = .ok (if i ∈ L then funV gp i else .nilFunc) w := by
  obtain ⟨h0, h1, D, h2, h3, h4⟩ := h
  obtain ⟨v, ps, hrun, hv⟩ := h2.lookup str_keys Tryz.underlying52 (zero_fun w) (zd := .lit (.int .i64 5)) (zp := []) rfl (key_of i)
  rw [(h4 i hi).1] at hv
  rw [hrun]
  rcases RF_inv hv with ⟨e, rfl⟩ | ⟨k, hk, e, rfl⟩
  · by_cases hL : i ∈ L
    · rw [if_pos hL] at e; omega
    · rw [if_neg hL]
  · by_cases hL : i ∈ L
    · rw [if_pos hL] at e
      obtain rfl : i = k := by omega
      rw [if_pos hL]
    · rw [if_neg hL] at e; omega
theorem MapN.put {w : World} {gm gp n : Nat} {L : List Nat} (h : MapN w gm gp n L) {i : Nat} (hi : i < 5) (hL : i ∉ L) (hn : n < 100) :
    ∃ w', (Instr.mapUpdate 52 (.map (some gm)) (.string ⟨(keyT i).toArray⟩) (funV gp i)).run Tryz.prog w = .ok () w' ∧ MapN w' gm gp (n + 1) (i :: L) ∧ w.grownBy w' (some gm) := by
  obtain ⟨h0, h1, D, h2, h3, h4⟩ := h
  have htd := h2.tidy str_keys
  obtain ⟨w', hrun, ho, hg⟩ := h2.update str_keys Tryz.underlying52 (by unfold maxLen; omega) (key_of i) (RF_fun gp i hi)
  refine ⟨w', hrun, ⟨List.nodup_cons.2 ⟨hL, h0⟩, fun k hk => ?_, _, ho, ?_, fun k hk => ?_⟩, hg⟩
  · rcases List.mem_cons.1 hk with rfl | hk
    · exact hi
    · exact h1 k hk
  · have hno : Maps.has D (klT i) = false := by
      rw [(h4 i hi).2]
      simp [hL]
    rw [Maps.size_put htd, hno]
    simp [h3]
  · by_cases e : k = i
    · subst e
      rw [Maps.atKey_put_same htd.isMap (klT_key k), Maps.has_put_same htd.isMap (klT_key k)]
      simp
    · rw [Maps.atKey_put_other (klT_ne hk hi e), Maps.has_put_other (klT_ne hk hi e), (h4 k hk).1, (h4 k hk).2]
      simp [e]
theorem MapN.made (w : World) (gp : Nat) : MapN (w.alloc (.map #[] 0)) w.heap.size gp 0 [] :=
  ⟨List.nodup_nil, fun i h => by simp at h, .map [], World.ownsMap_made w _ _ _, rfl, fun i hi => ⟨rfl, rfl⟩⟩
theorem MapN.del {w' : World} {gm gp n : Nat} {L : List Nat} {i : Nat} {D : DU} (h0 : L.Nodup) (h1 : ∀ i ∈ L, i < 5) (htd : Maps.Tidy D) (h3 : Maps.size D = L.length) (h4 : ∀ i, i < 5 → D.atKey (klT i) (.lit (.int .i64 5)) = .lit (.int .i64 (if i ∈ L then (i : Int) else 5)) ∧ Maps.has D (klT i) = decide (i ∈ L)) (hi : i ∈ L)
    (ho : w'.ownsMap Tryz.prog 9 (RF gp) gm n (D.del (klT i))) : MapN w' gm gp n (L.erase i) := by
  refine ⟨h0.erase i, fun k hk => h1 k (List.mem_of_mem_erase hk), _, ho, ?_, fun k hk => ?_⟩
  · have := Maps.size_del (k := klT i) htd
    rw [(h4 i (h1 i hi)).2, decide_eq_true hi, if_pos rfl, h3] at this
    rw [List.length_erase_of_mem hi]
    omega
  · by_cases e : k = i
    · subst e
      rw [Maps.atKey_del_same, Maps.has_del_same]
      simp [h0.mem_erase_iff]
    · rw [Maps.atKey_del_other (klT_ne hk (h1 i hi) e), Maps.has_del_other (klT_ne hk (h1 i hi) e), (h4 k hk).1, (h4 k hk).2]
      simp [h0.mem_erase_iff, e]
set_option maxRecDepth 100000 in
set_option maxHeartbeats 4000000 in
theorem fields_any (w : World) (gj : Nat) :
    Calls Tryz.prog 27 #[.pointer (some ⟨gj, 0, none⟩)] w fun e w' => ∃ gm gp, e = .returned (.map (some gm)) ∧ w.heap.size ≤ gm ∧ w.heap.size ≤ gp ∧ gm ≠ gp ∧ MapN w' gm gp 5 [4, 3, 2, 1, 0] ∧ w'.cell? ⟨gp, 0, none⟩ = some (.pointer (some ⟨gj, 0, none⟩)) ∧ Below w.heap.size w w' := by
  have hmm := @run_makeMap Tryz.prog
  have hb1 : Below w.heap.size w (w.alloc (.cells #[.pointer (some ⟨gj, 0, none⟩)] 54)) := (Below.refl _ _).alloc (Nat.le_refl _) _
  have hc1 : (w.alloc (.cells #[.pointer (some ⟨gj, 0, none⟩)] 54)).cell? ⟨w.heap.size, 0, none⟩ = some (.pointer (some ⟨gj, 0, none⟩)) := by rw [cell_of_row _ w.heap.size 0 _ _ _ (heap_alloc_last w _)]; rfl
  have hz1 : (w.alloc (.cells #[.pointer (some ⟨gj, 0, none⟩)] 54)).heap.size = w.heap.size + 1 := by simp
  have HB1 := Lib.hid hb1
  have HC1 := Lib.hid hc1
  have HZ1 := Lib.hid hz1
  clear hb1 hc1 hz1
  go_enter Tryz.func27, Tryz.ntmps27
  go_upto_region 1 with fail
  generalize w.alloc (.cells #[.pointer (some ⟨gj, 0, none⟩)] 54) = w1 at *
  have m2 := MapN.made w1 w.heap.size
  have b2 : Below w1.heap.size w1 (w1.alloc (.map #[] 0)) := (Below.refl _ _).alloc (Nat.le_refl _) _
  obtain ⟨w2, hw2⟩ : ∃ w2, w2 = w1.alloc (.map #[] 0) := ⟨_, rfl⟩
  rw [← hw2] at m2 b2
  obtain ⟨gm, hgm⟩ : ∃ gm, gm = w1.heap.size := ⟨_, rfl⟩
  rw [← hgm] at m2
  obtain ⟨w3, r3, m3, g3⟩ := m2.put (i := 0) (by decide) (by simp) (by omega)
  obtain ⟨w4, r4, m4, g4⟩ := m3.put (i := 1) (by decide) (by simp) (by omega)
  obtain ⟨w5, r5, m5, g5⟩ := m4.put (i := 2) (by decide) (by simp) (by omega)
  obtain ⟨w6, r6, m6, g6⟩ := m5.put (i := 3) (by decide) (by simp) (by omega)
  obtain ⟨w7, r7, m7, g7⟩ := m6.put (i := 4) (by decide) (by simp) (by omega)
  have g37 := (((g3.trans g4).trans g5).trans g6).trans g7
  have hmk := hmm 52 w1
  rw [← hw2, ← hgm] at hmk
  have HM7 := Lib.hid m7
  have HB7 := Lib.hid (show Below w.heap.size w w7 from (HB1.out.trans (b2.mono (by rw [HZ1.out]; omega))).grown g37 (by have := m2.lt; have := HZ1.out; omega) (fun k hk => by have := Option.some.inj hk; rw [← this, hgm, HZ1.out]; omega))
  have HC7 := Lib.hid (show w7.cell? ⟨w.heap.size, 0, none⟩ = some (.pointer (some ⟨gj, 0, none⟩)) by
    rw [World.cell?_of_block (g37.block w.heap.size (by have := m2.lt; have := HZ1.out; omega) (by rw [hgm, HZ1.out]; intro h; have := Option.some.inj h; omega))]
    exact cell_below HC1.out b2)
  have HGM := Lib.hid (show gm = w.heap.size + 1 by rw [hgm, HZ1.out])
  clear m2 m3 m4 m5 m6 m7 g3 g4 g5 g6 g7 g37 b2 hmm hw2 hgm
  replace r3 : (Instr.mapUpdate 52 (.map (some gm)) (.string ⟨#[78, 97, 109, 101, 58, 32]⟩) (.func (.func 47) #[] #[.pointer (some ⟨w.heap.size, 0, none⟩)])).run Tryz.prog w2 = .ok () w3 := r3
  replace r4 : (Instr.mapUpdate 52 (.map (some gm)) (.string ⟨#[86, 101, 114, 115, 105, 111, 110, 58, 32]⟩) (.func (.func 48) #[] #[.pointer (some ⟨w.heap.size, 0, none⟩)])).run Tryz.prog w3 = .ok () w4 := r4
  replace r5 : (Instr.mapUpdate 52 (.map (some gm)) (.string ⟨#[77, 97, 105, 110, 58, 32]⟩) (.func (.func 49) #[] #[.pointer (some ⟨w.heap.size, 0, none⟩)])).run Tryz.prog w4 = .ok () w5 := r5
  replace r6 : (Instr.mapUpdate 52 (.map (some gm)) (.string ⟨#[83, 105, 122, 101, 58, 32]⟩) (.func (.func 50) #[] #[.pointer (some ⟨w.heap.size, 0, none⟩)])).run Tryz.prog w5 = .ok () w6 := r6
  replace r7 : (Instr.mapUpdate 52 (.map (some gm)) (.string ⟨#[72, 97, 115, 104, 58, 32]⟩) (.func (.func 51) #[] #[.pointer (some ⟨w.heap.size, 0, none⟩)])).run Tryz.prog w6 = .ok () w7 := r7
  go_wp2_with fail
  go_ret
  exact ⟨gm, w.heap.size, rfl, by rw [HGM.out]; omega, Nat.le_refl _, by rw [HGM.out]; omega, HM7.out, HC7.out, HB7.out⟩
end Go.Proofs.YtlpjcfiibbcdjaaGreatDoor
