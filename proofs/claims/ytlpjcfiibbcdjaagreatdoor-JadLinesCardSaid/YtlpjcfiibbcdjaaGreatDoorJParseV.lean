/- jad.ParseVersion. No condition. -/
import Derived.Test.YtlpjcfiibbcdjaaGreatDoorJNumPlain
import Derived.Test.YtlpjcfiibbcdjaaGreatDoorJWord
import Derived.Test.YtlpjcfiibbcdjaaGreatDoorJHex
namespace Go.Proofs.YtlpjcfiibbcdjaaGreatDoor
open Go.ChangeShapes Go.WideShapes Go.ChangeAt Go.RowKit
def encI (x : Int) : Value := .int .i64 x
def pvOk (s : List UInt8) : Bool := decide ((sp 46 s).length = 3) && (sp 46 s).all fun p => numOk p 99
def pvV (s : List UInt8) : List Int := if pvOk s then (sp 46 s).map atoiV else [0, 0, 0]
def pvE (s : List UInt8) : Int := if pvOk s then 0 else 8
theorem info_ver : (Tryz.prog.info? 23).map (·.size) = some 3 := by kernel_rfl
theorem pvV_len (s : List UInt8) : (pvV s).length = 3 := by
  unfold pvV
  split
  · next h => unfold pvOk at h; simp only [Bool.and_eq_true, decide_eq_true_eq] at h; rw [List.length_map]; exact h.1
  · rfl
/-- The version as far as it is laid. -/
def OutV (w : World) (g : Nat) (V : List Int) (k : Nat) : Prop := w.heap[g]? = some (.cells ((V.take k ++ List.replicate (3 - k) 0).map encI).toArray 23 (0, 0))
theorem OutV.at {w : World} {g : Nat} {V : List Int} {k : Nat} (h : OutV w g V k) (hl : V.length = 3) (hk : k < 3) : w.cell? ⟨g, k, none⟩ = some (.int .i64 0) ∧ w.frozen? ⟨g, k, none⟩ = false := by
  constructor
  · rw [cell_of_row w g k _ _ _ h, List.getElem?_toArray, List.getElem?_map, List.getElem?_append_right (by simp; omega), List.getElem?_replicate, if_pos (by simp; omega)]
    rfl
  · unfold World.frozen?
    unfold OutV at h
    rw [h]
    rfl
theorem OutV.put {w : World} {g : Nat} {V : List Int} {k : Nat} (h : OutV w g V k) (hl : V.length = 3) (hk : k < 3) {x : Int} (hx : x = V[k]'(by omega)) : OutV (w.setCell ⟨g, k, none⟩ (.int .i64 x)) g V (k + 1) := by
  unfold OutV at h ⊢
  unfold World.setCell
  simp only [Array.getElem?_modify, h, Option.map_some, if_true]
  congr 2
  have hlt : (V.take k).length = k := by rw [List.length_take]; omega
  rw [List.setIfInBounds_toArray, List.map_append, List.set_append_right _ _ (by rw [List.length_map, hlt]; exact Nat.le_refl _), List.length_map, hlt, Nat.sub_self, show 3 - k = (3 - (k + 1)) + 1 by omega, List.replicate_succ, List.map_cons, List.set_cons_zero]
  rw [List.take_succ_eq_append_getElem (by omega), List.map_append, List.map_append, hx]
  simp [encI]
theorem OutV.below {w w' : World} {g : Nat} {V : List Int} {k : Nat} (h : OutV w g V k) (hb : Below w.heap.size w w') : OutV w' g V k := by
  unfold OutV at h ⊢
  rw [hb.block g (Array.getElem?_eq_some_iff.1 h).1]; exact h
theorem OutV.lt {w : World} {g : Nat} {V : List Int} {k : Nat} (h : OutV w g V k) : g < w.heap.size := (Array.getElem?_eq_some_iff.1 h).1
theorem all_bad {s : List UInt8} {k : Nat} (h : k < (sp 46 s).length) (hn : numOk ((sp 46 s)[k]) 99 = false) : pvOk s = false := by
  unfold pvOk
  rw [Bool.and_eq_false_iff]
  right
  rw [List.all_eq_false]
  exact ⟨_, List.getElem_mem h, by rw [hn]; decide⟩
theorem all_good {s : List UInt8} (h3 : (sp 46 s).length = 3) (h : ∀ k (h : k < (sp 46 s).length), numOk ((sp 46 s)[k]) 99 = true) : pvOk s = true := by
  unfold pvOk
  rw [decide_eq_true h3, Bool.true_and, List.all_eq_true]
  intro x hx
  obtain ⟨k, hk, rfl⟩ := List.getElem_of_mem hx
  exact h k hk
set_option maxHeartbeats 4000000 in
set_option maxRecDepth 100000 in
theorem ParseV_any (w : World) (s : List UInt8) (hs : s.length ≤ 4294967000) (hv : VW w) :
    Calls Tryz.prog 12 #[.string ⟨s.toArray⟩] w fun e w' => e = .returned (.tuple #[.agg ((pvV s).map encI).toArray, .int .i64 (pvE s)]) ∧ Below w.heap.size w w' := by
  have h1 : Below w.heap.size w (w.alloc (.cells (([0, 0, 0] : List Int).map encI).toArray 23)) := (Below.refl _ _).alloc (Nat.le_refl _) _
  have h2 : ZB (w.alloc (.cells (([0, 0, 0] : List Int).map encI).toArray 23)) w.heap.size 3 23 := ⟨_, rfl, heap_alloc_last w _⟩
  have HB1 := Lib.hid h1
  have HZ1 := Lib.hid h2
  have HV1 := Lib.hid (hv.below h1)
  have HV0 := Lib.hid hv
  clear h1 h2 hv
  go_enter Tryz.func12, Tryz.ntmps12
  go_upto_region 1 with fail
  change Code.wp _ _ _ _ (w.alloc (.cells (([0, 0, 0] : List Int).map encI).toArray 23))
  generalize w.alloc (.cells (([0, 0, 0] : List Int).map encI).toArray 23) = w1 at *
  go_upto_region 2 with fail
  have h3 : Below w1.heap.size w1 (w1.alloc (.cells (([0, 0, 0] : List Int).map encI).toArray 23)) := (Below.refl _ _).alloc (Nat.le_refl _) _
  have h4 : ∀ V, OutV (w1.alloc (.cells (([0, 0, 0] : List Int).map encI).toArray 23)) w1.heap.size V 0 := fun V => heap_alloc_last w1 _
  change Code.wp _ _ _ _ (w1.alloc (.cells (([0, 0, 0] : List Int).map encI).toArray 23))
  obtain ⟨B, hB⟩ : ∃ B, w.heap.size = B := ⟨_, rfl⟩
  rw [hB] at HB1 HZ1 ⊢
  have HBE := Lib.hid hB
  have hgB : B < w1.heap.size := HZ1.out.lt
  have HB2 := Lib.hid (HB1.out.trans (h3.mono (by omega)))
  have HZ2 := Lib.hid (HZ1.out.below h3)
  have HO2 := Lib.hid h4
  have HV2 := Lib.hid (HV1.out.below h3)
  clear h3 h4 hB HB1 HZ1 HV1
  generalize w1.alloc (.cells (([0, 0, 0] : List Int).map encI).toArray 23) = w2 at *
  generalize w1.heap.size = go at *
  have HS := Lib.hid (Split_any w2 s 46 hs HV2.out)
  obtain ⟨xs, hxs⟩ : ∃ xs, xs = sp 46 s := ⟨_, rfl⟩
  have hxl : ∀ x ∈ xs, x.length ≤ 4294967000 := fun x hx => Nat.le_trans (sp_len_mem 46 s x (by rw [← hxs]; exact hx)) hs
  rw [← hxs] at HS
  have HXS := Lib.hid hxs
  have HXL := Lib.hid hxl
  have hxn : xs.length ≤ 4294967001 := by rw [hxs]; exact Nat.le_trans (sp_length 46 s) (by omega)
  clear hxs hxl hs
  go_wp2_with fail
  refine HS.out.mono ?_
  rintro e w3 ⟨rfl, hw3⟩
  have hb3 : Below w2.heap.size w2 w3 := by rw [hw3]; exact (Below.refl _ _).alloc (Nat.le_refl _) _
  have hrow3 : w3.heap[w2.heap.size]? = some (.cells (xs.map fun x => Value.string ⟨x.toArray⟩).toArray 9 (0, 0)) := by rw [hw3]; exact heap_alloc_last w2 _
  have HR3 := Lib.hid hrow3
  have HZ3 := Lib.hid (HZ2.out.below hb3)
  have HO3 := Lib.hid (fun V => (HO2.out V).below hb3)
  have HV3 := Lib.hid (HV2.out.below hb3)
  have HB3 := Lib.hid ((HBE.out ▸ HB2.out : Below B w w2).trans (hb3.mono (by have := HZ2.out.lt; omega)))
  have hg23 : go < w2.heap.size := (HO2.out []).lt
  clear hb3 hrow3 hw3 HS HO2 HZ2 HV2 HB2
  generalize w2.heap.size = gs at *
  obtain ⟨n, hn⟩ : ∃ n, n = xs.length := ⟨_, rfl⟩
  rw [← hn] at hxn ⊢
  have HN := Lib.hid hn
  clear hn
  by_cases h3 : n = 3
  · subst h3
    obtain ⟨V, hV⟩ : ∃ V, V = xs.map atoiV := ⟨_, rfl⟩
    have HVL := Lib.hid (show V.length = 3 by rw [hV, List.length_map]; exact HN.out.symm)
    have HVE := Lib.hid hV
    have HO4 := Lib.hid (HO3.out V)
    clear hV HO3 hxn
    go_wp2_with fail
    go_loopg [18] 3 (fun gn i wr => ∃ k : Nat, k ≤ 3 ∧ gn = 3 - k ∧ i = .int .i64 k ∧ Hid (∀ j (h : j < xs.length), j < k → numOk xs[j] 99 = true) ∧ Hid (OutV wr go V k) ∧ Hid (ZB wr B 3 23) ∧ Hid (VW wr) ∧ Hid (wr.heap[gs]? = some (.cells (xs.map fun x => Value.string ⟨x.toArray⟩).toArray 9 (0, 0))) ∧ Hid (Below B w wr))
    case atStart => exact ⟨0, by omega, by omega, by go_num, Lib.hid (fun j hj h => by omega), HO4, HZ3, HV3, HR3, HB3⟩
    case round =>
      clear HO4 HZ3 HV3 HR3 HB3
      obtain ⟨k, hk, rfl, rfl, HG, HO, HZ, HV, HR, HB⟩ := hrel
      by_cases hlt : k < 3
      · have k1 : (k : Int) < 3 := by omega
        have hkx : k < xs.length := by rw [← HN.out]; exact hlt
        have q0 : wr.cell? ⟨gs, k, none⟩ = some (.string ⟨(xs[k]).toArray⟩) := by rw [cell_of_row _ gs k _ _ _ HR.out]; simp [hkx]
        have HNU := Lib.hid (number_any wr xs[k] 99 (HXL.out _ (List.getElem_mem hkx)) (by decide) HV.out)
        have HBD := Lib.hid (show numOk xs[k] 99 = false → pvOk s = false from fun h => by
          have h1 := hkx
          have e := HXS.out
          subst e
          exact all_bad h1 h)
        have HGD := Lib.hid (show numOk xs[k] 99 = true → ∀ j (h : j < xs.length), j < k + 1 → numOk xs[j] 99 = true from fun h j hj hj2 => by
          rcases Nat.lt_or_ge j k with h1 | h1
          · exact HG.out j hj h1
          · obtain rfl : j = k := by omega
            exact h)
        have hvk : atoiV xs[k] = V[k]'(by rw [HVL.out]; exact hlt) := by
          have e := HVE.out
          subst e
          rw [List.getElem_map]
        have HVK := Lib.hid hvk
        generalize xs[k] = p at *
        generalize atoiV p = v at *
        generalize numOk p 99 = ok at *
        clear hkx hvk
        go_wp2_with fail
        refine HNU.out.mono ?_
        rintro e w4 ⟨rfl, hb4⟩
        have HO4 := Lib.hid (HO.out.below hb4)
        have HZ4 := Lib.hid (HZ.out.below hb4)
        have HV4 := Lib.hid (HV.out.below hb4)
        have HR4 := Lib.hid (show w4.heap[gs]? = some (.cells (xs.map fun x => Value.string ⟨x.toArray⟩).toArray 9 (0, 0)) by rw [hb4.block gs (Array.getElem?_eq_some_iff.1 HR.out).1]; exact HR.out)
        have HB4 := Lib.hid (HB.out.trans (hb4.mono (by have := HB.out.size; have := HBE.out; omega)))
        have HSW := Lib.hid hb4.size
        clear hb4 HO HZ HV HR HB HNU
        cases ok
        · have hno := HBD.out rfl
          obtain ⟨A, hA⟩ : ∃ A, A = (([0, 0, 0] : List Int).map encI).toArray := ⟨_, rfl⟩
          have HSZ := Lib.hid (show A.size = 3 by rw [hA]; rfl)
          have HON := Lib.hid (show A.all (·.oneCell') = true by rw [hA]; simp [encI, Value.oneCell'])
          have HAE := Lib.hid (show A = ((pvV s).map encI).toArray ∧ pvE s = 8 by unfold pvV pvE; rw [hno]; exact ⟨hA, rfl⟩)
          have HA := Lib.hid hA
          obtain ⟨old, hold, hz0⟩ := HZ4.out
          have HZ0 := Lib.hid hz0
          have HOLD := Lib.hid hold
          clear hA hno hold hz0
          go_wp2_with (refine wpList_store_row rfl _ _ _ rfl _ A rfl (by rw [HA.out]; rfl) _ _ HZ0.out (by rw [HSZ.out]; exact info_ver) (by rw [HSZ.out]; exact HOLD.out) HON.out ?_)
          refine bodyPost_ret (results_cell_row_tmp rfl _ _ B _ _ _ _ rfl (setRow_heap _ _ _ _ _ _ HZ0.out) Tryz.underlying23 rfl (by rw [HSZ.out]; exact info_ver)) rfl ⟨by rw [HAE.out.1, HAE.out.2]; rfl, ?_⟩
          rw [HBE.out]
          exact below_setRow HB4.out (Nat.le_refl _) _
        · have HGN := Lib.hid (HGD.out rfl)
          have HNX := Lib.hid (HO4.out.put (x := v) HVL.out hlt HVK.out)
          have HZN := Lib.hid (HZ4.out.set (g2 := go) (o := k) (v := .int .i64 v) (by omega))
          have HBN := Lib.hid (HB4.out.setCell (p := ⟨go, k, none⟩) (show B ≤ go from Nat.le_of_lt hgB) (.int .i64 v))
          obtain ⟨c0, f0⟩ := HO4.out.at HVL.out hlt
          have HVN := Lib.hid (HV0.out.below (HBE.out.symm ▸ HBN.out))
          have HRN := Lib.hid (show (w4.setCell ⟨go, k, none⟩ (.int .i64 v)).heap[gs]? = some (.cells (xs.map fun x => Value.string ⟨x.toArray⟩).toArray 9 (0, 0)) by unfold World.setCell; simp [Array.getElem?_modify, Nat.ne_of_lt hg23, HR4.out])
          clear HO4 HZ4 HV4 HR4 HB4
          go_wp2_with fail
          go_roundg (3 - (k + 1))
          case measure => omega
          case rel => exact ⟨k + 1, by omega, rfl, by go_num, HGN, HNX, HZN, HVN, HRN, HBN⟩
      · obtain rfl : k = 3 := by omega
        have hyes : pvOk s = true := by
          have e := HXS.out
          subst e
          exact all_good HN.out.symm (fun j hj => HG.out j hj (by rw [← HN.out] at hj; exact hj))
        have hrow : wr.heap[go]? = some (.cells (V.map encI).toArray 23 (0, 0)) := by
          have h := HO.out
          unfold OutV at h
          rw [List.take_of_length_le (by rw [HVL.out]; exact Nat.le_refl _)] at h
          simpa using h
        obtain ⟨A, hA⟩ : ∃ A, A = (V.map encI).toArray := ⟨_, rfl⟩
        rw [← hA] at hrow
        have HSZ := Lib.hid (show A.size = 3 by rw [hA]; simpa using HVL.out)
        have HON := Lib.hid (show A.all (·.oneCell') = true by rw [hA]; simp [encI, Value.oneCell'])
        have HAE := Lib.hid (show A = ((pvV s).map encI).toArray ∧ pvE s = 0 by unfold pvV pvE; rw [hyes]; exact ⟨by rw [hA, HVE.out, HXS.out]; rfl, rfl⟩)
        have HROW := Lib.hid hrow
        obtain ⟨old, hold, hz0⟩ := HZ.out
        have HZ0 := Lib.hid hz0
        have HOLD := Lib.hid hold
        clear hA hyes hrow hold hz0
        go_wp2_with (first
          | (refine wpList_load_row rfl _ _ rfl _ rfl _ _ _ _ HROW.out Tryz.underlying23 rfl (by rw [HSZ.out]; exact info_ver) ?_)
          | (refine wpList_store_row rfl _ _ _ rfl _ _ rfl rfl _ _ HZ0.out (by rw [HSZ.out]; exact info_ver) (by rw [HSZ.out]; exact HOLD.out) HON.out ?_))
        refine bodyPost_ret (results_cell_row_tmp rfl _ _ B _ _ _ _ rfl (setRow_heap _ _ _ _ _ _ HZ0.out) Tryz.underlying23 rfl (by rw [HSZ.out]; exact info_ver)) rfl ⟨by rw [HAE.out.1, HAE.out.2]; rfl, ?_⟩
        rw [HBE.out]
        exact below_setRow HB.out (Nat.le_refl _) _
  · have hne : ((n : Int) != 3) = true := by
      have : (n : Int) ≠ 3 := by omega
      simpa using this
    have hno : pvOk s = false := by unfold pvOk; rw [decide_eq_false (by rw [← HXS.out, ← HN.out]; exact h3), Bool.false_and]
    obtain ⟨A, hA⟩ : ∃ A, A = (([0, 0, 0] : List Int).map encI).toArray := ⟨_, rfl⟩
    have HSZ := Lib.hid (show A.size = 3 by rw [hA]; rfl)
    have HON := Lib.hid (show A.all (·.oneCell') = true by rw [hA]; simp [encI, Value.oneCell'])
    have HAE := Lib.hid (show A = ((pvV s).map encI).toArray ∧ pvE s = 8 by unfold pvV pvE; rw [hno]; exact ⟨hA, rfl⟩)
    have HA := Lib.hid hA
    obtain ⟨old, hold, hz0⟩ := HZ3.out
    have HZ0 := Lib.hid hz0
    have HOLD := Lib.hid hold
    clear hA hno hold hz0 h3
    go_wp2_with (refine wpList_store_row rfl _ _ _ rfl _ A rfl (by rw [HA.out]; rfl) _ _ HZ0.out (by rw [HSZ.out]; exact info_ver) (by rw [HSZ.out]; exact HOLD.out) HON.out ?_)
    refine bodyPost_ret (results_cell_row_tmp rfl _ _ B _ _ _ _ rfl (setRow_heap _ _ _ _ _ _ HZ0.out) Tryz.underlying23 rfl (by rw [HSZ.out]; exact info_ver)) rfl ⟨by rw [HAE.out.1, HAE.out.2]; rfl, ?_⟩
    rw [HBE.out]
    exact below_setRow HB3.out (Nat.le_refl _) _
end Go.Proofs.YtlpjcfiibbcdjaaGreatDoor
