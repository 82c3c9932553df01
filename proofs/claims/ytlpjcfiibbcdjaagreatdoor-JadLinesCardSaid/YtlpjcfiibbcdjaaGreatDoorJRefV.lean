/- The document's ParseVersion. No condition. -/
import Derived.Test.YtlpjcfiibbcdjaaGreatDoorJParseV
namespace Go.Proofs.YtlpjcfiibbcdjaaGreatDoor
open Go.ChangeShapes Go.WideShapes Go.ChangeAt Go.RowKit
def glue (p : List UInt8) : List (List UInt8) → List (List UInt8)
  | [] => [p]
  | x :: xs => (p ++ x) :: xs
theorem glue_nil {l : List (List UInt8)} (h : ∃ x xs, l = x :: xs) : glue [] l = l := by obtain ⟨x, xs, rfl⟩ := h; rfl
theorem sp_ne2 (c : UInt8) (s : List UInt8) : ∃ x xs, sp c s = x :: xs := by
  cases s with
  | nil => exact ⟨_, _, rfl⟩
  | cons b l =>
    unfold sp
    split
    · exact ⟨_, _, rfl⟩
    · split
      · exact ⟨_, _, rfl⟩
      · exact ⟨_, _, rfl⟩
theorem glue_other {c d : UInt8} (h : ¬ d = c) (p s : List UInt8) : glue p (sp c (d :: s)) = glue (p ++ [d]) (sp c s) := by
  obtain ⟨x, xs, e⟩ := sp_ne2 c s
  rw [sp, if_neg h, e]
  simp [glue]
theorem glue_same (c : UInt8) (p s : List UInt8) : glue p (sp c (c :: s)) = p :: sp c s := by
  rw [sp, if_pos rfl]; simp [glue]
/-- The values, three of them. -/
def pv3 (s : List UInt8) : List Int := ((sp 46 s).map numR ++ [0, 0, 0]).take 3
theorem pv3_len (s : List UInt8) : (pv3 s).length = 3 := by unfold pv3; simp
theorem pv3_at {s p : List UInt8} {ps tl : List (List UInt8)} (h : sp 46 s = ps ++ p :: tl) (hk : ps.length < 3) : (pv3 s)[ps.length]'(by rw [pv3_len]; exact hk) = numR p := by
  unfold pv3
  simp [h]
theorem pv3_all {s : List UInt8} (h : pvOk s = true) : pv3 s = pvV s := by
  unfold pv3 pvV
  rw [h]
  unfold pvOk at h
  simp only [Bool.and_eq_true, decide_eq_true_eq, List.all_eq_true] at h
  rw [List.take_append_of_le_length (by rw [List.length_map]; omega), List.take_of_length_le (by rw [List.length_map]; omega)]
  exact List.map_congr_left fun p hp => (atoiV_ref (by decide) (h.2 p hp)).symm
theorem bad_len {s : List UInt8} (h : (sp 46 s).length ≠ 3) : pvOk s = false := by unfold pvOk; rw [decide_eq_false h, Bool.false_and]
theorem bad_part {s p : List UInt8} (h : p ∈ sp 46 s) (hn : numR p < 0 ∨ 99 < numR p) : pvOk s = false := by
  unfold pvOk
  rw [Bool.and_eq_false_iff]
  right
  rw [List.all_eq_false]
  refine ⟨p, h, ?_⟩
  rw [show (numOk p 99) = numOk p ((99 : Nat) : Int) from rfl, numOk_ref p 99 (by decide)]
  simp
  omega
theorem good_parts {s : List UInt8} (h3 : (sp 46 s).length = 3) (h : ∀ p ∈ sp 46 s, 0 ≤ numR p ∧ numR p ≤ 99) : pvOk s = true := by
  unfold pvOk
  rw [decide_eq_true h3, Bool.true_and, List.all_eq_true]
  intro p hp
  rw [show (numOk p 99) = numOk p ((99 : Nat) : Int) from rfl, numOk_ref p 99 (by decide)]
  simp
  exact h p hp
theorem cut_one (w : World) (s : List UInt8) (j : Nat) (h : j < s.length) (hs : s.length ≤ 4294967000) :
    (Instr.slice 9 (.string ⟨s.toArray⟩) (some (.int .i64 (j : Nat))) (some (.int .i64 ((j : Nat) + 1))) none).run Tryz.prog w = .ok (.string ⟨[s[j]].toArray⟩) w := by
  have hz : (⟨s.toArray⟩ : ByteArray).size = s.length := by simp [ByteArray.size]
  rw [run_slice_string w 9 _ .i64 .i64 _ _ Tryz.underlying9 (by omega) (by omega) (by rw [hz]; omega)]
  congr 2
  apply ByteArray.ext
  have e : ((j : Int) + 1).toNat = j + 1 := by omega
  rw [e, Int.toNat_natCast]
  apply Array.toList_inj.1
  rw [Lib.extract_data]
  simp
  rw [List.drop_eq_getElem_cons h, List.take_succ_cons, List.take_zero]
structure RV (s : List UInt8) (n j : Nat) (ps : List (List UInt8)) (p : List UInt8) : Prop where
  a : j ≤ n → sp 46 s = ps ++ glue p (sp 46 (s.drop j))
  b : j = n + 1 → sp 46 s = ps
  c : ∀ x ∈ ps, 0 ≤ numR x ∧ numR x ≤ 99
  d : j ≤ n → p.length ≤ j
set_option maxHeartbeats 4000000 in
set_option maxRecDepth 100000 in
theorem refParseV_any (w : World) (s : List UInt8) (hs : s.length ≤ 4294967000) :
    Calls Tryz.prog 13 #[.string ⟨s.toArray⟩] w fun e w' => e = .returned (.tuple #[.agg ((pvV s).map encI).toArray, .int .i64 (pvE s)]) ∧ Below w.heap.size w w' := by
  obtain ⟨n, hn⟩ : ∃ n, n = s.length := ⟨_, rfl⟩
  have HLn := Lib.hid hn
  have hsz : (⟨s.toArray⟩ : ByteArray).size = n := by rw [hn]; simp [ByteArray.size]
  have HS := Lib.hid hs
  rw [← hn] at hs
  clear hn
  have h1 : Below w.heap.size w (w.alloc (.cells (([0, 0, 0] : List Int).map encI).toArray 23)) := (Below.refl _ _).alloc (Nat.le_refl _) _
  have h2 : ZB (w.alloc (.cells (([0, 0, 0] : List Int).map encI).toArray 23)) w.heap.size 3 23 := ⟨_, rfl, heap_alloc_last w _⟩
  have HB1 := Lib.hid h1
  have HZ1 := Lib.hid h2
  clear h1 h2
  go_enter Tryz.func13, Tryz.ntmps13
  go_upto_region 1 with fail
  change Code.wp _ _ _ _ (w.alloc (.cells (([0, 0, 0] : List Int).map encI).toArray 23))
  generalize w.alloc (.cells (([0, 0, 0] : List Int).map encI).toArray 23) = w1 at *
  go_upto_region 2 with fail
  have h3 : Below w1.heap.size w1 (w1.alloc (.cells (([0, 0, 0] : List Int).map encI).toArray 23)) := (Below.refl _ _).alloc (Nat.le_refl _) _
  have h4 : ∀ V, OutV (w1.alloc (.cells (([0, 0, 0] : List Int).map encI).toArray 23)) w1.heap.size V 0 := fun V => heap_alloc_last w1 _
  change Code.wp _ _ _ _ (w1.alloc (.cells (([0, 0, 0] : List Int).map encI).toArray 23))
  obtain ⟨B, hB⟩ : ∃ B, w.heap.size = B := ⟨_, rfl⟩
  rw [hB] at HB1 HZ1 ⊢
  have HBE := Lib.hid hB
  have hgB : B < w1.heap.size := HZ1.out.lt
  have HB2 := Lib.hid (HB1.out.trans (h3.mono (by omega)))
  have HZ2 := Lib.hid (HZ1.out.below h3)
  have HO2 := Lib.hid (h4 (pv3 s))
  have HVL := Lib.hid (pv3_len s)
  clear h3 h4 hB HB1 HZ1
  generalize w1.alloc (.cells (([0, 0, 0] : List Int).map encI).toArray 23) = w2 at *
  generalize w1.heap.size = go at *
  go_wp2_with fail
  go_loopg [5, 6, 7] (n + 1) (fun gn pv kv i wr => ∃ (j : Nat) (ps : List (List UInt8)) (p : List UInt8) (k : Nat), j ≤ n + 1 ∧ gn = n + 1 - j ∧ pv = .string ⟨p.toArray⟩ ∧ kv = .int .i64 k ∧ i = .int .i64 j ∧ k ≤ 3 ∧ Hid (k = ps.length) ∧ Hid (RV s n j ps p) ∧ Hid (OutV wr go (pv3 s) k) ∧ Hid (ZB wr B 3 23) ∧ Hid (Below B w wr))
  case atStart => exact ⟨0, [], [], 0, by omega, by omega, rfl, by go_num, by go_num, by omega, Lib.hid rfl, Lib.hid ⟨fun _ => by rw [List.nil_append, List.drop_zero, glue_nil (sp_ne2 46 s)], fun h => by omega, fun x hx => by simp at hx, fun _ => Nat.zero_le _⟩, HO2, HZ2, Lib.hid (HBE.out ▸ HB2.out)⟩
  case round =>
    clear HO2 HZ2 HB2
    obtain ⟨j, ps, p, k, hj, rfl, rfl, rfl, rfl, hk3, HK, HRV, HO, HZ, HB⟩ := hrel
    by_cases hjn : j ≤ n
    · have j0 : (j : Int) ≤ n := by omega
      by_cases hmid : ∃ h : j < s.length, s[j]'h ≠ 46
      · obtain ⟨hjs, hc46⟩ := hmid
        have hlt : j < n := by rw [HLn.out]; exact hjs
        have j1 : (j : Int) < n := by omega
        have hcut := fun w' => cut_one w' s j hjs HS.out
        obtain ⟨c, hc⟩ : ∃ c, c = s[j] := ⟨_, rfl⟩
        rw [← hc] at hcut hc46
        have hgl : RV s n (j + 1) ps (p ++ [c]) := by
          have h := HRV.out
          refine ⟨fun _ => ?_, fun h => by omega, h.c, fun _ => by have := h.d hjn; simp; omega⟩
          rw [h.a hjn, List.drop_eq_getElem_cons hjs, ← hc, glue_other hc46]
        have HGL := Lib.hid hgl
        have hcat : ¬ 9223372036854775807 < p.length + 1 := by have := HRV.out.d hjn; omega
        have hcn : (({ data := s.toArray } : ByteArray)[j]'(by rw [hsz]; exact hlt)).toNat = c.toNat := by rw [hc]; rfl
        have hne : ((c.toNat : Int) != 46) = true := by
          rw [bne_iff_ne]
          intro h
          exact hc46 (UInt8.toNat_inj.1 (by rw [show (46 : UInt8).toNat = 46 from rfl]; omega))
        clear hgl hc hc46 hjs
        go_wp2_with fail
        go_roundg (n + 1 - (j + 1))
        case measure => omega
        case rel => exact ⟨j + 1, ps, p ++ [c], k, by omega, rfl, by simp only [← str_app], rfl, by go_num, hk3, HK, HGL, HO, HZ, HB⟩
      · have hsplit : ∃ tl, sp 46 s = ps ++ p :: tl ∧ (j < n → tl = sp 46 (s.drop (j + 1))) ∧ (j = n → tl = []) := by
          have h := HRV.out.a hjn
          by_cases hjs : j < s.length
          · have hc : s[j] = 46 := by
              by_cases h46 : s[j] = 46
              · exact h46
              · exact absurd ⟨hjs, h46⟩ hmid
            rw [List.drop_eq_getElem_cons hjs, hc, glue_same] at h
            exact ⟨_, h, fun _ => rfl, fun h => by rw [HLn.out] at h; omega⟩
          · rw [List.drop_eq_nil_of_le (by omega)] at h
            refine ⟨[], by rw [h]; simp [glue, sp], fun h => by rw [HLn.out] at h; omega, fun _ => rfl⟩
        obtain ⟨tl, hsp, ht1, ht2⟩ := hsplit
        have hpl : p.length ≤ 4294967000 := by have := HRV.out.d hjn; omega
        have HNU := Lib.hid (fun w => refNumber_any w p hpl)
        have HB3 := Lib.hid (show 2 < k → pvOk s = false from fun h => bad_len (by rw [hsp, List.length_append, List.length_cons, ← HK.out]; omega))
        have HBN := Lib.hid (show numR p < 0 ∨ 99 < numR p → pvOk s = false from fun h => bad_part (by rw [hsp]; simp) h)
        have HAT := Lib.hid (show ∀ h : k < 3, numR p = (pv3 s)[k]'(by rw [pv3_len]; exact h) from fun h => by
          have e := HK.out
          subst e
          exact (pv3_at hsp h).symm)
        have HNX := Lib.hid (show 0 ≤ numR p ∧ numR p ≤ 99 → RV s n (j + 1) (ps ++ [p]) [] from fun hq => by
          have h := HRV.out
          refine ⟨fun hj1 => ?_, fun hj1 => ?_, fun x hx => ?_, fun _ => Nat.zero_le _⟩
          · rw [glue_nil (sp_ne2 46 _), hsp, ht1 (by omega)]; simp
          · rw [hsp, ht2 (by omega)]
          · rcases List.mem_append.1 hx with h1 | h1
            · exact h.c x h1
            · simp at h1; subst h1; exact hq)
        generalize numR p = q at *
        clear hsp ht1 ht2 hpl
        by_cases hjs : j < n
        · have j1 : (j : Int) < n := by omega
          have hjl : j < s.length := by rw [← HLn.out]; exact hjs
          have hcn : (({ data := s.toArray } : ByteArray)[j]'(by rw [hsz]; exact hjs)).toNat = 46 := by
            by_cases h46 : s[j] = 46
            · exact (congrArg UInt8.toNat h46)
            · exact absurd ⟨hjl, h46⟩ hmid
          clear hmid hjl
          go_wp2_with fail
          refine (HNU.out wr).mono ?_
          rintro e w4 ⟨rfl, rfl⟩
          clear HNU
          by_cases hk2 : 2 < k
          · have k2 : (2 : Int) < k := by omega
            have hno := HB3.out hk2
            clear hk2
            obtain ⟨A, hA⟩ : ∃ A, A = (([0, 0, 0] : List Int).map encI).toArray := ⟨_, rfl⟩
            have HSZ := Lib.hid (show A.size = 3 by rw [hA]; rfl)
            have HON := Lib.hid (show A.all (·.oneCell') = true by rw [hA]; simp [encI, Value.oneCell'])
            have HAE := Lib.hid (show A = ((pvV s).map encI).toArray ∧ pvE s = 8 by unfold pvV pvE; rw [hno]; exact ⟨hA, rfl⟩)
            have HA := Lib.hid hA
            obtain ⟨old, hold, hz0⟩ := HZ.out
            have HZ0 := Lib.hid hz0
            have HOLD := Lib.hid hold
            clear hA hno hold hz0
            go_wp2_with (refine wpList_store_row rfl _ _ _ rfl _ A rfl (by rw [HA.out]; rfl) _ _ HZ0.out (by rw [HSZ.out]; exact info_ver) (by rw [HSZ.out]; exact HOLD.out) HON.out ?_)
            refine bodyPost_ret (results_cell_row_tmp rfl _ _ B _ _ _ _ rfl (setRow_heap _ _ _ _ _ _ HZ0.out) Tryz.underlying23 rfl (by rw [HSZ.out]; exact info_ver)) rfl ⟨by rw [HAE.out.1, HAE.out.2]; rfl, ?_⟩
            rw [HBE.out]
            exact below_setRow HB.out (Nat.le_refl _) _
          · have k2 : ¬ (2 : Int) < k := by omega
            by_cases hq0 : q < 0
            · have hno := HBN.out (Or.inl hq0)
              obtain ⟨A, hA⟩ : ∃ A, A = (([0, 0, 0] : List Int).map encI).toArray := ⟨_, rfl⟩
              have HSZ := Lib.hid (show A.size = 3 by rw [hA]; rfl)
              have HON := Lib.hid (show A.all (·.oneCell') = true by rw [hA]; simp [encI, Value.oneCell'])
              have HAE := Lib.hid (show A = ((pvV s).map encI).toArray ∧ pvE s = 8 by unfold pvV pvE; rw [hno]; exact ⟨hA, rfl⟩)
              have HA := Lib.hid hA
              obtain ⟨old, hold, hz0⟩ := HZ.out
              have HZ0 := Lib.hid hz0
              have HOLD := Lib.hid hold
              clear hA hno hold hz0
              go_wp2_with (refine wpList_store_row rfl _ _ _ rfl _ A rfl (by rw [HA.out]; rfl) _ _ HZ0.out (by rw [HSZ.out]; exact info_ver) (by rw [HSZ.out]; exact HOLD.out) HON.out ?_)
              refine bodyPost_ret (results_cell_row_tmp rfl _ _ B _ _ _ _ rfl (setRow_heap _ _ _ _ _ _ HZ0.out) Tryz.underlying23 rfl (by rw [HSZ.out]; exact info_ver)) rfl ⟨by rw [HAE.out.1, HAE.out.2]; rfl, ?_⟩
              rw [HBE.out]
              exact below_setRow HB.out (Nat.le_refl _) _
            · by_cases hq9 : 99 < q
              · have hno := HBN.out (Or.inr hq9)
                obtain ⟨A, hA⟩ : ∃ A, A = (([0, 0, 0] : List Int).map encI).toArray := ⟨_, rfl⟩
                have HSZ := Lib.hid (show A.size = 3 by rw [hA]; rfl)
                have HON := Lib.hid (show A.all (·.oneCell') = true by rw [hA]; simp [encI, Value.oneCell'])
                have HAE := Lib.hid (show A = ((pvV s).map encI).toArray ∧ pvE s = 8 by unfold pvV pvE; rw [hno]; exact ⟨hA, rfl⟩)
                have HA := Lib.hid hA
                obtain ⟨old, hold, hz0⟩ := HZ.out
                have HZ0 := Lib.hid hz0
                have HOLD := Lib.hid hold
                clear hA hno hold hz0
                go_wp2_with (refine wpList_store_row rfl _ _ _ rfl _ A rfl (by rw [HA.out]; rfl) _ _ HZ0.out (by rw [HSZ.out]; exact info_ver) (by rw [HSZ.out]; exact HOLD.out) HON.out ?_)
                refine bodyPost_ret (results_cell_row_tmp rfl _ _ B _ _ _ _ rfl (setRow_heap _ _ _ _ _ _ HZ0.out) Tryz.underlying23 rfl (by rw [HSZ.out]; exact info_ver)) rfl ⟨by rw [HAE.out.1, HAE.out.2]; rfl, ?_⟩
                rw [HBE.out]
                exact below_setRow HB.out (Nat.le_refl _) _
              · have hk : k < 3 := by omega
                have HRN := Lib.hid (HNX.out ⟨by omega, by omega⟩)
                have HON := Lib.hid (HO.out.put (x := q) HVL.out hk (HAT.out hk))
                have HZN := Lib.hid (HZ.out.set (g2 := go) (o := k) (v := .int .i64 q) (by omega))
                have HBB := Lib.hid (HB.out.setCell (p := ⟨go, k, none⟩) (show B ≤ go from Nat.le_of_lt hgB) (.int .i64 q))
                have HKN := Lib.hid (show k + 1 = (ps ++ [p]).length by rw [List.length_append, List.length_singleton, ← HK.out])
                obtain ⟨c0, f0⟩ := HO.out.at HVL.out hk
                clear HO HZ HB HAT HNX HRV HB3 HBN
                go_wp2_with fail
                go_roundg (n + 1 - (j + 1))
                case measure => omega
                case rel => exact ⟨j + 1, ps ++ [p], [], k + 1, by omega, rfl, rfl, by go_num, by go_num, by omega, HKN, HRN, HON, HZN, HBB⟩
        · have j1 : ¬ (j : Int) < n := by omega
          clear hmid
          go_wp2_with fail
          refine (HNU.out wr).mono ?_
          rintro e w4 ⟨rfl, rfl⟩
          clear HNU
          by_cases hk2 : 2 < k
          · have k2 : (2 : Int) < k := by omega
            have hno := HB3.out hk2
            clear hk2
            obtain ⟨A, hA⟩ : ∃ A, A = (([0, 0, 0] : List Int).map encI).toArray := ⟨_, rfl⟩
            have HSZ := Lib.hid (show A.size = 3 by rw [hA]; rfl)
            have HON := Lib.hid (show A.all (·.oneCell') = true by rw [hA]; simp [encI, Value.oneCell'])
            have HAE := Lib.hid (show A = ((pvV s).map encI).toArray ∧ pvE s = 8 by unfold pvV pvE; rw [hno]; exact ⟨hA, rfl⟩)
            have HA := Lib.hid hA
            obtain ⟨old, hold, hz0⟩ := HZ.out
            have HZ0 := Lib.hid hz0
            have HOLD := Lib.hid hold
            clear hA hno hold hz0
            go_wp2_with (refine wpList_store_row rfl _ _ _ rfl _ A rfl (by rw [HA.out]; rfl) _ _ HZ0.out (by rw [HSZ.out]; exact info_ver) (by rw [HSZ.out]; exact HOLD.out) HON.out ?_)
            refine bodyPost_ret (results_cell_row_tmp rfl _ _ B _ _ _ _ rfl (setRow_heap _ _ _ _ _ _ HZ0.out) Tryz.underlying23 rfl (by rw [HSZ.out]; exact info_ver)) rfl ⟨by rw [HAE.out.1, HAE.out.2]; rfl, ?_⟩
            rw [HBE.out]
            exact below_setRow HB.out (Nat.le_refl _) _
          · have k2 : ¬ (2 : Int) < k := by omega
            by_cases hq0 : q < 0
            · have hno := HBN.out (Or.inl hq0)
              obtain ⟨A, hA⟩ : ∃ A, A = (([0, 0, 0] : List Int).map encI).toArray := ⟨_, rfl⟩
              have HSZ := Lib.hid (show A.size = 3 by rw [hA]; rfl)
              have HON := Lib.hid (show A.all (·.oneCell') = true by rw [hA]; simp [encI, Value.oneCell'])
              have HAE := Lib.hid (show A = ((pvV s).map encI).toArray ∧ pvE s = 8 by unfold pvV pvE; rw [hno]; exact ⟨hA, rfl⟩)
              have HA := Lib.hid hA
              obtain ⟨old, hold, hz0⟩ := HZ.out
              have HZ0 := Lib.hid hz0
              have HOLD := Lib.hid hold
              clear hA hno hold hz0
              go_wp2_with (refine wpList_store_row rfl _ _ _ rfl _ A rfl (by rw [HA.out]; rfl) _ _ HZ0.out (by rw [HSZ.out]; exact info_ver) (by rw [HSZ.out]; exact HOLD.out) HON.out ?_)
              refine bodyPost_ret (results_cell_row_tmp rfl _ _ B _ _ _ _ rfl (setRow_heap _ _ _ _ _ _ HZ0.out) Tryz.underlying23 rfl (by rw [HSZ.out]; exact info_ver)) rfl ⟨by rw [HAE.out.1, HAE.out.2]; rfl, ?_⟩
              rw [HBE.out]
              exact below_setRow HB.out (Nat.le_refl _) _
            · by_cases hq9 : 99 < q
              · have hno := HBN.out (Or.inr hq9)
                obtain ⟨A, hA⟩ : ∃ A, A = (([0, 0, 0] : List Int).map encI).toArray := ⟨_, rfl⟩
                have HSZ := Lib.hid (show A.size = 3 by rw [hA]; rfl)
                have HON := Lib.hid (show A.all (·.oneCell') = true by rw [hA]; simp [encI, Value.oneCell'])
                have HAE := Lib.hid (show A = ((pvV s).map encI).toArray ∧ pvE s = 8 by unfold pvV pvE; rw [hno]; exact ⟨hA, rfl⟩)
                have HA := Lib.hid hA
                obtain ⟨old, hold, hz0⟩ := HZ.out
                have HZ0 := Lib.hid hz0
                have HOLD := Lib.hid hold
                clear hA hno hold hz0
                go_wp2_with (refine wpList_store_row rfl _ _ _ rfl _ A rfl (by rw [HA.out]; rfl) _ _ HZ0.out (by rw [HSZ.out]; exact info_ver) (by rw [HSZ.out]; exact HOLD.out) HON.out ?_)
                refine bodyPost_ret (results_cell_row_tmp rfl _ _ B _ _ _ _ rfl (setRow_heap _ _ _ _ _ _ HZ0.out) Tryz.underlying23 rfl (by rw [HSZ.out]; exact info_ver)) rfl ⟨by rw [HAE.out.1, HAE.out.2]; rfl, ?_⟩
                rw [HBE.out]
                exact below_setRow HB.out (Nat.le_refl _) _
              · have hk : k < 3 := by omega
                have HRN := Lib.hid (HNX.out ⟨by omega, by omega⟩)
                have HON := Lib.hid (HO.out.put (x := q) HVL.out hk (HAT.out hk))
                have HZN := Lib.hid (HZ.out.set (g2 := go) (o := k) (v := .int .i64 q) (by omega))
                have HBB := Lib.hid (HB.out.setCell (p := ⟨go, k, none⟩) (show B ≤ go from Nat.le_of_lt hgB) (.int .i64 q))
                have HKN := Lib.hid (show k + 1 = (ps ++ [p]).length by rw [List.length_append, List.length_singleton, ← HK.out])
                obtain ⟨c0, f0⟩ := HO.out.at HVL.out hk
                clear HO HZ HB HAT HNX HRV HB3 HBN
                go_wp2_with fail
                go_roundg (n + 1 - (j + 1))
                case measure => omega
                case rel => exact ⟨j + 1, ps ++ [p], [], k + 1, by omega, rfl, rfl, by go_num, by go_num, by omega, HKN, HRN, HON, HZN, HBB⟩
    · obtain rfl : j = n + 1 := by omega
      have hps := HRV.out.b rfl
      have j0 : ¬ ((n + 1 : Nat) : Int) ≤ n := by omega
      by_cases h3 : k = 3
      · subst h3
        have hyes : pvOk s = true := good_parts (by rw [hps, ← HK.out]) (by rw [hps]; exact HRV.out.c)
        have hrow : wr.heap[go]? = some (.cells ((pv3 s).map encI).toArray 23 (0, 0)) := by
          have h := HO.out
          unfold OutV at h
          rw [List.take_of_length_le (by rw [HVL.out]; exact Nat.le_refl _)] at h
          simpa using h
        rw [pv3_all hyes] at hrow
        obtain ⟨A, hA⟩ : ∃ A, A = ((pvV s).map encI).toArray := ⟨_, rfl⟩
        rw [← hA] at hrow
        have HSZ := Lib.hid (show A.size = 3 by rw [hA]; simpa using pvV_len s)
        have HON := Lib.hid (show A.all (·.oneCell') = true by rw [hA]; simp [encI, Value.oneCell'])
        have HAE := Lib.hid (show A = ((pvV s).map encI).toArray ∧ pvE s = 0 by unfold pvE; rw [hyes]; exact ⟨hA, rfl⟩)
        have HROW := Lib.hid hrow
        obtain ⟨old, hold, hz0⟩ := HZ.out
        have HZ0 := Lib.hid hz0
        have HOLD := Lib.hid hold
        clear hA hyes hrow hold hz0 hps
        go_wp2_with (first
          | (refine wpList_load_row rfl _ _ rfl _ rfl _ _ _ _ HROW.out Tryz.underlying23 rfl (by rw [HSZ.out]; exact info_ver) ?_)
          | (refine wpList_store_row rfl _ _ _ rfl _ _ rfl rfl _ _ HZ0.out (by rw [HSZ.out]; exact info_ver) (by rw [HSZ.out]; exact HOLD.out) HON.out ?_))
        refine bodyPost_ret (results_cell_row_tmp rfl _ _ B _ _ _ _ rfl (setRow_heap _ _ _ _ _ _ HZ0.out) Tryz.underlying23 rfl (by rw [HSZ.out]; exact info_ver)) rfl ⟨by rw [HAE.out.1, HAE.out.2]; rfl, ?_⟩
        rw [HBE.out]
        exact below_setRow HB.out (Nat.le_refl _) _
      · have k3 : ((k : Int) != 3) = true := by rw [bne_iff_ne]; omega
        have hno : pvOk s = false := bad_len (by rw [hps, ← HK.out]; exact h3)
        clear h3 hps
        obtain ⟨A, hA⟩ : ∃ A, A = (([0, 0, 0] : List Int).map encI).toArray := ⟨_, rfl⟩
        have HSZ := Lib.hid (show A.size = 3 by rw [hA]; rfl)
        have HON := Lib.hid (show A.all (·.oneCell') = true by rw [hA]; simp [encI, Value.oneCell'])
        have HAE := Lib.hid (show A = ((pvV s).map encI).toArray ∧ pvE s = 8 by unfold pvV pvE; rw [hno]; exact ⟨hA, rfl⟩)
        have HA := Lib.hid hA
        obtain ⟨old, hold, hz0⟩ := HZ.out
        have HZ0 := Lib.hid hz0
        have HOLD := Lib.hid hold
        clear hA hno hold hz0
        go_wp2_with (refine wpList_store_row rfl _ _ _ rfl _ A rfl (by rw [HA.out]; rfl) _ _ HZ0.out (by rw [HSZ.out]; exact info_ver) (by rw [HSZ.out]; exact HOLD.out) HON.out ?_)
        refine bodyPost_ret (results_cell_row_tmp rfl _ _ B _ _ _ _ rfl (setRow_heap _ _ _ _ _ _ HZ0.out) Tryz.underlying23 rfl (by rw [HSZ.out]; exact info_ver)) rfl ⟨by rw [HAE.out.1, HAE.out.2]; rfl, ?_⟩
        rw [HBE.out]
        exact below_setRow HB.out (Nat.le_refl _) _
end Go.Proofs.YtlpjcfiibbcdjaaGreatDoor
