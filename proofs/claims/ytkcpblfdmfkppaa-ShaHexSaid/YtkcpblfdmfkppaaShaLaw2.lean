/- sha: signs. No condition. -/
import Derived.Test.YtkcpblfdmfkppaaShaRefHex
import Derived.Test.YtkcpblfdmfkppaaA32Open
namespace Go.Proofs.Ytkcpblfdmfkppaa
open Go.ChangeShapes Go.WideShapes Go.ChangeAt Go.RowKit
theorem hexB_cons (c : UInt8) (bs : List UInt8) : hexB (c :: bs) = signAt (c.toNat / 16) :: signAt (c.toNat % 16) :: hexB bs := by
  unfold hexB
  rw [List.flatMap_cons]
  rfl
theorem hexB_at : ∀ (bs : List UInt8) (i : Nat) (h : i < bs.length), (hexB bs).getD (2 * i) 0 = signAt (bs[i].toNat / 16) ∧ (hexB bs).getD (2 * i + 1) 0 = signAt (bs[i].toNat % 16)
  | [], i, h => by simp at h
  | c :: bs, 0, _ => by rw [hexB_cons]; exact ⟨rfl, rfl⟩
  | c :: bs, i + 1, h => by
    have ih := hexB_at bs i (by simpa using h)
    rw [hexB_cons, show 2 * (i + 1) = 2 * i + 1 + 1 by omega, show 2 * i + 1 + 1 + 1 = (2 * i + 1) + 1 + 1 by omega]
    simp only [List.getD_cons_succ, List.getElem_cons_succ]
    exact ih
theorem posS_sign (n : Nat) (h : n < 16) : posS (signAt n) = n := (sign_pos n h (signAt n)).1 rfl
theorem hexB_good (bs : List UInt8) : ∀ c ∈ hexB bs, 0 ≤ posS c := by
  intro c hc
  unfold hexB at hc
  rw [List.mem_flatMap] at hc
  obtain ⟨x, _, hx⟩ := hc
  have hlt := x.toNat_lt
  simp at hx
  rcases hx with rfl | rfl
  · rw [posS_sign _ (by omega)]; omega
  · rw [posS_sign _ (by omega)]; omega
theorem unhex_hex (bs : List UInt8) (hl : bs.length = 32) : unhexV (hexB bs) = bs ∧ unhexE (hexB bs) = 0 := by
  have ha : allS (hexB bs) = true := allS_yes (by rw [hexB_length, hl]) (fun j hj => hexB_good bs _ (List.getElem_mem hj))
  unfold unhexV unhexE
  rw [ha]
  refine ⟨?_, rfl⟩
  rw [if_pos rfl]
  refine List.ext_getElem (by rw [unhxL_length, hl]) (fun i h1 h2 => ?_)
  obtain ⟨e1, e2⟩ := hexB_at bs i h2
  have hlt := bs[i].toNat_lt
  simp only [unhxL, List.getElem_map, List.getElem_range]
  rw [e1, e2, posS_sign _ (by omega), posS_sign _ (by omega)]
  simp only [Int.toNat_natCast]
  rw [show 16 * (bs[i].toNat / 16) + bs[i].toNat % 16 = bs[i].toNat by omega]
  simp
/-- An array in a block. -/
def R32 (w : World) (g : Nat) (A : Array Value) : Prop := w.heap[g]? = some (.cells A 24 (0, 0))
theorem R32.below {w w' : World} {g : Nat} {A : Array Value} (h : R32 w g A) (hb : Below w.heap.size w w') : R32 w' g A := by
  unfold R32 at h ⊢
  rw [hb.block g (Array.getElem?_eq_some_iff.1 h).1]
  exact h
theorem R32.new (w : World) (A : Array Value) : R32 (w.alloc (.cells A 24)) w.heap.size A ∧ Below w.heap.size w (w.alloc (.cells A 24)) := ⟨heap_alloc_last w _, (Below.refl _ _).alloc (Nat.le_refl _) _⟩
set_option maxHeartbeats 8000000 in
set_option maxRecDepth 100000 in
theorem walk_ShaHex (A : Array Value) (s : ByteArray) (w : World) (h : IsA32 A) :
    Calls Try.prog 5 #[.agg A, .string s] w fun e w' => e = .returned (.bool true) ∧ Below w.heap.size w w' := by
  obtain ⟨bs, hl, hA⟩ := h
  obtain ⟨l, rfl⟩ : ∃ l : List UInt8, s = ⟨l.toArray⟩ := ⟨s.data.toList, by simp⟩
  have HA := Lib.hid hA
  have HL := Lib.hid hl
  have hasz : A.size = 32 := by rw [hA]; simpa using hl
  have HAS := Lib.hid hasz
  have HAO := Lib.hid (show A.all (·.oneCell') = true by rw [hA]; simp [encB, Value.oneCell'])
  have hbox : Below w.heap.size w (w.alloc (.cells A 24)) := (Below.refl _ _).alloc (Nat.le_refl _) _
  have hrow : (w.alloc (.cells A 24)).heap[w.heap.size]? = some (.cells A 24 (0, 0)) := heap_alloc_last w _
  have HBX := Lib.hid hbox
  have HROW := Lib.hid hrow
  clear hA hl hasz hbox hrow
  go_enter Try.func5, Try.ntmps5
  go_upto_region 1 with fail
  generalize w.alloc (.cells A 24) = w1 at *
  obtain ⟨B, hB⟩ : ∃ B, w.heap.size = B := ⟨_, rfl⟩
  have HBE := Lib.hid hB
  rw [hB] at HROW HBX ⊢
  clear hB
  go_wp2_with fail
  refine (fixed_any w1).mono ?_
  rintro e w2 ⟨rfl, hb2⟩
  have hrow2 : w2.heap[B]? = some (.cells A 24 (0, 0)) := by
    rw [hb2.block B (Array.getElem?_eq_some_iff.1 HROW.out).1]
    exact HROW.out
  have HROW2 := Lib.hid hrow2
  have HB2 := Lib.hid (show Below B w w2 from HBX.out.trans (hb2.mono (by have h := HBX.out.size; rw [HBE.out] at h; exact h)))
  clear hb2 hrow2 HROW HBX
  have hlen : (⟨l.toArray⟩ : ByteArray).size = l.length := by simp [ByteArray.size]
  by_cases h300 : 300 < l.length
  · have e1 : decide ((300 : Int) < (l.length : Nat)) = true := by simp; omega
    go_wp2_with fail
    all_goals (go_ret; refine ⟨rfl, ?_⟩; rw [HBE.out]; exact HB2.out)
  · have e1 : decide ((300 : Int) < (l.length : Nat)) = false := by simp; omega
    have hl9 : l.length ≤ 9223372036854775807 := by omega
    obtain ⟨hu1, hu2⟩ := unhex_hex bs HL.out
    have HXC := Lib.hid (fun w' => Hex_any w' bs HL.out)
    rw [← HA.out] at HXC
    have HUC := Lib.hid (fun w' => Unhex_any w' (hexB bs) (by rw [hexB_length, HL.out]; omega))
    rw [hu1, hu2, ← HA.out] at HUC
    have HUS := Lib.hid (fun w' => Unhex_any w' l hl9)
    have HRS := Lib.hid (fun w' => refUnhex_any w' l hl9)
    have HRX := Lib.hid (fun w' => refHex_any w' bs HL.out)
    rw [← HA.out] at HRX
    obtain ⟨V, hV⟩ : ∃ V, V = ((unhexV l).map encB).toArray := ⟨_, rfl⟩
    rw [← hV] at HUS HRS
    have HVS := Lib.hid (show V.size = 32 by rw [hV]; simp [unhexV_length])
    have HVO := Lib.hid (show V.all (·.oneCell') = true by rw [hV]; simp [encB, Value.oneCell'])
    have heqA : ∀ w', (Op.equalIn 10000 24 (.agg A) (.agg A)).run Try.prog w' = .ok true w' := by
      intro w'
      have h := run_eql32 w' bs bs HL.out HL.out
      rw [← HA.out, decide_eq_true rfl] at h
      exact h
    have heqV : ∀ w', (Op.equalIn 10000 24 (.agg V) (.agg V)).run Try.prog w' = .ok true w' := by
      intro w'
      have h := run_eql32 w' (unhexV l) (unhexV l) (unhexV_length _) (unhexV_length _)
      rw [← hV, decide_eq_true rfl] at h
      exact h
    have hgd := guard32
    obtain ⟨ue, hue⟩ : ∃ ue, ue = unhexE l := ⟨_, rfl⟩
    rw [← hue] at HUS HRS
    obtain ⟨X, hX⟩ : ∃ X : ByteArray, X = ⟨(hexB bs).toArray⟩ := ⟨_, rfl⟩
    rw [← hX] at HXC HUC HRX
    clear h300 hu1 hu2 hV hue hX hl9
    go_wp2_with (refine wpList_load_row rfl _ _ rfl _ rfl _ _ _ _ HROW2.out Try.underlying24 rfl (by rw [HAS.out]; exact info_out) ?_)
    have hBw : B ≤ w2.heap.size := by have h := HB2.out.size; rw [HBE.out] at h; exact h
    have HR0 := Lib.hid (show R32 w2 B A from HROW2.out)
    refine (HXC.out w2).mono ?_
    rintro e w3 ⟨rfl, hb3⟩
    replace HR0 := Lib.hid (HR0.out.below hb3)
    have HB3 := Lib.hid (HB2.out.trans (hb3.mono hBw))
    have hBw3 : B ≤ w3.heap.size := Nat.le_trans hBw hb3.size
    clear hb3 HROW2 HB2 hBw HXC
    go_wp2_with fail
    refine (HUC.out w3).mono ?_
    rintro e w4 ⟨rfl, hb4⟩
    replace HR0 := Lib.hid (HR0.out.below hb4)
    have HB4 := Lib.hid (HB3.out.trans (hb4.mono hBw3))
    have hBw4 : B ≤ w4.heap.size := Nat.le_trans hBw3 hb4.size
    clear hb4 HB3 hBw3 HUC
    go_upto_region 7 with (refine wpList_store_new rfl _ _ _ rfl A rfl rfl _ _ (by rw [HAS.out]; exact info_out) (by rw [HAS.out]; rfl) HAO.out ?_)
    obtain ⟨hn6, hb6⟩ := R32.new w4 A
    have HR6 := Lib.hid hn6
    replace HR0 := Lib.hid (HR0.out.below hb6)
    have HB6 := Lib.hid (HB4.out.trans (hb6.mono hBw4))
    have hBw6 := Nat.le_trans hBw4 hb6.size
    clear hn6 hb6 HB4 hBw4
    generalize w4.alloc (.cells A 24) = w6 at *
    generalize w4.heap.size = g6 at *
    go_wp2_with fail
    refine (HUS.out w6).mono ?_
    rintro e w7 ⟨rfl, hb7⟩
    replace HR0 := Lib.hid (HR0.out.below hb7)
    replace HR6 := Lib.hid (HR6.out.below hb7)
    have HB7 := Lib.hid (HB6.out.trans (hb7.mono hBw6))
    have hBw7 := Nat.le_trans hBw6 hb7.size
    clear hb7 HB6 hBw6 HUS
    go_upto_region 8 with (refine wpList_store_new rfl _ _ _ rfl V rfl rfl _ _ (by rw [HVS.out]; exact info_out) (by rw [HVS.out]; rfl) HVO.out ?_)
    obtain ⟨hn8, hb8⟩ := R32.new w7 V
    have HR8 := Lib.hid hn8
    replace HR0 := Lib.hid (HR0.out.below hb8)
    replace HR6 := Lib.hid (HR6.out.below hb8)
    have HB8 := Lib.hid (HB7.out.trans (hb8.mono hBw7))
    have hBw8 := Nat.le_trans hBw7 hb8.size
    clear hn8 hb8 HB7 hBw7
    generalize w7.alloc (.cells V 24) = w8 at *
    generalize w7.heap.size = g8 at *
    go_wp2_with fail
    refine (HRS.out w8).mono ?_
    rintro e w9 ⟨rfl, hb9⟩
    replace HR0 := Lib.hid (HR0.out.below hb9)
    replace HR6 := Lib.hid (HR6.out.below hb9)
    replace HR8 := Lib.hid (HR8.out.below hb9)
    have HB9 := Lib.hid (HB8.out.trans (hb9.mono hBw8))
    have hBw9 := Nat.le_trans hBw8 hb9.size
    clear hb9 HB8 hBw8 HRS
    go_upto_region 9 with (refine wpList_store_new rfl _ _ _ rfl V rfl rfl _ _ (by rw [HVS.out]; exact info_out) (by rw [HVS.out]; rfl) HVO.out ?_)
    obtain ⟨hn10, hb10⟩ := R32.new w9 V
    have HR10 := Lib.hid hn10
    replace HR0 := Lib.hid (HR0.out.below hb10)
    replace HR6 := Lib.hid (HR6.out.below hb10)
    replace HR8 := Lib.hid (HR8.out.below hb10)
    have HB10 := Lib.hid (HB9.out.trans (hb10.mono hBw9))
    have hBw10 := Nat.le_trans hBw9 hb10.size
    clear hn10 hb10 HB9 hBw9
    generalize w9.alloc (.cells V 24) = w10 at *
    generalize w9.heap.size = g10 at *
    go_wp2_with (refine wpList_load_row rfl _ _ rfl _ rfl _ _ _ _ HR0.out Try.underlying24 rfl (by rw [HAS.out]; exact info_out) ?_)
    refine (HRX.out w10).mono ?_
    rintro e w11 ⟨rfl, hb11⟩
    replace HR0 := Lib.hid (HR0.out.below hb11)
    replace HR6 := Lib.hid (HR6.out.below hb11)
    replace HR8 := Lib.hid (HR8.out.below hb11)
    replace HR10 := Lib.hid (HR10.out.below hb11)
    have HB11 := Lib.hid (HB10.out.trans (hb11.mono hBw10))
    clear hb11 HB10 hBw10 HRX
    go_wp2_with (first
      | (refine wpList_load_rowG rfl _ _ rfl _ rfl _ _ _ _ HR6.out Try.underlying24 rfl (by rw [HAS.out]; exact info_out) ?_)
      | (refine wpList_load_rowG rfl _ _ rfl _ rfl _ _ _ _ HR0.out Try.underlying24 rfl (by rw [HAS.out]; exact info_out) ?_)
      | (refine wpList_load_rowG rfl _ _ rfl _ rfl _ _ _ _ HR8.out Try.underlying24 rfl (by rw [HVS.out]; exact info_out) ?_)
      | (refine wpList_load_rowG rfl _ _ rfl _ rfl _ _ _ _ HR10.out Try.underlying24 rfl (by rw [HVS.out]; exact info_out) ?_))
    go_ret
    refine ⟨?_, by rw [HBE.out]; exact HB11.out⟩
    simp
end Go.Proofs.Ytkcpblfdmfkppaa
