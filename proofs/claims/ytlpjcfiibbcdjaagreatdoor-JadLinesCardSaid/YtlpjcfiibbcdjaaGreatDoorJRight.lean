/- The document's Right. No condition. -/
import Derived.Test.YtlpjcfiibbcdjaaGreatDoorJJad
namespace Go.Proofs.YtlpjcfiibbcdjaaGreatDoor
open Go.ChangeShapes Go.WideShapes Go.ChangeAt Go.RowKit
set_option maxHeartbeats 4000000 in
set_option maxRecDepth 100000 in
theorem Right_any (w : World) (j : JD) (hn : j.name.length ≤ 281474976710656) (hm : j.main.length ≤ 281474976710656) :
    Calls Tryz.prog 8 #[j.val] w fun e w' => e = .returned (.bool (okJ j)) ∧ Below w.heap.size w w' := by
  obtain ⟨r, hr⟩ : ∃ r, r = okJ j := ⟨_, rfl⟩
  rw [← hr]
  unfold JD.val
  obtain ⟨C, hC⟩ : ∃ C, C = j.cells.toArray := ⟨_, rfl⟩
  rw [← hC]
  have hb : Below w.heap.size w (w.alloc (.cells C JadT)) := (Below.refl _ _).alloc (Nat.le_refl _) _
  have hrow : RowJ (w.alloc (.cells C JadT)) w.heap.size j := by rw [hC]; exact heap_alloc_last w _
  have HB := Lib.hid hb
  have HROW := Lib.hid hrow
  unfold okJ at hr
  have HNM := Lib.hid (fun (w : World) => refIsName_any w j.name hn)
  have HMN := Lib.hid (fun (w : World) => refIsClass_any w j.main hm)
  obtain ⟨A, hA⟩ : ∃ A, A = [j.a, j.b, j.c] := ⟨_, rfl⟩
  have hl : A.length = 3 := by rw [hA]; rfl
  have hix := fun w' k h => idx3 w' A hl k h
  rw [show (A.map fun x => Value.int .i64 x).toArray = #[.int .i64 j.a, .int .i64 j.b, .int .i64 j.c] from by rw [hA]; rfl] at hix
  rw [← hA] at hr
  have HR := Lib.hid hr
  have HIX := Lib.hid hix
  have HL := Lib.hid hl
  clear hb hrow hr hn hm hC hA hl hix
  go_enter Tryz.func8, Tryz.ntmps8
  go_upto_region 1 with fail
  generalize w.alloc (.cells C JadT) = w1 at *
  have f0 := HROW.out.c0
  have f1 := HROW.out.c1
  have f2 := HROW.out.c2
  have f3 := HROW.out.c3
  have f4 := HROW.out.c4
  have f5 := HROW.out.c5
  generalize nameB j.name = o2 at *
  generalize classB j.main = o3 at *
  go_wp2_with fail
  go_loopg [7] 3 (fun gn i wr => ∃ k : Nat, k ≤ 3 ∧ gn = 3 - k ∧ i = .int .i64 k ∧ Hid (∀ m (h : m < A.length), m < k → oddI A[m] = false) ∧ wr = w1)
  case atStart => exact ⟨0, by omega, by omega, by go_num, Lib.hid (fun k h h0 => by omega), rfl⟩
  case round =>
    obtain ⟨k, hk, rfl, rfl, HG, rfl⟩ := hrel
    by_cases hlt : k < 3
    · have k1 : (k : Int) < 3 := by omega
      have hkl : k < A.length := by rw [HL.out]; exact hlt
      have hx := HIX.out wr k hkl
      have HY := Lib.hid (show oddI A[k] = true → r = false from fun h => by rw [HR.out, show A.any oddI = true from List.any_eq_true.2 ⟨A[k], List.getElem_mem hkl, h⟩]; rfl)
      have HX := Lib.hid (show oddI A[k] = false → ∀ m (h : m < A.length), m < k + 1 → oddI A[m] = false from fun h m hm hm2 => by
        rcases Nat.lt_or_ge m k with h1 | h1
        · exact HG.out m hm h1
        · obtain rfl : m = k := by omega
          exact h)
      generalize A[k] = x at *
      clear hkl
      by_cases h0 : x < 0
      · have HQ := Lib.hid (HY.out (by unfold oddI; simp [h0]))
        go_wp2_with fail
        go_ret
        exact ⟨ret_boolJ HQ.out.symm, HB.out⟩
      · by_cases h9 : 99 < x
        · have HQ := Lib.hid (HY.out (by unfold oddI; simp [h9]))
          go_wp2_with fail
          go_ret
          exact ⟨ret_boolJ HQ.out.symm, HB.out⟩
        · have HM := Lib.hid (HX.out (by unfold oddI; simp [h0, h9]))
          go_wp2_with fail
          go_roundg (3 - (k + 1))
          case measure => omega
          case rel => exact ⟨k + 1, by omega, rfl, by go_num, HM, rfl⟩
    · obtain rfl : k = 3 := by omega
      have hno : A.any oddI = false := by
        rw [List.any_eq_false]
        intro c hc
        obtain ⟨m, hm, rfl⟩ := List.getElem_of_mem hc
        rw [HG.out m hm (by rw [HL.out] at hm; exact hm)]
        decide
      have HR2 := Lib.hid (show r = (o2 && (o3 && (decide (1 ≤ j.size) && decide (j.size ≤ 65536)))) from by rw [HR.out, hno]; rfl)
      clear hno HR
      go_wp2_with fail
      refine (HNM.out wr).mono ?_
      rintro e w3 ⟨rfl, rfl⟩
      cases o2
      case false =>
        go_wp2_with fail
        go_ret
        exact ⟨ret_boolJ (by rw [HR2.out]; rfl), HB.out⟩
      case true =>
        go_wp2_with fail
        refine (HMN.out w3).mono ?_
        rintro e w4 ⟨rfl, rfl⟩
        cases o3
        case false =>
          go_wp2_with fail
          go_ret
          exact ⟨ret_boolJ (by rw [HR2.out]; rfl), HB.out⟩
        case true =>
          by_cases h1 : 1 ≤ j.size
          · have HQ := Lib.hid (show r = decide (j.size ≤ 65536) from by rw [HR2.out, decide_eq_true h1]; rfl)
            go_wp2_with fail
            go_ret
            exact ⟨ret_boolJ HQ.out.symm, HB.out⟩
          · have HQ := Lib.hid (show r = false from by rw [HR2.out, decide_eq_false h1]; rfl)
            go_wp2_with fail
            go_ret
            exact ⟨ret_boolJ HQ.out.symm, HB.out⟩
end Go.Proofs.YtlpjcfiibbcdjaaGreatDoor
