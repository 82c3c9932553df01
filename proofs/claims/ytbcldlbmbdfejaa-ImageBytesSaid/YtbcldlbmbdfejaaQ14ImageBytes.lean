/- image: laid. No condition. -/
import Derived.Test.YtbcldlbmbdfejaaQ13ImageBytes
namespace Go.Proofs.Ytbcldlbmbdfejaa
open Go.ChangeShapes Go.WideShapes Go.ChangeAt Go.RowKit
theorem rowS_all {α : Type} (one : RM α) (P : α → Prop) (h : ∀ s, P (one s).1) (n : Nat) (s : St) : ∀ x ∈ (rowS one n s).1, P x := by
  induction n generalizing s with
  | zero => intro x hx; cases hx
  | succ n ih =>
    intro x hx
    by_cases h0 : s.2 = 0
    · rw [rowS_good one n s h0] at hx
      rcases List.mem_cons.1 hx with rfl | hx
      · exact h s
      · exact ih _ x hx
    · rw [rowS_bad one n s h0] at hx
      cases hx
theorem rowS_len {α : Type} (one : RM α) (n : Nat) (s : St) : (rowS one n s).1.length ≤ n := by
  induction n generalizing s with
  | zero => exact Nat.le_refl _
  | succ n ih =>
    by_cases h0 : s.2 = 0
    · rw [rowS_good one n s h0, List.length_cons]
      have := ih (one s).2
      omega
    · rw [rowS_bad one n s h0]
      simp
/-- A code whose numbers were read. -/
def KP.sm (k : KP) : Prop := (0 ≤ k.pos ∧ k.pos < 4294967296) ∧ (0 ≤ k.len ∧ k.len < 65536) ∧ IntR k.stack ∧ IntR k.locals ∧ IntR k.args
theorem codeS_sm (bs : List UInt8) (s : St) : (codeS bs s).1.sm := by
  unfold codeS
  simp only [bindR, pureR]
  have h (t : St) := getS_two bs 2 (by omega) t
  have h' (t : St) : IntR (getS bs 2 t).1 := by have := h t; unfold IntR; omega
  exact ⟨getS_val bs 4 (by omega) _, h _, h' _, h' _, h' _⟩
/-- How far codes reach. -/
theorem laidP_take (l : List KP) (pos fin : Int) (k : KP) : laidP (k :: l) pos fin = if (k.len = 0 ∧ k.pos ≠ 0) ∨ (0 < k.len ∧ k.pos ≠ pos) then false else laidP l (pos + k.len) fin := rfl
set_option maxRecDepth 100000 in
set_option maxHeartbeats 8000000 in
theorem laid_any (w : World) (a : Option Addr) (n cap : Nat) (ks : List KW) (hs : Ss 6 KW.vals w a n ks) (hk : ∀ k ∈ ks, k.p.sm) (pos fin : Int) (hn : n ≤ 65535) (h0 : 0 ≤ pos) (h1 : pos ≤ 2097152) (hf : IntR fin) :
    Calls Try.prog 39 #[.slice a n cap, .int .i64 pos, .int .i64 fin] w fun e w' => e = .returned (.bool (laidP (ks.map KW.p) pos fin)) ∧ Below w.heap.size w w' := by
  have HS := Lib.hid hs
  have HLn := Lib.hid hs.1
  have HKS := Lib.hid hk
  clear hs hk
  go_enter Try.func39, Try.ntmps39
  go_wp2_with fail
  go_loopg [11, 1] n (fun gn i v wr => ∃ (j : Nat) (p : Int), j ≤ n ∧ gn = n - j ∧ i = .int .i64 j ∧ v = .int .i64 p ∧ 0 ≤ p ∧ p ≤ 2097152 + 65536 * j ∧ Hid (laidP (ks.map KW.p) pos fin = laidP ((ks.drop j).map KW.p) p fin) ∧ Hid (Below w.heap.size w wr))
  case atStart => exact ⟨0, pos, by omega, by omega, by go_num, rfl, h0, by omega, Lib.hid rfl, Lib.hid (Below.refl _ _)⟩
  case round =>
    obtain ⟨j, p, hj, rfl, rfl, rfl, hp0, hp1, HQ, HB⟩ := hrel
    by_cases hlt : j < n
    · obtain ⟨b, off, k, rfl, hbl, hk, q⟩ := Ss.get1 (HS.out.below HB.out) j hlt
      have hsm := HKS.out k (List.mem_of_getElem? hk)
      obtain ⟨hkl, hke⟩ := List.getElem?_eq_some_iff.1 hk
      have HD := Lib.hid (show laidP ((ks.drop j).map KW.p) p fin = if (k.len = 0 ∧ k.pos ≠ 0) ∨ (0 < k.len ∧ k.pos ≠ p) then false else laidP ((ks.drop (j + 1)).map KW.p) (p + k.len) fin by
        rw [List.drop_eq_getElem_cons hkl, hke, List.map_cons, laidP_take]; rfl)
      obtain ⟨x0, x1, x2, x3, x4, ta, tn, tc, ts⟩ := k
      obtain ⟨⟨s1, s2⟩, ⟨s3, s4⟩, _⟩ := hsm
      simp only at HD
      have s1' : 0 ≤ x0 := s1
      have s2' : x0 < 4294967296 := s2
      have s3' : 0 ≤ x1 := s3
      have s4' : x1 < 65536 := s4
      have p0 := q 0 (by omega)
      have p1 := q 1 (by omega)
      have p2 := q 2 (by omega)
      have p3 := q 3 (by omega)
      have p4 := q 4 (by omega)
      have p5 := q 5 (by omega)
      simp only [KW.vals, List.getElem?_cons_zero, List.getElem?_cons_succ, Nat.add_zero] at p0 p1 p2 p3 p4 p5
      clear q hk hkl hke s1 s2 s3 s4
      go_upto_region 4 with fail
      have hal : Below wr.heap.size wr (wr.alloc (.cells #[.int .i64 x0, .int .i64 x1, .int .i64 x2, .int .i64 x3, .int .i64 x4, .slice ta tn tc] 62)) := (Below.refl _ _).alloc (Nat.le_refl _) _
      have HBA := Lib.hid (HB.out.trans (hal.mono HB.out.size))
      have HRA := heap_alloc_last wr (.cells #[.int .i64 x0, .int .i64 x1, .int .i64 x2, .int .i64 x3, .int .i64 x4, .slice ta tn tc] 62)
      clear hal HB p0 p1 p2 p3 p4 p5
      generalize wr.alloc (.cells #[.int .i64 x0, .int .i64 x1, .int .i64 x2, .int .i64 x3, .int .i64 x4, .slice ta tn tc] 62) = WA at *
      generalize wr.heap.size = gb at *
      have c0 := row_cell HRA 0 rfl
      have c1 := row_cell HRA 1 rfl
      clear HRA
      by_cases hz : x1 = 0
      · subst hz
        by_cases hx : x0 = 0
        · have e1 : (x0 != 0) = false := by simp [hx]
          have HD2 := Lib.hid (show laidP (ks.map KW.p) pos fin = laidP ((ks.drop (j + 1)).map KW.p) p fin by rw [HQ.out, HD.out, if_neg (by omega)]; simp)
          clear hx HD HQ
          go_wp2_with fail
          go_roundg (n - (j + 1))
          case measure => omega
          case rel => exact ⟨j + 1, p, by omega, rfl, by go_num, by go_num, by omega, by omega, HD2, HBA⟩
        · have e1 : (x0 != 0) = true := by simp [hx]
          have HF := Lib.hid (show laidP (ks.map KW.p) pos fin = false by rw [HQ.out, HD.out, if_pos (by omega)])
          clear hx HD HQ
          go_wp2_with fail
          go_ret
          exact ⟨by rw [HF.out]; rfl, HBA.out⟩
      · have e1 : (x1 == 0) = false := by simp [hz]
        have e2 : decide (0 < x1) = true := decide_eq_true (by omega)
        by_cases hx : x0 = p
        · have e3 : (x0 != p) = false := by simp [hx]
          have HD2 := Lib.hid (show laidP (ks.map KW.p) pos fin = laidP ((ks.drop (j + 1)).map KW.p) (p + x1) fin by rw [HQ.out, HD.out, if_neg (by omega)])
          clear hx HD HQ hz
          go_wp2_with fail
          go_roundg (n - (j + 1))
          case measure => omega
          case rel => exact ⟨j + 1, p + x1, by omega, rfl, by go_num, by go_num, by omega, by omega, HD2, HBA⟩
        · have e3 : (x0 != p) = true := by simp [hx]
          have HF := Lib.hid (show laidP (ks.map KW.p) pos fin = false by rw [HQ.out, HD.out, if_pos (by omega)])
          clear hx HD HQ hz
          go_wp2_with fail
          go_ret
          exact ⟨by rw [HF.out]; rfl, HBA.out⟩
    · obtain rfl : n = j := by omega
      have HE := Lib.hid (show laidP (ks.map KW.p) pos fin = decide (p = fin) by rw [HQ.out, List.drop_eq_nil_of_le (by rw [HLn.out]; exact Nat.le_refl _)]; rfl)
      go_wp2_with fail
      go_ret
      refine ⟨ret_boolI ?_, HB.out⟩
      rw [HE.out, Bool.eq_iff_iff]
      simp
end Go.Proofs.Ytbcldlbmbdfejaa
