/- jad.Check and the document's Right. No condition. -/
import Derived.Test.YtlpjcfiibbcdjaaGreatDoorJRefV
import Derived.Test.YtlpjcfiibbcdjaaGreatDoorJName
import Derived.Test.YtlpjcfiibbcdjaaGreatDoorJPrintV
import Derived.Deep.MidRow
namespace Go.Proofs.YtlpjcfiibbcdjaaGreatDoor
open Go.ChangeShapes Go.WideShapes Go.ChangeAt Go.RowKit
/-- A descriptor. -/
structure JD where
  name : List UInt8
  a : Int
  b : Int
  c : Int
  main : List UInt8
  size : Int
  hash : List UInt8
def JD.cells (j : JD) : List Value := [.string ⟨j.name.toArray⟩, .int .i64 j.a, .int .i64 j.b, .int .i64 j.c, .string ⟨j.main.toArray⟩, .int .i64 j.size] ++ j.hash.map encB
def JD.val (j : JD) : Value := .agg j.cells.toArray
abbrev JadT := 26
theorem info_jad : (Tryz.prog.info? JadT).map (·.size) = some 38 := by kernel_rfl
def RowJ (w : World) (g : Nat) (j : JD) : Prop := w.heap[g]? = some (.cells j.cells.toArray JadT (0, 0))
theorem RowJ.below {w w' : World} {g : Nat} {j : JD} (h : RowJ w g j) (hb : Below w.heap.size w w') : RowJ w' g j := by
  unfold RowJ at h ⊢
  rw [hb.block g (Array.getElem?_eq_some_iff.1 h).1]; exact h
theorem RowJ.cell {w : World} {g : Nat} {j : JD} (h : RowJ w g j) (k : Nat) : w.cell? ⟨g, k, none⟩ = j.cells[k]? := by
  rw [cell_of_row w g k _ _ _ h]; simp
theorem RowJ.c0 {w : World} {g : Nat} {j : JD} (h : RowJ w g j) : w.cell? ⟨g, 0, none⟩ = some (.string ⟨j.name.toArray⟩) := by rw [h.cell]; rfl
theorem RowJ.c1 {w : World} {g : Nat} {j : JD} (h : RowJ w g j) : w.cell? ⟨g, 1, none⟩ = some (.int .i64 j.a) := by rw [h.cell]; rfl
theorem RowJ.c2 {w : World} {g : Nat} {j : JD} (h : RowJ w g j) : w.cell? ⟨g, 2, none⟩ = some (.int .i64 j.b) := by rw [h.cell]; rfl
theorem RowJ.c3 {w : World} {g : Nat} {j : JD} (h : RowJ w g j) : w.cell? ⟨g, 3, none⟩ = some (.int .i64 j.c) := by rw [h.cell]; rfl
theorem RowJ.c4 {w : World} {g : Nat} {j : JD} (h : RowJ w g j) : w.cell? ⟨g, 4, none⟩ = some (.string ⟨j.main.toArray⟩) := by rw [h.cell]; rfl
theorem RowJ.c5 {w : World} {g : Nat} {j : JD} (h : RowJ w g j) : w.cell? ⟨g, 5, none⟩ = some (.int .i64 j.size) := by rw [h.cell]; rfl
def oddI (x : Int) : Bool := decide (x < 0) || decide (99 < x)
def okJ (j : JD) : Bool := !([j.a, j.b, j.c].any oddI) && (nameB j.name && (classB j.main && (decide (1 ≤ j.size) && decide (j.size ≤ 65536))))
theorem enter_check1 (args : Array Value) (w : World) : (callFunc 23 args).run Tryz.prog w = .ok (.enter 23 args) w := by kernel_rfl
theorem check1_any (w : World) (x : Int) : Calls Tryz.prog 23 #[.int .i64 x] w fun e w' => e = .returned (.bool (oddI x)) ∧ w = w' := by
  go_enter Tryz.func23, Tryz.ntmps23
  go_wp2
  all_goals (go_ret; refine ⟨ret_boolJ ?_, rfl⟩; unfold oddI)
  all_goals first | rfl | (simp; omega)
set_option maxRecDepth 100000 in
set_option maxHeartbeats 2000000 in
theorem IndexFuncI_any (w : World) (g o cap f : Nat) (xs : List Int) (p : Int → Bool) (hc : ∀ j (h : j < xs.length), w.cell? ⟨g, o + j, none⟩ = some (.int .i64 xs[j])) (hn : xs.length ≤ 65536)
    (he : ∀ (args : Array Value) (w : World), (callFunc f args).run Tryz.prog w = .ok (.enter f args) w) (hf : ∀ (w : World) x, Calls Tryz.prog f #[.int .i64 x] w fun e w' => e = .returned (.bool (p x)) ∧ w = w') :
    Calls Tryz.prog 41 #[.slice (some ⟨g, o, none⟩) xs.length cap, .func (.func f) #[] #[]] w fun e w' => ∃ r : Int, e = .returned (.int .i64 r) ∧ decide (0 ≤ r) = xs.any p ∧ w' = w := by
  obtain ⟨n, hN⟩ : ∃ n, n = xs.length := ⟨_, rfl⟩
  rw [← hN] at hn ⊢
  have HN := Lib.hid hN
  have HC := Lib.hid hc
  have HF := Lib.hid hf
  clear hc hf hN
  go_enter Tryz.func41, Tryz.ntmps41
  go_wp2_with fail
  go_loopg [8] n (fun gn i wr => ∃ j : Nat, j ≤ n ∧ gn = n - j ∧ i = .int .i64 j ∧ Hid (∀ k (h : k < xs.length), k < j → p xs[k] = false) ∧ wr = w)
  case atStart => exact ⟨0, by omega, by omega, by go_num, Lib.hid (fun k h h0 => by omega), rfl⟩
  case round =>
    obtain ⟨j, hj, rfl, rfl, HG, rfl⟩ := hrel
    by_cases hlt : j < n
    · have hjs : j < xs.length := by rw [← HN.out]; exact hlt
      have q0 : wr.cell? ⟨g, o + j, none⟩ = some (.int .i64 xs[j]) := HC.out j hjs
      have HY := Lib.hid (show p xs[j] = true → xs.any p = true from fun h => List.any_eq_true.2 ⟨xs[j], List.getElem_mem hjs, h⟩)
      have HX := Lib.hid (show p xs[j] = false → ∀ k (h : k < xs.length), k < j + 1 → p xs[k] = false from fun h k hk hk2 => by
        rcases Nat.lt_or_ge k j with h1 | h1
        · exact HG.out k hk h1
        · obtain rfl : k = j := by omega
          exact h)
      have HCX := Lib.hid (HF.out wr xs[j])
      have j1 : (j : Int) < n := by omega
      generalize xs[j] = x at *
      generalize p x = ok at *
      clear hjs
      go_wp2_with fail
      refine HCX.out.mono ?_
      rintro e w' ⟨rfl, rfl⟩
      cases ok
      · have HM := Lib.hid (HX.out rfl)
        go_wp2_with fail
        go_roundg (n - (j + 1))
        case measure => omega
        case rel => exact ⟨j + 1, by omega, rfl, by go_num, HM, rfl⟩
      · have HR := Lib.hid (HY.out rfl)
        go_wp2_with fail
        go_ret
        exact ⟨_, rfl, by rw [HR.out]; simp, rfl⟩
    · obtain rfl : j = n := by omega
      have HR := Lib.hid (show xs.any p = false from by
        rw [List.any_eq_false]
        intro c hc
        obtain ⟨k, hk, rfl⟩ := List.getElem_of_mem hc
        rw [HG.out k hk (by rw [← HN.out] at hk; exact hk)]
        decide)
      go_wp2_with fail
      go_ret
      exact ⟨_, rfl, by rw [HR.out]; rfl, rfl⟩
set_option maxRecDepth 100000 in
set_option maxHeartbeats 2000000 in
theorem ContainsFuncI_any (w : World) (g o cap f : Nat) (xs : List Int) (p : Int → Bool) (hc : ∀ j (h : j < xs.length), w.cell? ⟨g, o + j, none⟩ = some (.int .i64 xs[j])) (hn : xs.length ≤ 65536)
    (he : ∀ (args : Array Value) (w : World), (callFunc f args).run Tryz.prog w = .ok (.enter f args) w) (hf : ∀ (w : World) x, Calls Tryz.prog f #[.int .i64 x] w fun e w' => e = .returned (.bool (p x)) ∧ w = w') :
    Calls Tryz.prog 24 #[.slice (some ⟨g, o, none⟩) xs.length cap, .func (.func f) #[] #[]] w fun e w' => e = .returned (.bool (xs.any p)) ∧ w' = w := by
  have HI := Lib.hid (IndexFuncI_any w g o cap f xs p hc hn he hf)
  clear hc hf he hn
  generalize xs.any p = ok at *
  generalize xs.length = n at *
  go_enter Tryz.func24, Tryz.ntmps24
  go_wp2_with fail
  refine HI.out.mono ?_
  rintro e w' ⟨r, rfl, hr, rfl⟩
  go_wp2_with fail
  go_ret
  exact ⟨rfl, rfl⟩
theorem len38 {j : JD} (h : j.hash.length = 32) : j.cells.length = 38 := by unfold JD.cells; simp [h]
set_option maxHeartbeats 4000000 in
set_option maxRecDepth 100000 in
theorem Check_any (w : World) (j : JD) (hn : j.name.length ≤ 4294967000) (hm : j.main.length ≤ 4294967000) (hv : VW w) :
    Calls Tryz.prog 9 #[j.val] w fun e w' => e = .returned (.int .i64 (if okJ j then 0 else 8)) ∧ Below w.heap.size w w' := by
  obtain ⟨r, hr⟩ : ∃ r : Int, r = if okJ j then 0 else 8 := ⟨_, rfl⟩
  rw [← hr]
  unfold JD.val
  obtain ⟨C, hC⟩ : ∃ C, C = j.cells.toArray := ⟨_, rfl⟩
  rw [← hC]
  have hb : Below w.heap.size w (w.alloc (.cells C JadT)) := (Below.refl _ _).alloc (Nat.le_refl _) _
  have hrow : RowJ (w.alloc (.cells C JadT)) w.heap.size j := by rw [hC]; exact heap_alloc_last w _
  have hv1 := hv.below hb
  have HB := Lib.hid hb
  have HROW := Lib.hid hrow
  have HV := Lib.hid hv1
  unfold okJ at hr
  have HR := Lib.hid hr
  have HNM := Lib.hid (fun (w : World) => IsName_any w j.name hn)
  have HMN := Lib.hid (fun (w : World) (h : VW w) => IsClass_any w j.main hm h)
  clear hb hrow hv1 hr hv hn hm hC
  go_enter Tryz.func9, Tryz.ntmps9
  go_upto_region 2 with fail
  generalize w.alloc (.cells C JadT) = w1 at *
  have HCF := Lib.hid (show Calls Tryz.prog 24 #[.slice (some ⟨w.heap.size, 1, none⟩) 3 3, .func (.func 23) #[] #[]] w1 fun e w' => e = .returned (.bool ([j.a, j.b, j.c].any oddI)) ∧ w' = w1 from
    ContainsFuncI_any w1 w.heap.size 1 3 23 [j.a, j.b, j.c] oddI (fun k hk => by
      have : k = 0 ∨ k = 1 ∨ k = 2 := by simp at hk; omega
      rcases this with rfl | rfl | rfl
      · exact HROW.out.c1
      · exact HROW.out.c2
      · exact HROW.out.c3) (by simp) enter_check1 check1_any)
  generalize [j.a, j.b, j.c].any oddI = o1 at *
  generalize nameB j.name = o2 at *
  generalize classB j.main = o3 at *
  have f0 := HROW.out.c0
  go_wp2_with fail
  refine HCF.out.mono ?_
  rintro e w2 ⟨rfl, rfl⟩
  cases o1
  case true =>
    have HQ := Lib.hid (show r = 8 from by rw [HR.out]; rfl)
    go_wp2_with fail
    go_ret
    exact ⟨ret_int HQ.out.symm, HB.out⟩
  case false =>
    go_wp2_with fail
    refine (HNM.out w2).mono ?_
    rintro e w3 ⟨rfl, hb3⟩
    have HB3 := Lib.hid (HB.out.trans (hb3.mono HB.out.size))
    have HROW3 := Lib.hid (HROW.out.below hb3)
    have HV3 := Lib.hid (HV.out.below hb3)
    clear hb3 f0
    have f4 := HROW3.out.c4
    cases o2
    case false =>
      have HQ := Lib.hid (show r = 8 from by rw [HR.out]; rfl)
      go_wp2_with fail
      go_ret
      exact ⟨ret_int HQ.out.symm, HB3.out⟩
    case true =>
      have HM3 := Lib.hid (HMN.out w3 HV3.out)
      go_wp2_with fail
      refine HM3.out.mono ?_
      rintro e w4 ⟨rfl, hb4⟩
      have HB4 := Lib.hid (HB3.out.trans (hb4.mono HB3.out.size))
      have HROW4 := Lib.hid (HROW3.out.below hb4)
      clear hb4 f4
      have f5 := HROW4.out.c5
      cases o3
      case false =>
        have HQ := Lib.hid (show r = 8 from by rw [HR.out]; rfl)
        go_wp2_with fail
        go_ret
        exact ⟨ret_int HQ.out.symm, HB4.out⟩
      case true =>
        by_cases h1 : j.size < 1
        · have HQ := Lib.hid (show r = 8 from by rw [HR.out, decide_eq_false (show ¬ 1 ≤ j.size by omega)]; rfl)
          go_wp2_with fail
          go_ret
          exact ⟨ret_int HQ.out.symm, HB4.out⟩
        · by_cases h2 : 65536 < j.size
          · have HQ := Lib.hid (show r = 8 from by rw [HR.out, decide_eq_false (show ¬ j.size ≤ 65536 by omega), Bool.and_false]; rfl)
            go_wp2_with fail
            go_ret
            exact ⟨ret_int HQ.out.symm, HB4.out⟩
          · have HQ := Lib.hid (show r = 0 from by rw [HR.out, decide_eq_true (show 1 ≤ j.size by omega), decide_eq_true (show j.size ≤ 65536 by omega)]; rfl)
            go_wp2_with fail
            go_ret
            exact ⟨ret_int HQ.out.symm, HB4.out⟩
end Go.Proofs.YtlpjcfiibbcdjaaGreatDoor
