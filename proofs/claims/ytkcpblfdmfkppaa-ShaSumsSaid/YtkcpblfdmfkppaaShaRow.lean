/- sha: the reference's numbers as rows. No condition. -/
import Derived.Test.YtkcpblfdmfkppaaRadix
import Derived.Test.YtkcpblfdmfkppaaShaAdd
import Derived.Test.YtkcpblfdmfkppaaSs2
import Derived.Test.YtkcpblfdmfkppaaLib3
import Derived.Laws.MakeOwn
import Derived.Test.YtkcpblfdmfkppaaRegionE
namespace Go.Proofs.Ytkcpblfdmfkppaa
open Go.ChangeShapes Go.WideShapes Go.ChangeAt Go.RowKit
def encU (x : Nat) : Value := .int .u64 (x : Nat)
theorem encU_cell (x : Nat) : (encU x).oneCell' = true := rfl
theorem oneU : OneE 57 38 (.int .u64 0) 8 := ⟨Try.underlying57, by kernel_rfl, rfl⟩
set_option maxHeartbeats 4000000 in
set_option maxRecDepth 100000 in
theorem row_any (w : World) (v : Nat) (hv : v < 18446744073709551616) :
    Calls Try.prog 38 #[.int .u64 v] w fun e w' => e = .returned (.slice (some ⟨w.heap.size, 0, none⟩) 4 4) ∧ Sl encU w' (some ⟨w.heap.size, 0, none⟩) 4 (rowL v) ∧ Below w.heap.size w w' := by
  go_enter Try.func38, Try.ntmps38
  go_wp2_with fail
  go_ret
  refine ⟨rfl, Sl.lit (heap_alloc_last w _) (by simp [rowL, encU]) rfl, (Below.refl _ _).alloc (Nat.le_refl _) _⟩
theorem make_u64 (w : World) (n : Nat) (h : n ≤ 1048576) : (Instr.makeSlice 57 (.int .i64 n) (.int .i64 n)).run Try.prog w = .ok (.slice (some ⟨w.heap.size, 0, none⟩) n n) (w.alloc (.cells (Array.replicate n (encU 0)) 38)) := by
  obtain ⟨i, hi, hz0, hz1, hz2⟩ := info_parts (show (Try.prog.info? 38).map (fun i => (i.zero, i.size, i.bytes)) = some (some (.int .u64 0), 1, 8) by kernel_rfl)
  have hr := run_makeSlice (P := Try.prog) (w := w) 57 38 i (.int .u64 0) Try.underlying57 hi hz0 .i64 .i64 n n (by omega) (Int.le_refl _) (by rw [hz1]; omega) (by rw [hz2]; omega) (by omega)
  rw [hz1] at hr
  simp only [Int.toNat_natCast, Nat.mul_one] at hr
  rw [show (Value.int IntKind.u64 0).cells = #[.int .u64 0] from rfl, show madeCells #[Value.int .u64 0] n = Array.replicate n (encU 0) by
    apply Array.ext
    · simp [madeCells]
    · intro i h1 h2
      simp [madeCells, Nat.mod_one, encU]] at hr
  exact hr
/-- A row of numbers in a block. -/
def RowU (w : World) (g : Nat) (L : List Nat) : Prop := w.heap[g]? = some (.cells (L.map encU).toArray 38)
theorem RowU.at {w : World} {g : Nat} {L : List Nat} (h : RowU w g L) (i : Nat) (hi : i < L.length) : w.cell? ⟨g, i, none⟩ = some (.int .u64 ((L.getD i 0 : Nat) : Int)) ∧ w.frozen? ⟨g, i, none⟩ = false := by
  constructor
  · rw [cell_of_row w g i _ _ _ h, List.getElem?_toArray, List.getElem?_map, List.getElem?_eq_getElem hi]
    simp [List.getD, hi, encU]
  · unfold World.frozen?
    unfold RowU at h
    rw [h]
    rfl
theorem RowU.put {w : World} {g : Nat} {L : List Nat} (h : RowU w g L) (i x : Nat) : RowU (w.setCell ⟨g, i, none⟩ (.int .u64 (x : Nat))) g (L.set i x) := by
  unfold RowU at h ⊢
  unfold World.setCell
  simp only [Array.getElem?_modify, h, Option.map_some, if_true]
  congr 2
  rw [List.setIfInBounds_toArray, List.map_set]
  rfl
theorem RowU.sl {w : World} {g n : Nat} {L : List Nat} (h : RowU w g L) (hn : L.length = n) : Sl encU w (some ⟨g, 0, none⟩) n L := Sl.lit h rfl hn
/-- Two numbers of a row. -/
def TwoU (g m1 m u z : Nat) (y : World) : Prop := y.cell? ⟨g, m1, none⟩ = some (.int .u64 ((u : Nat) : Int)) ∧ y.cell? ⟨g, m, none⟩ = some (.int .u64 ((z : Nat) : Int))
theorem getD_pos {L : List Nat} {i : Nat} (h : i < L.length) : L.getD i 0 = L[i] := by simp [List.getD, h]
set_option maxHeartbeats 4000000 in
set_option maxRecDepth 100000 in
theorem times_any (w : World) (a : Option Addr) (la ca : Nat) (X : List Nat) (hX : Sl encU w a la X) (dX : Dig X) (b : Option Addr) (lb cb : Nat) (Y : List Nat) (hY : Sl encU w b lb Y) (dY : Dig Y) (h1 : la ≤ 16) (h2 : lb ≤ 16) :
    Calls Try.prog 37 #[.slice a la ca, .slice b lb cb] w fun e w' => ∃ Z, e = .returned (.slice (some ⟨w.heap.size, 0, none⟩) (la + lb + 1) (la + lb + 1)) ∧ Sl encU w' (some ⟨w.heap.size, 0, none⟩) (la + lb + 1) Z ∧ Dig Z ∧ dv Z = dv X * dv Y ∧ Below w.heap.size w w' := by
  have HX := Lib.hid hX
  have HY := Lib.hid hY
  have HDX := Lib.hid dX
  have HDY := Lib.hid dY
  clear hX hY dX dY
  go_enter Try.func37, Try.ntmps37
  obtain ⟨n, hn⟩ : ∃ n, n = la + lb + 1 := ⟨_, rfl⟩
  have hmk := make_u64 w n (by omega)
  have hnn : (la : Int) + (lb : Int) + 1 = (n : Int) := by omega
  rw [← hn]
  have HN := Lib.hid hn
  clear hn
  have hal : Below w.heap.size w (w.alloc (.cells ((List.replicate n 0).map encU).toArray 38)) := (Below.refl _ _).alloc (Nat.le_refl _) _
  have hr0 : RowU (w.alloc (.cells ((List.replicate n 0).map encU).toArray 38)) w.heap.size (List.replicate n 0) := heap_alloc_last w _
  rw [show (List.replicate n 0).map encU = List.replicate n (encU 0) by simp, show (List.replicate n (encU 0)).toArray = Array.replicate n (encU 0) by simp] at hal hr0
  have HB0 := Lib.hid hal
  have HR0 := Lib.hid hr0
  clear hal hr0
  go_upto_region 2 with fail
  generalize w.alloc (.cells (Array.replicate n (encU 0)) 38) = w1 at *
  obtain ⟨g, hg⟩ : ∃ g, w.heap.size = g := ⟨_, rfl⟩
  rw [hg] at HB0 HR0 ⊢
  have HG := Lib.hid hg
  clear hg hmk
  have hn33 : n ≤ 33 := by have := HN.out; omega
  go_wp2_with fail
  go_loopg [20] la (fun gn i wr => ∃ j Z, j ≤ la ∧ gn = la - j ∧ i = .int .i64 (j : Nat) ∧ Hid (RowU wr g Z) ∧ Hid (Z.length = n ∧ Dig Z ∧ dv Z = dv (X.take j) * dv Y) ∧ Hid (Below g w wr))
  case atStart => exact ⟨0, List.replicate n 0, by omega, by omega, by go_num, HR0, Lib.hid ⟨by simp, fun i hi => by simp, by rw [dv_zeros]; simp [dv]⟩, HB0⟩
  case round =>
    clear HR0 HB0
    obtain ⟨j, Z, hj, rfl, rfl, HR, HZ, HB⟩ := hrel
    by_cases hlt : j < la
    · have hj1 : (j : Int) < la := by omega
      have hXl := HX.out.1
      obtain ⟨bx, ox, rfl, hbx, hcx⟩ := (HX.out.below (HG.out ▸ HB.out)).2 (by omega)
      have hcj := hcx j (by omega)
      obtain ⟨x, hx⟩ : ∃ x, x = X[j]'(by omega) := ⟨_, rfl⟩
      rw [← hx] at hcj
      unfold encU at hcj
      have hx16 : x < 65536 := by rw [hx]; exact HDX.out j (by omega)
      have HXJ := Lib.hid (show dv (X.take (j + 1)) = dv (X.take j) + 65536 ^ j * x by rw [dv_take X j (by omega), hx])
      clear hXl hbx hcx hx
      go_wp2_with fail
      go_loopg [27] lb (fun gn i wr => ∃ k Z, k ≤ lb ∧ gn = lb - k ∧ i = .int .i64 (k : Nat) ∧ Hid (RowU wr g Z) ∧ Hid (Z.length = n ∧ Dig Z ∧ dv Z = dv (X.take j) * dv Y + 65536 ^ j * x * dv (Y.take k)) ∧ Hid (Below g w wr))
      case atStart => exact ⟨0, Z, by omega, by omega, by go_num, HR, Lib.hid ⟨HZ.out.1, HZ.out.2.1, by rw [HZ.out.2.2]; simp [dv]⟩, HB⟩
      case round =>
        clear HR HZ HB
        obtain ⟨k, Z, hk, rfl, rfl, HR, HZ, HB⟩ := hrel
        by_cases hkt : k < lb
        · have hk1 : (k : Int) < lb := by omega
          have hYl := HY.out.1
          obtain ⟨by_, oy, rfl, hby, hcy⟩ := (HY.out.below (HG.out ▸ HB.out)).2 (by omega)
          have hck := hcy k (by omega)
          obtain ⟨y, hy⟩ : ∃ y, y = Y[k]'(by omega) := ⟨_, rfl⟩
          rw [← hy] at hck
          unfold encU at hck
          have hy16 : y < 65536 := by rw [hy]; exact HDY.out k (by omega)
          obtain ⟨T, hT⟩ : ∃ T, T = dv (X.take j) * dv Y + 65536 ^ j * x * dv (Y.take (k + 1)) := ⟨_, rfl⟩
          have hTT : T = dv Z + 65536 ^ (j + k) * (x * y) := by
            rw [hT, HZ.out.2.2, dv_take Y k (by omega), ← hy, Nat.mul_add, Nat.pow_add]
            have e : 65536 ^ j * x * (65536 ^ k * y) = 65536 ^ j * 65536 ^ k * (x * y) := by ac_rfl
            rw [e]
            omega
          have hTlt : T < 65536 ^ (n - 1) := by
            have hn := HN.out
            have e1 : T ≤ dv X * dv Y := by
              rw [hT]
              have q1 : dv (X.take (j + 1)) * dv (Y.take (k + 1)) ≤ dv X * dv Y := Nat.mul_le_mul (dv_take_le X _) (dv_take_le Y _)
              have q2 : dv (X.take j) * dv Y + 65536 ^ j * x * dv (Y.take (k + 1)) ≤ dv X * dv Y := by
                have q3 : 65536 ^ j * x * dv (Y.take (k + 1)) ≤ 65536 ^ j * x * dv Y := Nat.mul_le_mul_left _ (dv_take_le Y _)
                have q4 : dv (X.take (j + 1)) * dv Y ≤ dv X * dv Y := Nat.mul_le_mul_right _ (dv_take_le X _)
                rw [HXJ.out, Nat.add_mul] at q4
                omega
              exact q2
            have e2 : dv X * dv Y < 65536 ^ la * 65536 ^ lb := by
              have a1 := dv_lt X HDX.out
              have a2 := dv_lt Y HDY.out
              have hXl := HX.out.1
              rw [hXl] at a1
              rw [hYl] at a2
              have p1 : 0 < 65536 ^ lb := Nat.pow_pos (by omega)
              exact Nat.lt_of_le_of_lt (Nat.mul_le_mul_left _ (Nat.le_of_lt a2)) (Nat.mul_lt_mul_of_pos_right a1 p1)
            rw [← Nat.pow_add] at e2
            rw [show n - 1 = la + lb by omega]
            omega
          obtain ⟨p, hp⟩ : ∃ p, p = j + k := ⟨_, rfl⟩
          have hpE : (j : Int) + (k : Int) = (p : Int) := by omega
          have hpn : p + 1 < n := by have := HN.out; omega
          have hpn1 : (p : Int) < (n : Int) := by omega
          have hZl := HZ.out.1
          obtain ⟨c0, f0⟩ := HR.out.at p (by omega)
          obtain ⟨o, ho⟩ : ∃ o, o = Z.getD p 0 := ⟨_, rfl⟩
          rw [← ho] at c0
          have ho16 : o < 65536 := by rw [ho, getD_pos (by omega)]; exact HZ.out.2.1 p (by omega)
          obtain ⟨xy, hxy⟩ : ∃ xy, xy = x * y := ⟨_, rfl⟩
          have hxyE : (x : Int) * (y : Int) = (xy : Int) := by rw [hxy]; push_cast; rfl
          have hxyl : xy ≤ 4294836225 := by
            rw [hxy]
            exact Nat.mul_le_mul (show x ≤ 65535 by omega) (show y ≤ 65535 by omega)
          have hsE : (o : Int) + (xy : Int) = ((o + xy : Nat) : Int) := by omega
          obtain ⟨s, hs⟩ : ∃ s, s = o + xy := ⟨_, rfl⟩
          rw [← hs] at hsE
          have hs33 : s < 8589934592 := by omega
          have hnx : RowU (wr.setCell ⟨g, p, none⟩ (.int .u64 (s : Nat))) g (Z.set p s) := HR.out.put p s
          have hdz : dv (Z.set p s) = T := by
            have q := dv_set Z p s (by omega)
            rw [hTT, ← hxy, ← hp]
            have q2 : s = Z[p]'(by omega) + xy := by rw [hs, ho, getD_pos (by omega)]
            rw [q2, Nat.mul_add] at q
            rw [q2]
            omega
          have HR1 := Lib.hid hnx
          have HZ1 := Lib.hid (show (Z.set p s).length = n ∧ DigBut (Z.set p s) p ∧ dv (Z.set p s) = T from ⟨by rw [List.length_set]; exact hZl, DigBut.ofSet HZ.out.2.1 p s, hdz⟩)
          have HB1 := Lib.hid (HB.out.setCell (p := ⟨g, p, none⟩) (Nat.le_refl g) (.int .u64 (s : Nat)))
          have hs1 : (Z.set p s).getD p 0 = s := by rw [getD_pos (by rw [List.length_set]; omega), List.getElem_set_self]
          have HS1 := Lib.hid hs1
          have HTL := Lib.hid hTlt
          have HT := Lib.hid hT
          clear hYl hby hcy hy hT hTT hTlt hp hZl ho hxy hs hnx hdz hs1 HR HZ HB
          go_wp2_with fail
          go_loopg [10] (n - p) (fun gn i wr => ∃ m Z, m < n ∧ gn = n - m ∧ i = .int .i64 (m : Nat) ∧ Hid (RowU wr g Z) ∧ Hid (Z.length = n ∧ DigBut Z m ∧ dv Z = T) ∧ Z.getD m 0 < 8589934592 ∧ Hid (Below g w wr))
          case atStart => exact ⟨p, Z.set p s, by omega, by omega, by go_num, HR1, HZ1, by rw [HS1.out]; exact hs33, HB1⟩
          case round =>
            clear HR1 HZ1 HB1 HS1
            obtain ⟨m, Z, hm, rfl, rfl, HR, HZ, hz33, HB⟩ := hrel
            have hZl := HZ.out.1
            obtain ⟨c1, f1⟩ := HR.out.at m (by omega)
            obtain ⟨z, hz⟩ : ∃ z, z = Z.getD m 0 := ⟨_, rfl⟩
            rw [← hz] at c1 hz33
            have hmn1 : (m : Int) < (n : Int) := by omega
            by_cases hbig : 65536 ≤ z
            · have hm2 : m + 1 < n := by
                rcases Nat.lt_or_ge (m + 1) n with h | h
                · exact h
                · have q := dv_ge Z m (by omega)
                  rw [HZ.out.2.2, ← getD_pos (by omega), ← hz] at q
                  have q2 := HTL.out
                  have q3 : m = n - 1 := by omega
                  rw [← q3] at q2
                  have q4 : 65536 ^ m * 65536 ≤ 65536 ^ m * z := Nat.mul_le_mul_left _ hbig
                  omega
              obtain ⟨m1, hm1⟩ : ∃ m1, m1 = m + 1 := ⟨_, rfl⟩
              have hm1E : (m : Int) + 1 = (m1 : Int) := by omega
              have hm1n : (m1 : Int) < (n : Int) := by omega
              have hne1 : ¬ (m = m1) := by omega
              have hne2 : ¬ (m1 = m) := by omega
              obtain ⟨c2, f2⟩ := HR.out.at m1 (by omega)
              obtain ⟨u, hu⟩ : ∃ u, u = Z.getD m1 0 := ⟨_, rfl⟩
              rw [← hu] at c2
              have hu16 : u < 65536 := by rw [hu, getD_pos (by omega)]; exact HZ.out.2.1 m1 (by omega) (by omega)
              obtain ⟨q, hq⟩ : ∃ q, q = z / 65536 := ⟨_, rfl⟩
              obtain ⟨r, hr⟩ : ∃ r, r = z % 65536 := ⟨_, rfl⟩
              obtain ⟨s2, hs2⟩ : ∃ s2, s2 = u + q := ⟨_, rfl⟩
              have hqE : (z : Int) / 65536 = (q : Int) := by omega
              have hrE : (z : Int) % 65536 = (r : Int) := by omega
              have hs2E : (u : Int) + (q : Int) = (s2 : Int) := by omega
              have hs2l : s2 < 8589934592 := by omega
              have hbigE : (65536 : Int) ≤ (z : Int) := by omega
              have hcar : carry Z m = (Z.set m1 s2).set m r := by unfold carry; rw [← hm1, ← hu, ← hz, hs2, hq, hr]
              have hnx : RowU ((wr.setCell ⟨g, m1, none⟩ (.int .u64 (s2 : Nat))).setCell ⟨g, m, none⟩ (.int .u64 (r : Nat))).drew g (carry Z m) := by
                rw [hcar]
                exact (show RowU ((wr.setCell ⟨g, m1, none⟩ (.int .u64 (s2 : Nat))).setCell ⟨g, m, none⟩ (.int .u64 (r : Nat))) g ((Z.set m1 s2).set m r) from (HR.out.put m1 s2).put m r)
              have HR2 := Lib.hid hnx
              have HZ2 := Lib.hid (show (carry Z m).length = n ∧ DigBut (carry Z m) m1 ∧ dv (carry Z m) = T from ⟨by rw [carry_length]; exact hZl, by rw [hm1]; exact carry_but Z m HZ.out.2.1, by rw [carry_dv Z m (by omega)]; exact HZ.out.2.2⟩)
              have HB2 := Lib.hid ((HB.out.setCell (p := ⟨g, m1, none⟩) (Nat.le_refl g) (.int .u64 (s2 : Nat))).setCell (p := ⟨g, m, none⟩) (Nat.le_refl g) (.int .u64 (r : Nat))).drew
              have HC2 := Lib.hid (show (carry Z m).getD m1 0 < 8589934592 by rw [hm1, carry_at Z m (by omega), ← hm1, ← hu, ← hz]; omega)
              have hm1l : m1 < n := by omega
              have hm1g : m < m1 := by omega
              clear hz hu hq hr hs2 hcar hnx HR HZ HB hm1
              go_upto_region 12 with fail
              have l1 := fun y (h : TwoU g m1 m u z y) => h.1
              have l2 := fun y (h : TwoU g m1 m u z y) => h.2
              have hSw : TwoU g m1 m u z wr.drew := ⟨c2, c1⟩
              refine wp_region_lexE (TwoU g m1 m u z) 15 [(0, true), (1, true), (2, true), (3, true), (4, true), (5, true), (6, true), (7, true), (8, true), (9, true), (10, true), (11, true), (12, true), (13, true), (14, true)] (by kernel_rfl) (by kernel_rfl) (fun c a d v w h => by cases d <;> exact h) ?_
              iterate 15
                refine lexE_step (fun K hK => ?_)
                simp only [lexOp, List.getElem?_toArray, List.getElem?_cons_succ, List.getElem?_cons_zero]
                rw [if_pos (by rfl)]
                apply Exists.intro
                refine ⟨fun w' hS' => ?_, hSw, ?_⟩
                · first | (go_simp <;> with_reducible rfl) | (go_simp; go_bits; with_reducible rfl)
                go_simp
                try go_bits
                refine hK _ _ ?_
                clear hK K
              refine lexE_last ?_
              simp only [lastOp, List.getElem?_toArray, List.getElem?_cons_succ, List.getElem?_cons_zero]
              rw [if_pos (by rfl)]
              go_step
              go_wp2_with fail
              go_roundg (n - m1)
              case measure => omega
              case rel => exact ⟨m1, carry Z m, hm1l, rfl, rfl, HR2, HZ2, HC2.out, HB2⟩
            · have hbigE : (z : Int) < 65536 := by omega
              have HZN := Lib.hid (show Z.length = n ∧ Dig Z ∧ dv Z = dv (X.take j) * dv Y + 65536 ^ j * x * dv (Y.take (k + 1)) from ⟨hZl, HZ.out.2.1.dig (fun h => by rw [← getD_pos h, ← hz]; omega), by rw [HZ.out.2.2, HT.out]⟩)
              have hbF : decide ((65536 : Int) ≤ (z : Int)) = false := decide_eq_false (by omega)
              clear hz HZ hZl hbig hbigE hz33 hm f1
              go_wp2_with fail
              go_roundg (lb - (k + 1))
              case measure => omega
              case rel => exact ⟨k + 1, Z, by omega, rfl, by go_num, HR, HZN, HB⟩
        · obtain rfl : k = lb := by omega
          have hYl := HY.out.1
          have HZN := Lib.hid (show Z.length = n ∧ Dig Z ∧ dv Z = dv (X.take (j + 1)) * dv Y from ⟨HZ.out.1, HZ.out.2.1, by
            rw [HZ.out.2.2, HXJ.out, show Y.take k = Y from List.take_of_length_le (by omega), Nat.add_mul]⟩)
          clear hYl hcj
          go_wp2_with fail
          go_roundg (la - (j + 1))
          case measure => omega
          case rel => exact ⟨j + 1, Z, by omega, rfl, by go_num, HR, HZN, HB⟩
    · obtain rfl : j = la := by omega
      have hXl := HX.out.1
      have hZ := HZ.out
      have HS := Lib.hid (HR.out.sl hZ.1)
      go_wp2_with fail
      go_ret
      rw [HG.out]
      refine ⟨Z, rfl, HS.out, hZ.2.1, ?_, HB.out⟩
      rw [hZ.2.2, List.take_of_length_le (by omega)]
end Go.Proofs.Ytkcpblfdmfkppaa
