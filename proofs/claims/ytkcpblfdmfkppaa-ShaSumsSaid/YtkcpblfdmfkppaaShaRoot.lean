/- sha: the reference's roots. No condition. -/
import Derived.Test.YtkcpblfdmfkppaaShaRow
import Derived.Test.YtkcpblfdmfkppaaRegionS
namespace Go.Proofs.Ytkcpblfdmfkppaa
open Go.ChangeShapes Go.WideShapes Go.ChangeAt Go.RowKit
theorem own_make (w : World) (n : Nat) (h : n ≤ 1048576) (B : Nat) (hB : B ≤ w.heap.size) : (w.alloc (.cells (Array.replicate n (encU 0)) 38)).ownsRow B 38 1 (.slice (some ⟨w.heap.size, 0, none⟩) n n) n ((List.replicate n 0).map encU) :=
  ⟨by simp, .inr ⟨w.heap.size, n, _, rfl, hB, heap_alloc_last w _, Nat.le_refl _, by unfold maxLen; omega, by simp, by simp⟩⟩
/-- What greater holds against each other: the second number's row. -/
def rowP (p m : Nat) : List Nat := List.replicate 6 0 ++ rowL p ++ List.replicate m 0
theorem rowP_length (p m : Nat) : (rowP p m).length = 10 + m := by simp [rowP, rowL]; omega
theorem rowP_dv (p m : Nat) : dv (rowP p m) = p * 79228162514264337593543950336 := by
  unfold rowP
  rw [dv_app, dv_app, dv_zeros, dv_zeros, rowL_dv]
  simp [Nat.mul_comm]
theorem Dig.ofMem {l : List Nat} (h : ∀ x ∈ l, x < 65536) : Dig l := fun i hi => h _ (List.getElem_mem hi)
theorem Dig.mem {l : List Nat} (h : Dig l) : ∀ x ∈ l, x < 65536 := fun x hx => by
  obtain ⟨i, hi, rfl⟩ := List.getElem_of_mem hx
  exact h i hi
theorem rowP_dig (p m : Nat) (h : p < 18446744073709551616) : Dig (rowP p m) := Dig.ofMem (fun x hx => by
  unfold rowP at hx
  rw [List.mem_append, List.mem_append] at hx
  rcases hx with (hx | hx) | hx
  · rw [List.mem_replicate] at hx; omega
  · exact (rowL_dig p h).mem x hx
  · rw [List.mem_replicate] at hx; omega)
/-- Behind the second row's making. -/
def GrP (B SZ : Nat) (w : World) (p : Nat) (ga : Nat) (Z : List Nat) (v : Value) (wx : World) : Prop := Hid (wx.ownsRow SZ 38 1 v 10 ((rowP p 0).map encU)) ∧ Hid (Sl encU wx (some ⟨ga, 0, none⟩) 14 Z) ∧ Hid (Below B w wx) ∧ Hid (SZ ≤ wx.heap.size)
theorem Sl.belowB {α : Type} {enc : α → Value} {w w' : World} {g o n B : Nat} {xs : List α} (h : Sl enc w (some ⟨g, o, none⟩) n xs) (hg : g < B) (hb : Below B w w') : Sl enc w' (some ⟨g, o, none⟩) n xs := by
  refine ⟨h.1, fun hn => ?_⟩
  obtain ⟨b, off, he, hlt, hc⟩ := h.2 hn
  cases he
  refine ⟨g, o, rfl, Nat.lt_of_lt_of_le hlt hb.size, fun i hi => ?_⟩
  rw [← hc i hi]
  unfold World.cell?
  rw [hb.block g hg]
set_option maxHeartbeats 8000000 in
set_option maxRecDepth 100000 in
theorem greater_any (w : World) (y p : Nat) (hy : y < 18446744073709551616) (hp : p < 18446744073709551616) :
    Calls Try.prog 32 #[.int .u64 y, .int .u64 p] w fun e w' => e = .returned (.bool (decide (p * 79228162514264337593543950336 < y * y * y))) ∧ Below w.heap.size w w' := by
  go_enter Try.func32, Try.ntmps32
  go_wp2_with fail
  refine (row_any w y hy).mono ?_
  rintro e w1 ⟨rfl, hs1, hb1⟩
  have HS1 := Lib.hid hs1
  have HB1 := Lib.hid hb1
  clear hs1 hb1
  go_wp2_with fail
  refine (row_any w1 y hy).mono ?_
  rintro e w2 ⟨rfl, hs2, hb2⟩
  have HS2 := Lib.hid hs2
  have HB2 := Lib.hid (HB1.out.trans (hb2.mono HB1.out.size))
  replace HS1 := Lib.hid (HS1.out.below hb2)
  clear hs2 hb2 HB1
  go_wp2_with fail
  refine (times_any w2 _ 4 4 (rowL y) HS1.out (rowL_dig y hy) _ 4 4 (rowL y) HS2.out (rowL_dig y hy) (by omega) (by omega)).mono ?_
  rintro e w3 ⟨Z3, rfl, hs3, hd3, hv3, hb3⟩
  have HS3 := Lib.hid hs3
  have HD3 := Lib.hid hd3
  have HV3 := Lib.hid hv3
  have HB3 := Lib.hid (HB2.out.trans (hb3.mono HB2.out.size))
  clear hs3 hd3 hv3 hb3 HB2 HS1 HS2
  go_wp2_with fail
  refine (row_any w3 y hy).mono ?_
  rintro e w4 ⟨rfl, hs4, hb4⟩
  have HS4 := Lib.hid hs4
  have HB4 := Lib.hid (HB3.out.trans (hb4.mono HB3.out.size))
  replace HS3 := Lib.hid (HS3.out.below hb4)
  clear hs4 hb4 HB3
  go_wp2_with fail
  refine (times_any w4 _ 9 9 Z3 HS3.out HD3.out _ 4 4 (rowL y) HS4.out (rowL_dig y hy) (by omega) (by omega)).mono ?_
  rintro e w5 ⟨Z, rfl, hs5, hd5, hv5, hb5⟩
  rw [HV3.out, rowL_dv] at hv5
  have HS5 := Lib.hid hs5
  have HD5 := Lib.hid hd5
  have HV5 := Lib.hid hv5
  have HB5 := Lib.hid (HB4.out.trans (hb5.mono HB4.out.size))
  clear hs5 hd5 hv5 hb5 HB4 HS3 HS4 HD3 HV3
  generalize w4.heap.size = ga at *
  obtain ⟨B, hB⟩ : ∃ B, w.heap.size = B := ⟨_, rfl⟩
  rw [hB] at HB5 ⊢
  have HBE := Lib.hid hB
  clear hB
  have hBw : B ≤ w5.heap.size := by have h := HB5.out.size; rw [HBE.out] at h; exact h
  go_upto_region 2 with fail
  have HS5' := Lib.hid (show Sl encU w5.drew (some ⟨ga, 0, none⟩) 14 Z from HS5.out)
  have HB5' := Lib.hid (show Below B w w5.drew from HB5.out.drew)
  have hBw' : B ≤ w5.drew.heap.size := hBw
  clear HS5 HB5 hBw
  have hmk : ∀ w' : World, (Instr.makeSlice 57 (.int .i64 6) (.int .i64 6)).run Try.prog w' = .ok (.slice (some ⟨w'.heap.size, 0, none⟩) 6 6) (w'.alloc (.cells (Array.replicate 6 (encU 0)) 38)) := fun w' => make_u64 w' 6 (by omega)
  obtain ⟨SZ, hSZ⟩ : ∃ n, n = w5.drew.heap.size := ⟨_, rfl⟩
  have hgaS : ga < SZ := by
    obtain ⟨b, off, he, hlt, _⟩ := HS5'.out.2 (by omega)
    cases he
    rw [hSZ]
    exact hlt
  have hBS : B ≤ SZ := by rw [hSZ]; exact hBw'
  go_cut [6] (fun v wx => GrP B SZ w p ga Z v wx)
  case first =>
    have hSw : AnyW w5.drew := trivial
    refine wp_region_lexS AnyW (.of [(1, true)] (.fork 0 (.of [(2, false), (3, false)] (.stir [(4, true)])) 2 (.of [(0, false), (3, false)] (.stir [(4, true)])))) (by kernel_rfl) (by kernel_rfl) (fun c a d v w h => by cases d <;> exact h) ?_
    generalize w5.drew = w6 at *
    iterate 1
      refine lexS_step (fun K hK => ?_)
      simp only [lexOp, List.getElem?_toArray, List.getElem?_cons_succ, List.getElem?_cons_zero]
      rw [if_pos (by rfl)]
      apply Exists.intro
      refine ⟨fun w' hS' => ?_, hSw, ?_⟩
      · first | (go_simp <;> with_reducible rfl) | (go_simp; go_bits; with_reducible rfl)
      go_simp
      try go_bits
      refine hK _ _ ?_
      clear hK K
    refine lexS_fork ?_ ?_
    · intro K hK
      simp only [lexOp, List.getElem?_toArray, List.getElem?_cons_succ, List.getElem?_cons_zero]
      rw [if_pos (by rfl)]
      go_step
      have hal : Below w6.heap.size w6 (w6.alloc (.cells (Array.replicate 6 (encU 0)) 38)) := (Below.refl _ _).alloc (Nat.le_refl _) _
      have ho7 := own_make w6 6 (by omega) w6.heap.size (Nat.le_refl _)
      refine ⟨trivial, hK _ _ ?_⟩
      clear hK K
      refine lexS_step (fun K hK => ?_)
      simp only [lexOp, List.getElem?_toArray, List.getElem?_cons_succ, List.getElem?_cons_zero]
      rw [if_pos (by rfl)]
      go_step
      refine (row_any _ p hp).mono ?_
      rintro e w8 ⟨rfl, hs8, hb8⟩
      have HO8 := Lib.hid (own_below ho7 hb8)
      rw [show (w6.alloc (.cells (Array.replicate 6 (encU 0)) 38)).heap.size = w6.heap.size + 1 by simp only [World.alloc, Array.size_push]] at hs8
      have HS8 := Lib.hid hs8
      have HB8 := Lib.hid (hal.trans (hb8.mono hal.size))
      clear hs8 hb8 hal ho7
      refine ⟨trivial, ?_⟩
      go_simp
      refine hK _ _ ?_
      clear hK K
      refine lexS_step (fun K hK => ?_)
      simp only [lexOp, List.getElem?_toArray, List.getElem?_cons_succ, List.getElem?_cons_zero]
      rw [if_pos (by rfl)]
      change Oper.wp _ _ _ _ _ _
      refine wp_appK oneU (ops := #[]) rfl _ _ _ rfl w6.heap.size _ 6 _ rfl HO8.out _ 4 ((rowL p).map encU) rfl (HS8.out.src encU_cell Try.underlying57 4) (by omega) (by unfold maxLen; omega) HB8.out.size ?_
      intro v9 w9 hown9 hg9 hb9
      refine ⟨trivial, hK _ _ ?_⟩
      clear hK K
      refine lexS_stir (fun y => y = w9) (fun y hy => trivial) rfl ?_
      iterate 1
        refine stir_step (fun K hK => ?_)
        simp only [stirOp, List.getElem?_toArray, List.getElem?_cons_succ, List.getElem?_cons_zero]
        rw [if_pos (by rfl)]
        apply Exists.intro
        refine ⟨fun w' hS' => ?_, ?_⟩
        · first | (go_simp <;> with_reducible rfl) | (go_simp; go_bits; with_reducible rfl)
        go_simp
        try go_bits
        refine hK _ ?_
        clear hK K
      refine stir_nil (fun y hy => ?_)
      obtain rfl : w9 = y := hy.symm
      have hb69 := HB8.out.trans hb9
      have hgr : GrP B SZ w p ga Z v9 w9 := ⟨Lib.hid (by rw [hSZ, show (rowP p 0).map encU = (List.replicate 6 0).map encU ++ (rowL p).map encU by unfold rowP; simp]; exact hown9), Lib.hid (HS5'.out.below hb69), Lib.hid (HB5'.out.trans (hb69.mono hBw')), Lib.hid (by rw [hSZ]; exact hb69.size)⟩
      clear hown9 hg9 hb9 hb69
      go_wp2_with fail
      go_meet
      exact hgr
    · intro K hK
      simp only [lexOp, List.getElem?_toArray, List.getElem?_cons_succ, List.getElem?_cons_zero]
      rw [if_pos (by rfl)]
      go_step
      refine (row_any _ p hp).mono ?_
      rintro e w7 ⟨rfl, hs7, hb7⟩
      refine ⟨trivial, ?_⟩
      go_simp
      refine hK _ _ ?_
      clear hK K
      refine lexS_step (fun K hK => ?_)
      simp only [lexOp, List.getElem?_toArray, List.getElem?_cons_succ, List.getElem?_cons_zero]
      rw [if_pos (by rfl)]
      go_step
      have hal : Below w7.heap.size w7 (w7.alloc (.cells (Array.replicate 6 (encU 0)) 38)) := (Below.refl _ _).alloc (Nat.le_refl _) _
      have HO8 := Lib.hid (own_make w7 6 (by omega) w6.heap.size hb7.size)
      have HS8 := Lib.hid (hs7.below hal)
      have HB8 := Lib.hid (hb7.trans (hal.mono hb7.size))
      refine ⟨trivial, hK _ _ ?_⟩
      clear hK K hal hs7 hb7
      generalize w7.alloc (.cells (Array.replicate 6 (encU 0)) 38) = w8 at *
      refine lexS_step (fun K hK => ?_)
      simp only [lexOp, List.getElem?_toArray, List.getElem?_cons_succ, List.getElem?_cons_zero]
      rw [if_pos (by rfl)]
      change Oper.wp _ _ _ _ _ _
      refine wp_appK oneU (ops := #[]) rfl _ _ _ rfl w6.heap.size _ 6 _ rfl HO8.out _ 4 ((rowL p).map encU) rfl (HS8.out.src encU_cell Try.underlying57 4) (by omega) (by unfold maxLen; omega) HB8.out.size ?_
      intro v9 w9 hown9 hg9 hb9
      refine ⟨trivial, hK _ _ ?_⟩
      clear hK K
      refine lexS_stir (fun y => y = w9) (fun y hy => trivial) rfl ?_
      iterate 1
        refine stir_step (fun K hK => ?_)
        simp only [stirOp, List.getElem?_toArray, List.getElem?_cons_succ, List.getElem?_cons_zero]
        rw [if_pos (by rfl)]
        apply Exists.intro
        refine ⟨fun w' hS' => ?_, ?_⟩
        · first | (go_simp <;> with_reducible rfl) | (go_simp; go_bits; with_reducible rfl)
        go_simp
        try go_bits
        refine hK _ ?_
        clear hK K
      refine stir_nil (fun y hy => ?_)
      obtain rfl : w9 = y := hy.symm
      have hb69 := HB8.out.trans hb9
      have hgr : GrP B SZ w p ga Z v9 w9 := ⟨Lib.hid (by rw [hSZ, show (rowP p 0).map encU = (List.replicate 6 0).map encU ++ (rowL p).map encU by unfold rowP; simp]; exact hown9), Lib.hid (HS5'.out.below hb69), Lib.hid (HB5'.out.trans (hb69.mono hBw')), Lib.hid (by rw [hSZ]; exact hb69.size)⟩
      clear hown9 hg9 hb9 hb69
      go_wp2_with fail
      go_meet
      exact hgr
  case rest =>
    obtain ⟨HO, HS, HB, HSZ⟩ := hcut
    clear HS5' HB5' hBw' hmk hSZ
    have HZL := Lib.hid (show Z.length = 14 from HS.out.1)
    go_wp2_with fail
    go_loopg [5] 1 (fun gn s wr => ∃ v, s = .slice (some ⟨ga, 0, none⟩) 14 14 ∧ gn = 1 ∧ Hid (wr = wc ∧ v = 0))
    case atStart => exact ⟨0, rfl, rfl, Lib.hid ⟨rfl, rfl⟩⟩
    case round =>
      obtain ⟨_, rfl, rfl, HWC⟩ := hrel
      obtain ⟨rfl, _⟩ := HWC.out
      clear HWC
      obtain ⟨a6, c6, rfl, _, _⟩ := Sl.ofOwn HO.out
      go_wp2_with fail
      go_loopg [6] 4 (fun gn s wr => ∃ m nn, m ≤ 4 ∧ nn = 10 + m ∧ gn = 4 - m ∧ Hid (wr.ownsRow SZ 38 1 s nn ((rowP p m).map encU)) ∧ Hid (Sl encU wr (some ⟨ga, 0, none⟩) 14 Z) ∧ Hid (Below B w wr) ∧ Hid (SZ ≤ wr.heap.size))
      case atStart => exact ⟨0, 10, by omega, rfl, by omega, HO, HS, HB, HSZ⟩
      case round =>
        clear HO HS HB HSZ
        obtain ⟨m, nn, hm, hnn, rfl, HO, HS, HB, HSZ⟩ := hrel
        obtain ⟨b6, d6, rfl, hs6, _⟩ := Sl.ofOwn HO.out
        by_cases hm4 : m < 4
        · have h14 : (nn : Int) < 14 := by omega
          have HNN := Lib.hid hnn
          have hn14 : nn ≤ 14 := by omega
          clear hnn hs6
          go_wp2_with (at_builtin; refine wpList_app_lit2 oneU rfl _ _ rfl SZ _ _ _ rfl HO.out #[.int .u64 0] 1 1 _ rfl rfl rfl rfl (by omega) (by unfold maxLen; omega) HSZ.out ?_; intro v1 w1 hown1 hg1 hb1; have HO1 := Lib.hid hown1; have HB1 := Lib.hid hb1; clear hown1 hb1 hg1)
          go_roundg (4 - (m + 1))
          case measure => omega
          case rel =>
            refine ⟨m + 1, nn + 1, by omega, by have := HNN.out; omega, rfl, ?_, Lib.hid (HS.out.belowB hgaS HB1.out), Lib.hid (HB.out.trans (HB1.out.mono hBS)), Lib.hid (Nat.le_trans HSZ.out HB1.out.size)⟩
            have h := HO1.out
            rw [show ([Value.int .u64 0] : List Value) = ([0] : List Nat).map encU from rfl, ← List.map_append] at h
            rw [show rowP p (m + 1) = rowP p m ++ [0] by simp only [rowP, List.append_assoc]; rw [List.replicate_succ' (n := m)]]
            exact Lib.hid h
        · obtain rfl : m = 4 := by omega
          obtain rfl : nn = 14 := by omega
          have HSP := Lib.hid hs6
          clear hs6 hnn
          go_wp2_with fail
          go_loopg [7, 4] 14 (fun gn i rs wq => ∃ t iv, t ≤ 14 ∧ gn = t + 0 ∧ rs = .bool false ∧ i = .int .i64 iv ∧ Hid (iv = (t : Int) - 1) ∧ Hid (∀ j (h1 : j < Z.length) (h2 : j < (rowP p 4).length), t ≤ j → Z[j] = (rowP p 4)[j]) ∧ Hid (Sl encU wq (some ⟨ga, 0, none⟩) 14 Z) ∧ Hid (Sl encU wq b6 14 (rowP p 4)) ∧ Hid (Below B w wq))
          case atStart => exact ⟨14, 13, by omega, rfl, rfl, rfl, Lib.hid (by omega), Lib.hid (fun j h1 h2 h => by rw [rowP_length] at h2; omega), HS, HSP, HB⟩
          case round =>
            clear HS HSP HB HO HSZ
            obtain ⟨t, iv, ht, hgn, rfl, rfl, HIV, HEQ, HS, HSP, HB⟩ := hrel
            have HGN := Lib.hid hgn
            clear hgn
            cases t with
            | zero =>
              obtain rfl : iv = -1 := by have := HIV.out; omega
              go_wp2_with fail
              go_ret
              refine ⟨?_, by rw [HBE.out]; exact HB.out⟩
              have he : Z = rowP p 4 := List.ext_getElem (by rw [HZL.out, rowP_length]) (fun j h1 h2 => HEQ.out j h1 h2 (by omega))
              have hd := dv_eq he
              rw [HV5.out, rowP_dv] at hd
              rw [hd]
              rfl
            | succ k =>
              obtain rfl : iv = (k : Int) := by have := HIV.out; omega
              have hk14 : k < 14 := by omega
              have hzl := HZL.out
              have hpl := rowP_length p 4
              obtain ⟨_, _, he1, _, hc1⟩ := HS.out.2 (by omega)
              cases he1
              obtain ⟨bb, ob, rfl, _, hc2⟩ := HSP.out.2 (by omega)
              have c1 := hc1 k (by omega)
              have c2 := hc2 k (by omega)
              rw [Nat.zero_add] at c1
              obtain ⟨x, hx⟩ : ∃ x, x = Z[k]'(by omega) := ⟨_, rfl⟩
              obtain ⟨z, hz⟩ : ∃ z, z = (rowP p 4)[k]'(by omega) := ⟨_, rfl⟩
              rw [← hx] at c1
              rw [← hz] at c2
              unfold encU at c1 c2
              have hk1 : (k : Int) < 14 := by omega
              have HX := Lib.hid (And.intro hx hz)
              clear hc1 hc2 hx hz
              by_cases hne : x = z
              · have hb : (((x : Nat) : Int) != ((z : Nat) : Int)) = false := by rw [hne]; simp
                have HNX := Lib.hid (show ∀ j (h1 : j < Z.length) (h2 : j < (rowP p 4).length), k ≤ j → Z[j] = (rowP p 4)[j] from fun j h1 h2 h => by
                  by_cases hjk : j = k
                  · subst hjk
                    rw [← HX.out.1, ← HX.out.2, hne]
                  · exact HEQ.out j h1 h2 (by omega))
                subst hne
                clear hzl hpl HX
                go_upto_region 10 with fail
                go_quiet (fail)
                have HS' := Lib.hid (show Sl encU (wr.drewN nq) (some ⟨ga, 0, none⟩) 14 Z from HS.out)
                have HSP' := Lib.hid (show Sl encU (wr.drewN nq) (some ⟨bb, ob, none⟩) 14 (rowP p 4) from HSP.out)
                have HB' := Lib.hid (bdrewN HB.out nq)
                clear HS HSP HB c1 c2
                generalize wr.drewN nq = w7 at *
                go_wp2_with fail
                go_roundg k
                case measure => have := HGN.out; omega
                case rel => exact ⟨k, (k : Int) - 1, by omega, rfl, rfl, rfl, Lib.hid rfl, HNX, HS', HSP', HB'⟩
              · have hb : (((x : Nat) : Int) != ((z : Nat) : Int)) = true := by
                  have h1 : ((x : Nat) : Int) ≠ ((z : Nat) : Int) := by omega
                  exact bne_iff_ne.2 h1
                go_upto_region 10 with fail
                go_quiet (fail)
                have HB' := Lib.hid (bdrewN HB.out nq)
                have c1' : (wr.drewN nq).cell? ⟨ga, k, none⟩ = some (.int .u64 ((x : Nat) : Int)) := c1
                have c2' : (wr.drewN nq).cell? ⟨bb, ob + k, none⟩ = some (.int .u64 ((z : Nat) : Int)) := c2
                clear HS HSP HB c1 c2
                generalize wr.drewN nq = w7 at *
                go_upto_region 11 with fail
                go_quiet (fail)
                go_wp2_with fail
                go_ret
                have hHB := HB'.out
                refine ⟨?_, by rw [HBE.out]; exact bdrewN hHB nq⟩
                have hd := dv_cmp Z (rowP p 4) (by rw [hzl, hpl]) HD5.out (rowP_dig p 4 hp) k (by omega) (by omega) (fun j h1 h2 h => HEQ.out j h1 h2 (by omega)) (by rw [← HX.out.1, ← HX.out.2]; exact hne)
                rw [HV5.out, rowP_dv, ← HX.out.1, ← HX.out.2] at hd
                rw [hd]
                rfl
/-- The root's bits, from the highest on. -/
def rootN (p : Nat) : Nat → Nat
  | 0 => 0
  | n + 1 => if p * 79228162514264337593543950336 < (rootN p n + 2 ^ (34 - n)) * (rootN p n + 2 ^ (34 - n)) * (rootN p n + 2 ^ (34 - n)) then rootN p n else rootN p n + 2 ^ (34 - n)
theorem rootN_le (p : Nat) : ∀ n, n ≤ 35 → rootN p n + 2 ^ (35 - n) ≤ 2 ^ 35
  | 0, _ => by simp [rootN]
  | n + 1, h => by
    have ih := rootN_le p n (by omega)
    rw [show 35 - n = (34 - n) + 1 by omega, Nat.pow_succ] at ih
    rw [rootN, show 35 - (n + 1) = 34 - n by omega]
    split <;> omega
set_option maxHeartbeats 4000000 in
set_option maxRecDepth 100000 in
theorem root_any (w : World) (p : Nat) (hp : p < 18446744073709551616) :
    Calls Try.prog 24 #[.int .u64 p] w fun e w' => e = .returned (.int .u32 ((rootN p 35 % 4294967296 : Nat) : Int)) ∧ Below w.heap.size w w' := by
  go_enter Try.func24, Try.ntmps24
  go_wp2_with fail
  go_loopg [4, 3] 35 (fun gn i x wr => ∃ n iv xv, n ≤ 35 ∧ gn + n = 35 ∧ i = .int .i64 iv ∧ x = .int .u64 (xv : Nat) ∧ Hid (iv = 34 - (n : Int)) ∧ Hid (xv = rootN p n) ∧ Hid (Below w.heap.size w wr))
  case atStart => exact ⟨0, 34, 0, by omega, rfl, rfl, rfl, Lib.hid (by omega), Lib.hid rfl, Lib.hid (Below.refl _ _)⟩
  case round =>
    obtain ⟨n, iv, xv, hn, hgn, rfl, rfl, HIV, HXV, HB⟩ := hrel
    have HGN := Lib.hid hgn
    clear hgn
    by_cases hlt : n < 35
    · obtain ⟨k, hk⟩ : ∃ k, k = 34 - n := ⟨_, rfl⟩
      obtain rfl : iv = (k : Int) := by have := HIV.out; omega
      have hk34 : k ≤ 34 := by omega
      obtain ⟨pw, hpw⟩ : ∃ pw, pw = 2 ^ k := ⟨_, rfl⟩
      have hle := rootN_le p n (by omega)
      rw [show 35 - n = k + 1 by omega, Nat.pow_succ, ← hpw, ← HXV.out] at hle
      have hpl : pw ≤ 34359738368 := by omega
      have hxl : xv ≤ 34359738368 := by omega
      have hpE : (2 : Int) ^ k = (pw : Int) := by rw [hpw]; push_cast; rfl
      have hpE2 : (2 : Nat) ^ k = pw := hpw.symm
      obtain ⟨y, hy⟩ : ∃ y, y = xv + pw := ⟨_, rfl⟩
      have hyE : (xv : Int) + (pw : Int) = (y : Int) := by omega
      have hyl : y < 18446744073709551616 := by omega
      have HK := Lib.hid (And.intro hk (And.intro hpw hy))
      have HGR := Lib.hid (fun w' => greater_any w' y p hyl hp)
      clear hk hpw hy hle
      have hkE : (k : Int) - 1 = 33 - (n : Int) := by have := HK.out.1; omega
      have HKE := Lib.hid hkE
      clear hkE
      by_cases hgr : p * 79228162514264337593543950336 < y * y * y
      · have HNX := Lib.hid (show xv = rootN p (n + 1) by
          obtain ⟨q1, q2, q3⟩ := HK.out
          rw [rootN, ← q1, ← q2, ← HXV.out, ← q3, if_pos hgr])
        rw [decide_eq_true hgr] at HGR
        clear hgr
        go_wp2_with fail
        refine (HGR.out wr).mono ?_
        rintro e w1 ⟨rfl, hb1⟩
        have HB1 := Lib.hid (HB.out.trans (hb1.mono HB.out.size))
        clear hb1 HGR
        go_wp2_with fail
        go_roundg (34 - n)
        case measure => have := HGN.out; omega
        case rel => exact ⟨n + 1, (k : Int) - 1, xv, by omega, by omega, rfl, rfl, Lib.hid (by rw [HKE.out]; omega), HNX, HB1⟩
      · have HNX := Lib.hid (show y = rootN p (n + 1) by
          obtain ⟨q1, q2, q3⟩ := HK.out
          rw [rootN, ← q1, ← q2, ← HXV.out, ← q3, if_neg hgr])
        rw [decide_eq_false hgr] at HGR
        clear hgr
        go_wp2_with fail
        refine (HGR.out wr).mono ?_
        rintro e w1 ⟨rfl, hb1⟩
        have HB1 := Lib.hid (HB.out.trans (hb1.mono HB.out.size))
        clear hb1 HGR
        go_wp2_with fail
        go_roundg (34 - n)
        case measure => have := HGN.out; omega
        case rel => exact ⟨n + 1, (k : Int) - 1, y, by omega, by omega, rfl, rfl, Lib.hid (by rw [HKE.out]; omega), HNX, HB1⟩
    · obtain rfl : n = 35 := by omega
      obtain rfl : iv = -1 := by have := HIV.out; omega
      have hle := rootN_le p 35 (by omega)
      rw [← HXV.out] at hle
      have hxl : xv ≤ 34359738368 := by omega
      clear hle
      go_wp2_with fail
      go_ret
      rw [← HXV.out]
      refine ⟨?_, HB.out⟩
      first | rfl | (refine congrArg Ending.returned (slot_int ?_); omega)
end Go.Proofs.Ytkcpblfdmfkppaa
