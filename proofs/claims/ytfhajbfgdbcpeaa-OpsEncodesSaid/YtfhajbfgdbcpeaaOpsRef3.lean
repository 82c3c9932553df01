/- ops: the reference's Encode (printed by gen/ops6.py). No condition. -/
import Derived.Test.YtfhajbfgdbcpeaaOpsRef2
namespace Go.Proofs.Ytfhajbfgdbcpeaa
open Go.ChangeShapes Go.WideShapes Go.ChangeAt Go.RowKit
theorem fits7 (p : Int) (o : Nat) (x y : Int) : fitsB ⟨p, o, x, y⟩ 7 = (y == 0) := by
  unfold fitsB
  by_cases hy : y = 0
  · simp [hy]
  · simp [hy]
theorem wrap_sub (x p : Int) : IntKind.u64.wrap (IntKind.i64.wrap (x - p)) = (u64N (x - p) : Int) := by
  rw [← u64N_wrap, IntKind.wrap_u64, IntKind.wrap_u64, IntKind.wrap_i64]
  omega
set_option maxRecDepth 100000 in
set_option maxHeartbeats 32000000 in
theorem refEncode_any (w : World) (a : Option Addr) (n cap : Nat) (L : List RW) (hs : Rs w a n L) (hn : n ≤ 65536) (hw : ∀ r ∈ L, IntRo r.pos ∧ IntRo r.a ∧ r.op < 256) : Calls Try.prog 16 #[.slice a n cap] w (EncodeRet (encodeR L) w) := by
  have HS := Lib.hid hs
  have HLn := Lib.hid hs.1
  have HW := Lib.hid hw
  obtain ⟨R, hR⟩ : ∃ R, R = encodeR L := ⟨_, rfl⟩
  rw [← hR]
  have HR := Lib.hid hR
  have HGS := Lib.hid (fun w' (hb : Below w.heap.size w w') => refgoes_any w' a n cap L (hs.below hb) hn (fun r hr => (hw r hr).2.2))
  clear hs hR hw
  go_enter Try.func16, Try.ntmps16
  go_wp2_with fail
  go_loopg [12, 4, 5] n (fun gn i v lb wr => ∃ j m : Nat, ∃ bl : Bool, ∃ bs, j ≤ n ∧ gn = n - j ∧ i = .int .i64 j ∧ lb = .bool bl ∧ m ≤ 3 * j ∧ Hid (bl = decide (4096 < m)) ∧ Hid ((encL (L.take j)).length = m) ∧ Hid (wr.ownsRow w.heap.size 5 1 v m (bs.map encB)) ∧ Hid (goesB L = true → bs = encL (L.take j)) ∧ Hid (∀ k, k < j → goodAt L k = true) ∧ Hid (Below w.heap.size w wr))
  case atStart => exact ⟨0, 0, false, [], by omega, by omega, by go_num, rfl, by omega, Lib.hid rfl, Lib.hid rfl, Lib.hid (World.ownsRow_nil _ _ _ _), Lib.hid (fun _ => rfl), Lib.hid (fun k h => by omega), Lib.hid (Below.refl _ _)⟩
  case round =>
    obtain ⟨j, m, bl, bs, hj, rfl, rfl, rfl, hm, HBL, HM, HO, HE, HG, HB⟩ := hrel
    by_cases hlt : j < n
    · obtain ⟨b, off, r, rfl, _, hr, q⟩ := (HS.out.below HB.out).at j hlt
      obtain ⟨q0, q1, q2, q3⟩ := q
      have hjl : j < L.length := by rw [HLn.out]; exact hlt
      have hwr := HW.out r (List.mem_of_getElem? hr)
      have HGA := Lib.hid (goodAt_eq L j r hr)
      have HEN := Lib.hid (encL_take L j r hr)
      have HBD := Lib.hid (encode_bad (l := L) j hjl)
      have HGB := Lib.hid (goes_bad (L := L) (List.mem_of_getElem? hr))
      obtain ⟨p, o, x, y⟩ := r
      simp only at q0 q1 q2 q3 hwr HGA HGB
      rw [HM.out] at HGA
      obtain ⟨hp, hx, ho⟩ := hwr
      have o1 : (o : Int) < 256 := by omega
      have j1 : (j : Int) < n := by omega
      have hf9 := formN_le o
      have HFM := Lib.hid (fun w' => refForm_any w' o ho)
      have HON := Lib.hid (fun w' h7 => refone_any w' ⟨p, o, x, y⟩ ho h7)
      have HTH := Lib.hid (fun w' (hb : Below w.heap.size w w') => there_any w' (some ⟨b, off, none⟩) n cap L x (HS.out.below hb) hn)
      unfold OneR at HON
      simp only at HON
      have HE7 := Lib.hid (enc7 p o x y)
      have HEL := Lib.hid (encOne_len ⟨p, o, x, y⟩)
      have HF7 := Lib.hid (fits7 p o x y)
      obtain ⟨e, he⟩ : ∃ e, e = encL (L.take j) := ⟨_, rfl⟩
      have HGN := Lib.hid (show goodAt L j = true → ∀ k, k < j + 1 → goodAt L k = true from fun h k hk => by
        rcases Nat.lt_or_ge k j with h1 | h1
        · exact HG.out k h1
        · obtain rfl : k = j := by omega
          exact h)
      rw [← he] at HM HE HEN
      clear hr hjl he HG
      have HFT : Hid (formN o = 7 → fitsB ⟨p, o, x, y⟩ (formN o) = (y == 0)) := Lib.hid (fun h => by rw [h]; exact HF7.out)
      generalize fitsB ⟨p, o, x, y⟩ (formN o) = ft at *
      generalize hth : thereB L x = th at *
      clear hth
      generalize formN o = f at *
      clear HF7
      obtain ⟨yb, hyb⟩ : ∃ yb, (y == 0) = yb := ⟨_, rfl⟩
      rw [hyb] at HFT
      obtain ⟨ud, hud⟩ : ∃ u, u = u64N (x - p) := ⟨_, rfl⟩
      obtain ⟨xd, hxd⟩ : ∃ v, v = IntKind.i64.wrap (x - p) := ⟨_, rfl⟩
      have wd : IntKind.u64.wrap xd = (ud : Int) := by rw [hud, hxd]; exact wrap_sub x p
      have ws : IntKind.i64.wrap (x - p) = xd := hxd.symm
      clear hxd
      have HLD := Lib.hid (show ud < 18446744073709551616 by rw [hud]; exact u64N_lt _)
      rw [← hud] at HE7
      have HEB := Lib.hid (encB_nat o ho)
      clear hud
      obtain ⟨ov, oc, rfl, _, _⟩ := Sl.ofOwn HO.out
      go_upto_region 6 with fail
      have HAL := Lib.hid (HB.out.alloc HB.out.size (.cells #[.int .i64 p, .int .u8 (o : Nat), .int .i64 x, .int .i64 y] 36))
      have HOA := Lib.hid (own_below HO.out ((Below.refl wr.heap.size wr).alloc (Nat.le_refl _) (.cells #[.int .i64 p, .int .u8 (o : Nat), .int .i64 x, .int .i64 y] 36)))
      have HKA := Lib.hid (show RBlk (wr.alloc (.cells #[.int .i64 p, .int .u8 (o : Nat), .int .i64 x, .int .i64 y] 36)) wr.heap.size p o x y from heap_alloc_last wr _)
      clear q0 q1 q2 q3
      generalize wr.alloc (.cells #[.int .i64 p, .int .u8 (o : Nat), .int .i64 x, .int .i64 y] 36) = W at *
      generalize hg0 : wr.heap.size = g at *
      clear hg0 HB HO
      obtain ⟨⟨c0, c1, c2, c3⟩, _, hgW⟩ := HKA.out.box
      have ld1 := fun w' (h : Below W.heap.size W w') => cellS_below h c1
      have ld3 := fun w' (h : Below W.heap.size W w') => cellS_below h c3
      have hSw : Below W.heap.size W W.drew := (Below.refl _ _).drew
      clear c0 c1 c2 c3 hgW
      refine wp_region_lexS (Below W.heap.size W) (.of [(0, true), (1, true), (3, true), (4, true), (5, true), (2, false)] (.stir [(6, true), (7, true)])) (by kernel_rfl) (by kernel_rfl) (fun c a d v w h => by cases d <;> exact h) ?_
      iterate 5
        refine lexS_step (fun K hK => ?_)
        simp only [lexOp, List.getElem?_toArray, List.getElem?_cons_succ, List.getElem?_cons_zero]
        rw [if_pos (by rfl)]
        apply Exists.intro
        refine ⟨fun w' hS' => ?_, hSw, ?_⟩
        · first | (go_simp <;> with_reducible rfl) | (go_simp; go_bits; with_reducible rfl)
        go_simp
        try go_bits
        refine hK _ _ ?_
        clear hK K
      refine lexS_step (fun K hK => ?_)
      simp only [lexOp, List.getElem?_toArray, List.getElem?_cons_succ, List.getElem?_cons_zero]
      rw [if_pos (by rfl)]
      go_step
      have hal : Below W.heap.size W (W.drew.alloc (.cells #[.int .u8 (o : Nat), .int .u8 0, .int .u8 0] 5)) := hSw.alloc (by simp) _
      refine ⟨hal, hK _ _ ?_⟩
      clear hK K
      have HSX := Lib.hid (show Sl encB (W.drew.alloc (.cells #[.int .u8 (o : Nat), .int .u8 0, .int .u8 0] 5)) (some ⟨W.heap.size, 0, none⟩) 3 [UInt8.ofNat o, 0, 0] from Sl.lit (heap_alloc_last W.drew _) (by rw [HEB.out]; rfl) rfl)
      have HBX := Lib.hid (HAL.out.trans (hal.mono HAL.out.size))
      have HOX := Lib.hid (own_below HOA.out hal)
      have HKX := Lib.hid (HKA.out.below hal)
      have HWX : Hid (W.heap.size < (W.drew.alloc (.cells #[.int .u8 (o : Nat), .int .u8 0, .int .u8 0] 5)).heap.size) := Lib.hid (by simp)
      refine lexS_stir (fun z => z = W.drew.alloc (.cells #[.int .u8 (o : Nat), .int .u8 0, .int .u8 0] 5)) (fun z hz => hz ▸ hal) rfl ?_
      iterate 2
        refine stir_step (fun K hK => ?_)
        simp only [stirOp, List.getElem?_toArray, List.getElem?_cons_succ, List.getElem?_cons_zero]
        rw [if_pos (by rfl)]
        apply Exists.intro
        refine ⟨fun w' hS' => ?_, ?_⟩
        · first | (go_simp <;> with_reducible rfl) | (go_simp; go_bits; with_reducible rfl)
        go_simp
        try go_bits
        refine hK _ ?_
        clear hK K
      refine stir_nil (fun z hz => ?_)
      subst hz
      clear ld1 ld3 hSw hal
      generalize W.drew.alloc (.cells #[.int .u8 (o : Nat), .int .u8 0, .int .u8 0] 5) = X at *
      obtain ⟨⟨c0, c1, c2, c3⟩, _, hgX⟩ := HKX.out.box
      go_wp2_with fail
      refine (HFM.out _).mono ?_
      rintro e' w' ⟨rfl, rfl⟩
      by_cases h7 : f = 7
      · subst h7
        clear HON
        have HFY := Lib.hid (HFT.out rfl)
        clear HFT
        have HE8 := Lib.hid (HE7.out rfl)
        clear HE7
        go_wp2_with fail
        refine (HTH.out _ HBX.out).mono ?_
        rintro e' w5 ⟨rfl, hb5⟩
        have HB5 := Lib.hid (HBX.out.trans (hb5.mono HBX.out.size))
        have HO5 := Lib.hid (own_below HOX.out hb5)
        have HS5 := Lib.hid (HSX.out.below hb5)
        have HK5 := Lib.hid (HKX.out.below hb5)
        clear hb5 c0 c1 c2 c3 hgX
        obtain ⟨⟨c0, c1, c2, c3⟩, _, hgX⟩ := HK5.out.box
        by_cases hpm : p = m
        case' neg =>
          have HQ := Lib.hid (show R = (8, []) by rw [HR.out]; exact HBD.out (by rw [HGA.out]; simp [hpm]))
          have epm : (p != (m : Int)) = true := by simp [hpm]
          have epq : (p == (m : Int)) = false := by simp [hpm]
          clear hpm
          cases th <;> cases yb
          all_goals
            go_wp2_with fail
            go_ret2
            exact EncodeRet.err HQ.out HB5.out
        have epm : (p != (m : Int)) = false := by simp [hpm]
        have epq : (p == (m : Int)) = true := by simp [hpm]
        have HGD := Lib.hid (show goodAt L j = ft by rw [HGA.out]; simp [hpm])
        clear hpm
        cases th
        · -- no instruction there: goes is false
          have HNG := Lib.hid (show goesB L = false from HGB.out rfl)
          cases yb
          · have HQ := Lib.hid (show R = (8, []) by rw [HR.out]; exact HBD.out (by rw [HGD.out, HFY.out]))
            go_wp2_with fail
            go_ret2
            exact EncodeRet.err HQ.out HB5.out
          · have HGX := Lib.hid (HGN.out (by rw [HGD.out, HFY.out]))
            obtain ⟨m6, hm3⟩ : ∃ k : Nat, k = 3 := ⟨_, rfl⟩
            have HL6 : Hid ((encOne ⟨p, o, x, y⟩).length = 3 ∧ 3 ≤ 3) := Lib.hid (by rw [HE8.out]; simp [putB_length])
            have HE6 : Hid (goesB L = true → [UInt8.ofNat o, 0, 0] = encOne ⟨p, o, x, y⟩) := Lib.hid (fun h => by rw [HNG.out] at h; cases h)
            clear hm3 m6
            cases bl
            · go_wp2_with (at_builtin; first
                | (refine wpList_app1 oneN rfl _ _ _ rfl w.heap.size _ m _ rfl HO5.out _ 3 _ rfl (HS5.out.src encB_cell Try.underlying25 _) (by omega) (by unfold maxLen; omega) HB5.out.size ?_; intro v8 w8 hown8 _ hb8; rw [← List.map_append] at hown8; obtain ⟨a8, c8, rfl, _, _⟩ := Sl.ofOwn hown8; have HO8 := Lib.hid hown8; have HB8 := Lib.hid (HB5.out.trans hb8); clear hown8 hb8))
              go_roundg (n - (j + 1))
              case measure => omega
              case rel =>
                have g1 : Hid (decide (4096 < (m : Int) + 3) = decide (4096 < m + 3)) := Lib.hid (by congr 1; apply propext; omega)
                have g2 : Hid ((encL (L.take (j + 1))).length = m + 3) := Lib.hid (by rw [HEN.out, List.length_append, HM.out, HL6.out.1])
                have g3 : Hid (goesB L = true → _ = encL (L.take (j + 1))) := Lib.hid (fun h => by rw [HEN.out, ← HE.out h, ← HE6.out h])
                exact ⟨j + 1, m + 3, _, _, by omega, rfl, by go_num, rfl, by omega, g1, g2, HO8, g3, HGX, HB8⟩
            · go_wp2_with (at_builtin; first
                | (refine wpList_app1 oneN rfl _ _ _ rfl w.heap.size _ m _ rfl HO5.out _ 3 _ rfl (HS5.out.src encB_cell Try.underlying25 _) (by omega) (by unfold maxLen; omega) HB5.out.size ?_; intro v8 w8 hown8 _ hb8; rw [← List.map_append] at hown8; obtain ⟨a8, c8, rfl, _, _⟩ := Sl.ofOwn hown8; have HO8 := Lib.hid hown8; have HB8 := Lib.hid (HB5.out.trans hb8); clear hown8 hb8))
              go_roundg (n - (j + 1))
              case measure => omega
              case rel =>
                have g1 : Hid (true = decide (4096 < m + 3)) := Lib.hid (by have h : 4096 < m := of_decide_eq_true HBL.out.symm; exact (decide_eq_true (by omega)).symm)
                have g2 : Hid ((encL (L.take (j + 1))).length = m + 3) := Lib.hid (by rw [HEN.out, List.length_append, HM.out, HL6.out.1])
                have g3 : Hid (goesB L = true → _ = encL (L.take (j + 1))) := Lib.hid (fun h => by rw [HEN.out, ← HE.out h, ← HE6.out h])
                exact ⟨j + 1, m + 3, _, _, by omega, rfl, by go_num, rfl, by omega, g1, g2, HO8, g3, HGX, HB8⟩
        · -- the place is there
          go_upto_region 10 with fail
          have ld0 := fun w' (h : Below w5.heap.size w5 w') => cellS_below h c0
          have ld2 := fun w' (h : Below w5.heap.size w5 w') => cellS_below h c2
          have hSw : Below w5.heap.size w5 w5.drew := (Below.refl _ _).drew
          have HS1 := Lib.hid (show Sl encB w5.drew (some ⟨W.heap.size, 0, none⟩) 1 [UInt8.ofNat o] from (HS5.out.below hSw).take (j := 1) (by omega))
          clear c0 c1 c2 c3 hgX
          refine wp_region_lex (Below w5.heap.size w5) [(0, true), (1, true), (2, true), (3, true), (4, true), (5, true), (6, true), (7, true), (8, false), (9, true)] (by kernel_rfl) (by kernel_rfl) (fun c a d v w h => by cases d <;> exact h) ?_
          iterate 8
            refine lex_step (fun K hK => ?_)
            simp only [lexOp, List.getElem?_toArray, List.getElem?_cons_succ, List.getElem?_cons_zero]
            rw [if_pos (by rfl)]
            apply Exists.intro
            refine ⟨fun w' hS' => ?_, hSw, ?_⟩
            · first | (go_simp <;> with_reducible rfl) | (go_simp; go_bits; with_reducible rfl)
            go_simp
            try go_bits
            refine hK _ _ ?_
            clear hK K
          refine lex_step (fun K hK => ?_)
          simp only [lexOp, List.getElem?_toArray, List.getElem?_cons_succ, List.getElem?_cons_zero]
          rw [if_pos (by rfl)]
          go_step
          refine (refPut_any _ _ 1 3 [UInt8.ofNat o] ud 2 HS1.out (by decide) HLD.out (by decide) (by decide)).mono ?_
          rintro e' w6 ⟨v6, m6, rfl, ho6, hb6⟩
          replace hSw : Below w5.heap.size w5 w6 := hSw.trans (hb6.mono (by simp))
          obtain ⟨a6, c6, rfl, hs6, hc6⟩ := Sl.ofOwn ho6
          have HS6 := Lib.hid hs6
          have HB6 := Lib.hid (HB5.out.trans (hSw.mono HB5.out.size))
          have HO6 := Lib.hid (own_below HO5.out hSw)
          have HK6 := Lib.hid (HK5.out.below hSw)
          clear ho6 hb6 hs6
          go_simp
          refine hK _ _ ?_
          clear hK K
          iterate 1
            refine lex_step (fun K hK => ?_)
            simp only [lexOp, List.getElem?_toArray, List.getElem?_cons_succ, List.getElem?_cons_zero]
            rw [if_pos (by rfl)]
            apply Exists.intro
            refine ⟨fun w' hS' => ?_, hSw, ?_⟩
            · first | (go_simp <;> with_reducible rfl) | (go_simp; go_bits; with_reducible rfl)
            go_simp
            try go_bits
            refine hK _ _ ?_
            clear hK K
          refine lex_nil ?_
          clear ld0 ld2 hSw
          obtain ⟨⟨c0, c1, c2, c3⟩, _, hgX⟩ := HK6.out.box
          cases yb
          · have HQ := Lib.hid (show R = (8, []) by rw [HR.out]; exact HBD.out (by rw [HGD.out, HFY.out]))
            go_wp2_with fail
            go_ret2
            exact EncodeRet.err HQ.out HB6.out
          · have HGX := Lib.hid (HGN.out (by rw [HGD.out, HFY.out]))
            have HE6 : Hid (goesB L = true → [UInt8.ofNat o] ++ putB ud 2 = encOne ⟨p, o, x, y⟩) := Lib.hid (fun _ => HE8.out.symm)
            have HL6 : Hid ((encOne ⟨p, o, x, y⟩).length = m6 ∧ m6 ≤ 3) := Lib.hid (by have h := HS6.out.1; rw [← HE8.out] at h; have h2 := HEL.out; omega)
            have hm6 : m6 ≤ 3 := HL6.out.2
            cases bl
            · go_wp2_with (at_builtin; first
                | (refine wpList_app1 oneN rfl _ _ _ rfl w.heap.size _ m _ rfl HO6.out _ m6 _ rfl (HS6.out.src encB_cell Try.underlying25 _) (by omega) (by unfold maxLen; omega) HB6.out.size ?_; intro v8 w8 hown8 _ hb8; rw [← List.map_append] at hown8; obtain ⟨a8, c8, rfl, _, _⟩ := Sl.ofOwn hown8; have HO8 := Lib.hid hown8; have HB8 := Lib.hid (HB6.out.trans hb8); clear hown8 hb8))
              go_roundg (n - (j + 1))
              case measure => omega
              case rel =>
                have g1 : Hid (decide (4096 < (m : Int) + (m6 : Int)) = decide (4096 < m + m6)) := Lib.hid (by congr 1; apply propext; omega)
                have g2 : Hid ((encL (L.take (j + 1))).length = m + m6) := Lib.hid (by rw [HEN.out, List.length_append, HM.out, HL6.out.1])
                have g3 : Hid (goesB L = true → _ = encL (L.take (j + 1))) := Lib.hid (fun h => by rw [HEN.out, ← HE.out h, ← HE6.out h])
                exact ⟨j + 1, m + m6, _, _, by omega, rfl, by go_num, rfl, by omega, g1, g2, HO8, g3, HGX, HB8⟩
            · go_wp2_with (at_builtin; first
                | (refine wpList_app1 oneN rfl _ _ _ rfl w.heap.size _ m _ rfl HO6.out _ m6 _ rfl (HS6.out.src encB_cell Try.underlying25 _) (by omega) (by unfold maxLen; omega) HB6.out.size ?_; intro v8 w8 hown8 _ hb8; rw [← List.map_append] at hown8; obtain ⟨a8, c8, rfl, _, _⟩ := Sl.ofOwn hown8; have HO8 := Lib.hid hown8; have HB8 := Lib.hid (HB6.out.trans hb8); clear hown8 hb8))
              go_roundg (n - (j + 1))
              case measure => omega
              case rel =>
                have g1 : Hid (true = decide (4096 < m + m6)) := Lib.hid (by have h : 4096 < m := of_decide_eq_true HBL.out.symm; exact (decide_eq_true (by omega)).symm)
                have g2 : Hid ((encL (L.take (j + 1))).length = m + m6) := Lib.hid (by rw [HEN.out, List.length_append, HM.out, HL6.out.1])
                have g3 : Hid (goesB L = true → _ = encL (L.take (j + 1))) := Lib.hid (fun h => by rw [HEN.out, ← HE.out h, ← HE6.out h])
                exact ⟨j + 1, m + m6, _, _, by omega, rfl, by go_num, rfl, by omega, g1, g2, HO8, g3, HGX, HB8⟩
      · have e7 : ((f : Int) != 7) = true := by simp; omega
        have HON2 := Lib.hid (fun w' => HON.out w' h7)
        clear h7 HFT HON HE7 HTH HGB
        go_wp2_with fail
        refine (HON2.out _).mono ?_
        rintro e' w6 ⟨a6, m6, c6, bs6, rfl, hs6, hc6, hfit, hb6⟩
        have HB6 := Lib.hid (HBX.out.trans (hb6.mono HBX.out.size))
        have HO6 := Lib.hid (own_below HOX.out hb6)
        have HS6 := Lib.hid hs6
        have HFI := Lib.hid hfit
        have HK6 := Lib.hid (HKX.out.below hb6)
        clear hs6 hb6 hfit c0 c1 c2 c3 hgX
        obtain ⟨⟨c0, c1, c2, c3⟩, _, hgX⟩ := HK6.out.box
        cases ft
        · have HQ := Lib.hid (show R = (8, []) by rw [HR.out]; exact HBD.out (by rw [HGA.out]; rfl))
          go_wp2_with fail
          go_ret2
          exact EncodeRet.err HQ.out HB6.out
        · have HE6 : Hid (goesB L = true → bs6 = encOne ⟨p, o, x, y⟩) := Lib.hid (fun _ => HFI.out rfl)
          have HL6 : Hid ((encOne ⟨p, o, x, y⟩).length = m6 ∧ m6 ≤ 3) := Lib.hid (by have h := HS6.out.1; rw [HFI.out rfl] at h; have h2 := HEL.out; omega)
          clear HFI
          by_cases hpm : p = m
          case' neg =>
            have HQ := Lib.hid (show R = (8, []) by rw [HR.out]; exact HBD.out (by rw [HGA.out]; simp [hpm]))
            have epm : (p != (m : Int)) = true := by simp [hpm]
            clear hpm
            go_wp2_with fail
            go_ret2
            exact EncodeRet.err HQ.out HB6.out
          have epm : (p != (m : Int)) = false := by simp [hpm]
          have HGX := Lib.hid (HGN.out (by rw [HGA.out]; simp [hpm]))
          clear hpm
          have hm6 : m6 ≤ 3 := HL6.out.2
          cases bl
          · go_wp2_with (at_builtin; first
              | (refine wpList_app1 oneN rfl _ _ _ rfl w.heap.size _ m _ rfl HO6.out _ m6 _ rfl (HS6.out.src encB_cell Try.underlying25 _) (by omega) (by unfold maxLen; omega) HB6.out.size ?_; intro v8 w8 hown8 _ hb8; rw [← List.map_append] at hown8; obtain ⟨a8, c8, rfl, _, _⟩ := Sl.ofOwn hown8; have HO8 := Lib.hid hown8; have HB8 := Lib.hid (HB6.out.trans hb8); clear hown8 hb8))
            go_roundg (n - (j + 1))
            case measure => omega
            case rel =>
              have g1 : Hid (decide (4096 < (m : Int) + (m6 : Int)) = decide (4096 < m + m6)) := Lib.hid (by congr 1; apply propext; omega)
              have g2 : Hid ((encL (L.take (j + 1))).length = m + m6) := Lib.hid (by rw [HEN.out, List.length_append, HM.out, HL6.out.1])
              have g3 : Hid (goesB L = true → _ = encL (L.take (j + 1))) := Lib.hid (fun h => by rw [HEN.out, ← HE.out h, ← HE6.out h])
              exact ⟨j + 1, m + m6, _, _, by omega, rfl, by go_num, rfl, by omega, g1, g2, HO8, g3, HGX, HB8⟩
          · go_wp2_with (at_builtin; first
              | (refine wpList_app1 oneN rfl _ _ _ rfl w.heap.size _ m _ rfl HO6.out _ m6 _ rfl (HS6.out.src encB_cell Try.underlying25 _) (by omega) (by unfold maxLen; omega) HB6.out.size ?_; intro v8 w8 hown8 _ hb8; rw [← List.map_append] at hown8; obtain ⟨a8, c8, rfl, _, _⟩ := Sl.ofOwn hown8; have HO8 := Lib.hid hown8; have HB8 := Lib.hid (HB6.out.trans hb8); clear hown8 hb8))
            go_roundg (n - (j + 1))
            case measure => omega
            case rel =>
              have g1 : Hid (true = decide (4096 < m + m6)) := Lib.hid (by have h : 4096 < m := of_decide_eq_true HBL.out.symm; exact (decide_eq_true (by omega)).symm)
              have g2 : Hid ((encL (L.take (j + 1))).length = m + m6) := Lib.hid (by rw [HEN.out, List.length_append, HM.out, HL6.out.1])
              have g3 : Hid (goesB L = true → _ = encL (L.take (j + 1))) := Lib.hid (fun h => by rw [HEN.out, ← HE.out h, ← HE6.out h])
              exact ⟨j + 1, m + m6, _, _, by omega, rfl, by go_num, rfl, by omega, g1, g2, HO8, g3, HGX, HB8⟩
    · obtain rfl : j = n := by omega
      have HLE := Lib.hid (show encL (L.take j) = encL L by rw [List.take_of_length_le (by rw [HLn.out]; exact Nat.le_refl _)])
      have HGA := Lib.hid (show ∀ k, k < L.length → goodAt L k = true by rw [HLn.out]; exact HG.out)
      rw [HLE.out] at HE HM
      obtain ⟨ov, oc, rfl, hos, hoc⟩ := Sl.ofOwn HO.out
      have HSO := Lib.hid hos
      clear hos HO HLE
      go_wp2_with fail
      refine (HGS.out _ HB.out).mono ?_
      rintro e w3 ⟨rfl, hb3⟩
      have HB3 := Lib.hid (HB.out.trans (hb3.mono HB.out.size))
      have HS3 := Lib.hid (HSO.out.below hb3)
      clear hb3
      cases hg : goesB L
      · have HQ := Lib.hid (show R = (2, []) by rw [HR.out]; exact encode_range HGA.out hg)
        clear hg
        go_wp2_with fail
        go_ret2
        exact EncodeRet.err HQ.out HB3.out
      · have HGO := Lib.hid hg
        clear hg
        cases bl
        · have HQ := Lib.hid (show R = (0, encL L) by rw [HR.out]; exact encode_ok HGA.out HGO.out (by rw [HM.out]; have := HBL.out; simp at this; omega))
          have HBS := Lib.hid (HE.out HGO.out)
          go_wp2_with fail
          go_ret2
          exact ⟨ov, m, oc, by rw [HQ.out]; rfl, by rw [HQ.out, ← HBS.out]; exact HS3.out, hoc, HB3.out⟩
        · have HQ := Lib.hid (show R = (9, []) by rw [HR.out]; exact encode_long HGA.out HGO.out (by rw [HM.out]; have := HBL.out; simp at this; omega))
          go_wp2_with fail
          go_ret2
          exact EncodeRet.err HQ.out HB3.out
end Go.Proofs.Ytfhajbfgdbcpeaa
