/- pool: the reference's Bytes (printed by gen/pool6.py) and Same. No condition. -/
import Derived.Test.YtnfhiakdbakpgaaQ25KlassCuts
namespace Go.Proofs.Ytnfhiakdbakpgaa
open Go.ChangeShapes Go.WideShapes Go.ChangeAt Go.RowKit
set_option maxRecDepth 100000 in
set_option maxHeartbeats 16000000 in
theorem refBytes_any (w : World) (a : Option Addr) (n cap : Nat) (L : List KV) (hs : Ks w a n L) (hn : n ≤ 65536) (hl : ∀ i : Nat, i < n → (kAt L i).s.length ≤ 65536) (hp : poolOk L = true) (hb : (bytesK L).length ≤ 1000000) : Calls Try.prog 43 #[.slice a n cap] w (OwnRet encB 5 w.heap.size w (bytesK L)) := by
  have HS := Lib.hid hs
  have HLn := Lib.hid hs.1
  have HLS := Lib.hid hl
  have HBL := Lib.hid hb
  have HR := Lib.hid hp
  clear hs hl hb hp
  go_enter Try.func43, Try.ntmps43
  go_wp2_with fail
  refine (refPut_any _ none 0 0 [] n 2 (Sl.nil _ _) (by decide) (by omega) (by decide) (by decide)).mono ?_
  rintro e w2 ⟨v2, m2, rfl, ho2, hb2⟩
  have HO2 := Lib.hid ho2
  have HB2 := Lib.hid hb2
  rw [List.nil_append] at HO2
  clear ho2 hb2
  go_wp2_with fail
  go_loopg [12, 3] n (fun gn i v wr => ∃ j : Nat, j ≤ n ∧ gn = n - j ∧ i = .int .i64 j ∧ ∃ m, Hid (wr.ownsRow w.heap.size 5 1 v m ((putB n 2 ++ (L.take j).flatMap oneK).map encB)) ∧ Hid (Below w.heap.size w wr))
  case atStart => exact ⟨0, by omega, by omega, by go_num, m2, by simpa using HO2, HB2⟩
  case round =>
    obtain ⟨j, hj, rfl, rfl, m, HO, HB⟩ := hrel
    by_cases hlt : j < n
    · obtain ⟨b, off, rfl, _, hk⟩ := (HS.out.below HB.out).at j hlt
      obtain ⟨q0, q1, q2, q3, q4⟩ := hk
      have j1 : (j : Int) < n := by omega
      have htg := tags HR.out j (by rw [HLn.out]; exact hlt)
      have HNX := Lib.hid (take_flat L j (by rw [HLn.out]; exact hlt))
      have hml : m ≤ 1000000 := by
        have h1 := HO.out.1
        have h2 := take_flat_le L j
        have h3 := HBL.out
        rw [List.length_map, Nat.mul_one, ← HLn.out] at h1
        omega
      have hcl := HLS.out j hlt
      have hone : oneK (kAt L j) = oneK ⟨(kAt L j).tag, (kAt L j).a, (kAt L j).b, (kAt L j).n, (kAt L j).s⟩ := rfl
      rw [hone] at HNX
      obtain ⟨bs, hbs⟩ : ∃ bs, bs = putB n 2 ++ (L.take j).flatMap oneK := ⟨_, rfl⟩
      rw [← hbs] at HO
      have HNX := Lib.hid (show putB n 2 ++ (L.take (j + 1)).flatMap oneK = bs ++ oneK ⟨(kAt L j).tag, (kAt L j).a, (kAt L j).b, (kAt L j).n, (kAt L j).s⟩ by rw [HNX.out, hbs, List.append_assoc])
      clear hbs hone
      generalize (kAt L j).tag = ct at *
      generalize (kAt L j).a = ca at *
      generalize (kAt L j).b = cb at *
      generalize (kAt L j).n = cn at *
      generalize (kAt L j).s = cs at *
      have HNE := Lib.hid (own_not_new HO.out)
      obtain ⟨ua, hua⟩ : ∃ u, u = u64N ca := ⟨_, rfl⟩
      obtain ⟨ub, hub⟩ : ∃ u, u = u64N cb := ⟨_, rfl⟩
      obtain ⟨un, hun⟩ : ∃ u, u = u64N cn := ⟨_, rfl⟩
      have wa : IntKind.u64.wrap ca = (ua : Int) := by rw [hua]; exact u64N_wrap ca
      have wb : IntKind.u64.wrap cb = (ub : Int) := by rw [hub]; exact u64N_wrap cb
      have wn : IntKind.u64.wrap cn = (un : Int) := by rw [hun]; exact u64N_wrap cn
      have la : ua < 18446744073709551616 := by rw [hua]; exact u64N_lt _
      have lb : ub < 18446744073709551616 := by rw [hub]; exact u64N_lt _
      have ln : un < 18446744073709551616 := by rw [hun]; exact u64N_lt _
      have HUA := Lib.hid hua
      have HUB := Lib.hid hub
      have HUN := Lib.hid hun
      have HLA := Lib.hid la
      have HLB := Lib.hid lb
      have HLN := Lib.hid ln
      clear hua hub hun la lb ln
      rcases htg with rfl | rfl | rfl | rfl | rfl | rfl | rfl | rfl | rfl
      · go_wp2_with fail
        go_roundg (n - (j + 1))
        case measure => omega
        case rel => exact ⟨j + 1, by omega, rfl, by go_num, m, Lib.hid (by rw [HNX.out]; have h := HO.out.alloc (.cells #[.int .i64 0, .int .i64 ca, .int .i64 cb, .int .i64 cn, .string ⟨cs.toArray⟩] 42); simpa [oneK] using h), Lib.hid (HB.out.alloc HB.out.size _)⟩
      · have HK0 := Lib.hid ((KBox.new wr 1 ca cb cn cs 42).below (below_1 _ (.cells #[.int .u8 1] 5)))
        go_wp2_with (at_builtin; first
          | (refine wpList_app_lit2 oneN rfl _ _ rfl w.heap.size _ _ _ rfl (HO.out.alloc _) _ 1 _ _ rfl (by simp) rfl rfl (by omega) (by unfold maxLen; omega) (Nat.le_trans HB.out.size (by simp)) ?_; intro v5 w5 hown5 hg5 hb5; obtain ⟨a5, c5, rfl, hs5, hc5⟩ := Sl.ofOwn (xs := bs ++ [1]) (by rw [List.map_append]; exact hown5); obtain ⟨k0, k1, k2, k3, k4⟩ := HK0.out.grown hg5 HNE.out; have HS5 := Lib.hid hs5; have HB5 := Lib.hid ((HB.out.alloc HB.out.size (.cells #[.int .i64 1, .int .i64 ca, .int .i64 cb, .int .i64 cn, .string ⟨cs.toArray⟩] 42)).trans hb5); clear hown5 hg5 hb5 hs5))
        have ld4 := fun w' (h : Below w5.heap.size w5 w') => cellS_below h k4
        have hSw : Below w5.heap.size w5 w5.drew := (Below.refl _ _).drew
        clear k0 k1 k2 k3 k4
        refine wp_region_lex (Below w5.heap.size w5) [(0, true), (1, true), (2, true), (3, true), (4, true), (6, true), (7, true), (5, false), (8, false), (9, true)] (by kernel_rfl) (by kernel_rfl) (fun c a d v w h => by cases d <;> exact h) ?_
        iterate 7
          refine lex_step (fun K hK => ?_)
          simp only [lexOp, List.getElem?_toArray, List.getElem?_cons_succ, List.getElem?_cons_zero]
          rw [if_pos (by rfl)]
          apply Exists.intro
          refine ⟨fun w' hS' => ?_, hSw, ?_⟩
          · first | (go_simp <;> with_reducible rfl) | (go_simp; go_bits; with_reducible rfl)
          go_simp
          try go_bits
          refine hK _ _ ?_
          clear hK K
        refine lex_step (fun K hK => ?_)
        simp only [lexOp, List.getElem?_toArray, List.getElem?_cons_succ, List.getElem?_cons_zero]
        rw [if_pos (by rfl)]
        go_step
        refine (refPut_any _ a5 (m + 1) c5 (bs ++ [1]) cs.length 2 (HS5.out.below (Below.refl _ _).drew) (by omega) (by omega) (by decide) (by decide)).mono ?_
        rintro e w6 ⟨v6, m6, rfl, ho6, hb6⟩
        replace hSw : Below w5.heap.size w5 w6 := hSw.trans (hb6.mono (by simp))
        obtain ⟨a6, c6, rfl, hs6, hc6⟩ := Sl.ofOwn ho6
        have hm6 : m6 = m + 1 + 2 := by have h1 := hs6.1; have h2 := HS5.out.1; rw [List.length_append, putB_length, h2] at h1; exact h1.symm
        subst hm6
        have HO6 := Lib.hid ho6
        clear ho6 hb6 hs6
        go_simp
        refine hK _ _ ?_
        clear hK K
        refine lex_step (fun K hK => ?_)
        simp only [lexOp, List.getElem?_toArray, List.getElem?_cons_succ, List.getElem?_cons_zero]
        rw [if_pos (by rfl)]
        change Oper.wp _ _ _ _ _ _
        refine wp_appK oneN (ops := #[]) rfl _ _ _ rfl w5.heap.size _ (m + 1 + 2) _ rfl HO6.out _ cs.length (cs.map encB) rfl (strSrcK _ cs) (by omega) (by unfold maxLen; omega) hSw.size ?_
        intro v7 w7 hown7 _ hb7
        rw [← List.map_append] at hown7
        replace hSw : Below w5.heap.size w5 w7 := hSw.trans hb7
        have HO7 := Lib.hid (own_mono hown7 HB5.out.size)
        have HB7 := Lib.hid (HB5.out.trans (hSw.mono HB5.out.size))
        clear hown7 hb7
        go_simp
        refine hK _ _ ?_
        clear hK K
        iterate 1
          refine lex_step (fun K hK => ?_)
          simp only [lexOp, List.getElem?_toArray, List.getElem?_cons_succ, List.getElem?_cons_zero]
          rw [if_pos (by rfl)]
          apply Exists.intro
          refine ⟨fun w' hS' => ?_, hSw, ?_⟩
          · first | (go_simp <;> with_reducible rfl) | (go_simp; go_bits; with_reducible rfl)
          go_simp
          try go_bits
          refine hK _ _ ?_
          clear hK K
        refine lex_nil ?_
        clear ld4 hSw
        go_wp2_with fail
        go_roundg (n - (j + 1))
        case measure => omega
        case rel => exact ⟨j + 1, by omega, rfl, by go_num, m + 1 + 2 + cs.length, Lib.hid (by rw [HNX.out]; have h := HO7.out; skip; simpa [oneK, List.append_assoc, HUA.out, HUB.out, HUN.out] using h), HB7⟩
      · have HK0 := Lib.hid ((KBox.new wr 3 ca cb cn cs 42).below (below_1 _ (.cells #[.int .u8 3] 5)))
        go_wp2_with (at_builtin; first
          | (refine wpList_app_lit2 oneN rfl _ _ rfl w.heap.size _ _ _ rfl (HO.out.alloc _) _ 1 _ _ rfl (by simp) rfl rfl (by omega) (by unfold maxLen; omega) (Nat.le_trans HB.out.size (by simp)) ?_; intro v5 w5 hown5 hg5 hb5; obtain ⟨a5, c5, rfl, hs5, hc5⟩ := Sl.ofOwn (xs := bs ++ [3]) (by rw [List.map_append]; exact hown5); obtain ⟨k0, k1, k2, k3, k4⟩ := HK0.out.grown hg5 HNE.out; have HS5 := Lib.hid hs5; have HB5 := Lib.hid ((HB.out.alloc HB.out.size (.cells #[.int .i64 3, .int .i64 ca, .int .i64 cb, .int .i64 cn, .string ⟨cs.toArray⟩] 42)).trans hb5); clear hown5 hg5 hb5 hs5))
        refine (refPut_any _ a5 (m + 1) c5 (bs ++ [3]) un 4 HS5.out (by omega) HLN.out (by decide) (by decide)).mono ?_
        rintro e w6 ⟨v6, m6, rfl, ho6, hb6⟩
        have HB6 := Lib.hid (HB5.out.trans (hb6.mono HB5.out.size))
        have HO6 := Lib.hid (own_mono ho6 HB5.out.size)
        clear ho6 hb6 k0 k1 k2 k3 k4
        go_wp2_with fail
        go_roundg (n - (j + 1))
        case measure => omega
        case rel => exact ⟨j + 1, by omega, rfl, by go_num, m6, Lib.hid (by rw [HNX.out]; have h := HO6.out; skip; simpa [oneK, List.append_assoc, HUA.out, HUB.out, HUN.out] using h), HB6⟩
      · have HK0 := Lib.hid ((KBox.new wr 5 ca cb cn cs 42).below (below_1 _ (.cells #[.int .u8 5] 5)))
        go_wp2_with (at_builtin; first
          | (refine wpList_app_lit2 oneN rfl _ _ rfl w.heap.size _ _ _ rfl (HO.out.alloc _) _ 1 _ _ rfl (by simp) rfl rfl (by omega) (by unfold maxLen; omega) (Nat.le_trans HB.out.size (by simp)) ?_; intro v5 w5 hown5 hg5 hb5; obtain ⟨a5, c5, rfl, hs5, hc5⟩ := Sl.ofOwn (xs := bs ++ [5]) (by rw [List.map_append]; exact hown5); obtain ⟨k0, k1, k2, k3, k4⟩ := HK0.out.grown hg5 HNE.out; have HS5 := Lib.hid hs5; have HB5 := Lib.hid ((HB.out.alloc HB.out.size (.cells #[.int .i64 5, .int .i64 ca, .int .i64 cb, .int .i64 cn, .string ⟨cs.toArray⟩] 42)).trans hb5); clear hown5 hg5 hb5 hs5))
        refine (refPut_any _ a5 (m + 1) c5 (bs ++ [5]) un 8 HS5.out (by omega) HLN.out (by decide) (by decide)).mono ?_
        rintro e w6 ⟨v6, m6, rfl, ho6, hb6⟩
        have HB6 := Lib.hid (HB5.out.trans (hb6.mono HB5.out.size))
        have HO6 := Lib.hid (own_mono ho6 HB5.out.size)
        clear ho6 hb6 k0 k1 k2 k3 k4
        go_wp2_with fail
        go_roundg (n - (j + 1))
        case measure => omega
        case rel => exact ⟨j + 1, by omega, rfl, by go_num, m6, Lib.hid (by rw [HNX.out]; have h := HO6.out; skip; simpa [oneK, List.append_assoc, HUA.out, HUB.out, HUN.out] using h), HB6⟩
      · have HK0 := Lib.hid ((KBox.new wr 7 ca cb cn cs 42).below (below_1 _ (.cells #[.int .u8 7] 5)))
        go_wp2_with (at_builtin; first
          | (refine wpList_app_lit2 oneN rfl _ _ rfl w.heap.size _ _ _ rfl (HO.out.alloc _) _ 1 _ _ rfl (by simp) rfl rfl (by omega) (by unfold maxLen; omega) (Nat.le_trans HB.out.size (by simp)) ?_; intro v5 w5 hown5 hg5 hb5; obtain ⟨a5, c5, rfl, hs5, hc5⟩ := Sl.ofOwn (xs := bs ++ [7]) (by rw [List.map_append]; exact hown5); obtain ⟨k0, k1, k2, k3, k4⟩ := HK0.out.grown hg5 HNE.out; have HS5 := Lib.hid hs5; have HB5 := Lib.hid ((HB.out.alloc HB.out.size (.cells #[.int .i64 7, .int .i64 ca, .int .i64 cb, .int .i64 cn, .string ⟨cs.toArray⟩] 42)).trans hb5); clear hown5 hg5 hb5 hs5))
        refine (refPut_any _ a5 (m + 1) c5 (bs ++ [7]) ua 2 HS5.out (by omega) HLA.out (by decide) (by decide)).mono ?_
        rintro e w6 ⟨v6, m6, rfl, ho6, hb6⟩
        have HB6 := Lib.hid (HB5.out.trans (hb6.mono HB5.out.size))
        have HO6 := Lib.hid (own_mono ho6 HB5.out.size)
        clear ho6 hb6 k0 k1 k2 k3 k4
        go_wp2_with fail
        go_roundg (n - (j + 1))
        case measure => omega
        case rel => exact ⟨j + 1, by omega, rfl, by go_num, m6, Lib.hid (by rw [HNX.out]; have h := HO6.out; skip; simpa [oneK, List.append_assoc, HUA.out, HUB.out, HUN.out] using h), HB6⟩
      · have HK0 := Lib.hid ((KBox.new wr 8 ca cb cn cs 42).below (below_1 _ (.cells #[.int .u8 8] 5)))
        go_wp2_with (at_builtin; first
          | (refine wpList_app_lit2 oneN rfl _ _ rfl w.heap.size _ _ _ rfl (HO.out.alloc _) _ 1 _ _ rfl (by simp) rfl rfl (by omega) (by unfold maxLen; omega) (Nat.le_trans HB.out.size (by simp)) ?_; intro v5 w5 hown5 hg5 hb5; obtain ⟨a5, c5, rfl, hs5, hc5⟩ := Sl.ofOwn (xs := bs ++ [8]) (by rw [List.map_append]; exact hown5); obtain ⟨k0, k1, k2, k3, k4⟩ := HK0.out.grown hg5 HNE.out; have HS5 := Lib.hid hs5; have HB5 := Lib.hid ((HB.out.alloc HB.out.size (.cells #[.int .i64 8, .int .i64 ca, .int .i64 cb, .int .i64 cn, .string ⟨cs.toArray⟩] 42)).trans hb5); clear hown5 hg5 hb5 hs5))
        refine (refPut_any _ a5 (m + 1) c5 (bs ++ [8]) ua 2 HS5.out (by omega) HLA.out (by decide) (by decide)).mono ?_
        rintro e w6 ⟨v6, m6, rfl, ho6, hb6⟩
        have HB6 := Lib.hid (HB5.out.trans (hb6.mono HB5.out.size))
        have HO6 := Lib.hid (own_mono ho6 HB5.out.size)
        clear ho6 hb6 k0 k1 k2 k3 k4
        go_wp2_with fail
        go_roundg (n - (j + 1))
        case measure => omega
        case rel => exact ⟨j + 1, by omega, rfl, by go_num, m6, Lib.hid (by rw [HNX.out]; have h := HO6.out; skip; simpa [oneK, List.append_assoc, HUA.out, HUB.out, HUN.out] using h), HB6⟩
      · have HK0 := Lib.hid ((KBox.new wr 9 ca cb cn cs 42).below (below_1 _ (.cells #[.int .u8 9] 5)))
        go_wp2_with (at_builtin; first
          | (refine wpList_app_lit2 oneN rfl _ _ rfl w.heap.size _ _ _ rfl (HO.out.alloc _) _ 1 _ _ rfl (by simp) rfl rfl (by omega) (by unfold maxLen; omega) (Nat.le_trans HB.out.size (by simp)) ?_; intro v5 w5 hown5 hg5 hb5; obtain ⟨a5, c5, rfl, hs5, hc5⟩ := Sl.ofOwn (xs := bs ++ [9]) (by rw [List.map_append]; exact hown5); obtain ⟨k0, k1, k2, k3, k4⟩ := HK0.out.grown hg5 HNE.out; have HS5 := Lib.hid hs5; have HB5 := Lib.hid ((HB.out.alloc HB.out.size (.cells #[.int .i64 9, .int .i64 ca, .int .i64 cb, .int .i64 cn, .string ⟨cs.toArray⟩] 42)).trans hb5); clear hown5 hg5 hb5 hs5))
        have ld1 := fun w' (h : Below w5.heap.size w5 w') => cellS_below h k1
        have ld2 := fun w' (h : Below w5.heap.size w5 w') => cellS_below h k2
        have hSw : Below w5.heap.size w5 w5.drew := (Below.refl _ _).drew
        clear k0 k1 k2 k3 k4
        refine wp_region_lex (Below w5.heap.size w5) [(0, true), (1, true), (2, true), (3, true), (5, true), (6, true), (7, true), (4, false), (8, false), (9, true)] (by kernel_rfl) (by kernel_rfl) (fun c a d v w h => by cases d <;> exact h) ?_
        iterate 7
          refine lex_step (fun K hK => ?_)
          simp only [lexOp, List.getElem?_toArray, List.getElem?_cons_succ, List.getElem?_cons_zero]
          rw [if_pos (by rfl)]
          apply Exists.intro
          refine ⟨fun w' hS' => ?_, hSw, ?_⟩
          · first | (go_simp <;> with_reducible rfl) | (go_simp; go_bits; with_reducible rfl)
          go_simp
          try go_bits
          refine hK _ _ ?_
          clear hK K
        refine lex_step (fun K hK => ?_)
        simp only [lexOp, List.getElem?_toArray, List.getElem?_cons_succ, List.getElem?_cons_zero]
        rw [if_pos (by rfl)]
        go_step
        refine (refPut_any _ a5 (m + 1) c5 (bs ++ [9]) ua 2 (HS5.out.below (Below.refl _ _).drew) (by omega) HLA.out (by decide) (by decide)).mono ?_
        rintro e w6 ⟨v6, m6, rfl, ho6, hb6⟩
        replace hSw : Below w5.heap.size w5 w6 := hSw.trans (hb6.mono (by simp))
        obtain ⟨a6, c6, rfl, hs6, hc6⟩ := Sl.ofOwn ho6
        have hm6 : m6 = m + 1 + 2 := by have h1 := hs6.1; have h2 := HS5.out.1; rw [List.length_append, putB_length, h2] at h1; exact h1.symm
        subst hm6
        have HS6 := Lib.hid hs6
        clear ho6 hb6 hs6
        go_simp
        refine hK _ _ ?_
        clear hK K
        refine lex_step (fun K hK => ?_)
        simp only [lexOp, List.getElem?_toArray, List.getElem?_cons_succ, List.getElem?_cons_zero]
        rw [if_pos (by rfl)]
        go_step
        refine (refPut_any _ a6 (m + 1 + 2) c6 _ ub 2 HS6.out (by omega) HLB.out (by decide) (by decide)).mono ?_
        rintro e w7 ⟨v7, m7, rfl, ho7, hb7⟩
        have HO7 := Lib.hid (own_mono ho7 (Nat.le_trans HB5.out.size hSw.size))
        replace hSw : Below w5.heap.size w5 w7 := hSw.trans (hb7.mono hSw.size)
        have HB7 := Lib.hid (HB5.out.trans (hSw.mono HB5.out.size))
        clear ho7 hb7
        go_simp
        refine hK _ _ ?_
        clear hK K
        iterate 1
          refine lex_step (fun K hK => ?_)
          simp only [lexOp, List.getElem?_toArray, List.getElem?_cons_succ, List.getElem?_cons_zero]
          rw [if_pos (by rfl)]
          apply Exists.intro
          refine ⟨fun w' hS' => ?_, hSw, ?_⟩
          · first | (go_simp <;> with_reducible rfl) | (go_simp; go_bits; with_reducible rfl)
          go_simp
          try go_bits
          refine hK _ _ ?_
          clear hK K
        refine lex_nil ?_
        clear ld1 ld2 hSw
        go_wp2_with fail
        go_roundg (n - (j + 1))
        case measure => omega
        case rel => exact ⟨j + 1, by omega, rfl, by go_num, m7, Lib.hid (by rw [HNX.out]; have h := HO7.out; skip; simpa [oneK, List.append_assoc, HUA.out, HUB.out, HUN.out] using h), HB7⟩
      · have HK0 := Lib.hid ((KBox.new wr 10 ca cb cn cs 42).below (below_1 _ (.cells #[.int .u8 10] 5)))
        go_wp2_with (at_builtin; first
          | (refine wpList_app_lit2 oneN rfl _ _ rfl w.heap.size _ _ _ rfl (HO.out.alloc _) _ 1 _ _ rfl (by simp) rfl rfl (by omega) (by unfold maxLen; omega) (Nat.le_trans HB.out.size (by simp)) ?_; intro v5 w5 hown5 hg5 hb5; obtain ⟨a5, c5, rfl, hs5, hc5⟩ := Sl.ofOwn (xs := bs ++ [10]) (by rw [List.map_append]; exact hown5); obtain ⟨k0, k1, k2, k3, k4⟩ := HK0.out.grown hg5 HNE.out; have HS5 := Lib.hid hs5; have HB5 := Lib.hid ((HB.out.alloc HB.out.size (.cells #[.int .i64 10, .int .i64 ca, .int .i64 cb, .int .i64 cn, .string ⟨cs.toArray⟩] 42)).trans hb5); clear hown5 hg5 hb5 hs5))
        have ld1 := fun w' (h : Below w5.heap.size w5 w') => cellS_below h k1
        have ld2 := fun w' (h : Below w5.heap.size w5 w') => cellS_below h k2
        have hSw : Below w5.heap.size w5 w5.drew := (Below.refl _ _).drew
        clear k0 k1 k2 k3 k4
        refine wp_region_lex (Below w5.heap.size w5) [(0, true), (1, true), (2, true), (3, true), (5, true), (6, true), (7, true), (4, false), (8, false), (9, true)] (by kernel_rfl) (by kernel_rfl) (fun c a d v w h => by cases d <;> exact h) ?_
        iterate 7
          refine lex_step (fun K hK => ?_)
          simp only [lexOp, List.getElem?_toArray, List.getElem?_cons_succ, List.getElem?_cons_zero]
          rw [if_pos (by rfl)]
          apply Exists.intro
          refine ⟨fun w' hS' => ?_, hSw, ?_⟩
          · first | (go_simp <;> with_reducible rfl) | (go_simp; go_bits; with_reducible rfl)
          go_simp
          try go_bits
          refine hK _ _ ?_
          clear hK K
        refine lex_step (fun K hK => ?_)
        simp only [lexOp, List.getElem?_toArray, List.getElem?_cons_succ, List.getElem?_cons_zero]
        rw [if_pos (by rfl)]
        go_step
        refine (refPut_any _ a5 (m + 1) c5 (bs ++ [10]) ua 2 (HS5.out.below (Below.refl _ _).drew) (by omega) HLA.out (by decide) (by decide)).mono ?_
        rintro e w6 ⟨v6, m6, rfl, ho6, hb6⟩
        replace hSw : Below w5.heap.size w5 w6 := hSw.trans (hb6.mono (by simp))
        obtain ⟨a6, c6, rfl, hs6, hc6⟩ := Sl.ofOwn ho6
        have hm6 : m6 = m + 1 + 2 := by have h1 := hs6.1; have h2 := HS5.out.1; rw [List.length_append, putB_length, h2] at h1; exact h1.symm
        subst hm6
        have HS6 := Lib.hid hs6
        clear ho6 hb6 hs6
        go_simp
        refine hK _ _ ?_
        clear hK K
        refine lex_step (fun K hK => ?_)
        simp only [lexOp, List.getElem?_toArray, List.getElem?_cons_succ, List.getElem?_cons_zero]
        rw [if_pos (by rfl)]
        go_step
        refine (refPut_any _ a6 (m + 1 + 2) c6 _ ub 2 HS6.out (by omega) HLB.out (by decide) (by decide)).mono ?_
        rintro e w7 ⟨v7, m7, rfl, ho7, hb7⟩
        have HO7 := Lib.hid (own_mono ho7 (Nat.le_trans HB5.out.size hSw.size))
        replace hSw : Below w5.heap.size w5 w7 := hSw.trans (hb7.mono hSw.size)
        have HB7 := Lib.hid (HB5.out.trans (hSw.mono HB5.out.size))
        clear ho7 hb7
        go_simp
        refine hK _ _ ?_
        clear hK K
        iterate 1
          refine lex_step (fun K hK => ?_)
          simp only [lexOp, List.getElem?_toArray, List.getElem?_cons_succ, List.getElem?_cons_zero]
          rw [if_pos (by rfl)]
          apply Exists.intro
          refine ⟨fun w' hS' => ?_, hSw, ?_⟩
          · first | (go_simp <;> with_reducible rfl) | (go_simp; go_bits; with_reducible rfl)
          go_simp
          try go_bits
          refine hK _ _ ?_
          clear hK K
        refine lex_nil ?_
        clear ld1 ld2 hSw
        go_wp2_with fail
        go_roundg (n - (j + 1))
        case measure => omega
        case rel => exact ⟨j + 1, by omega, rfl, by go_num, m7, Lib.hid (by rw [HNX.out]; have h := HO7.out; skip; simpa [oneK, List.append_assoc, HUA.out, HUB.out, HUN.out] using h), HB7⟩
      · have HK0 := Lib.hid ((KBox.new wr 12 ca cb cn cs 42).below (below_1 _ (.cells #[.int .u8 12] 5)))
        go_wp2_with (at_builtin; first
          | (refine wpList_app_lit2 oneN rfl _ _ rfl w.heap.size _ _ _ rfl (HO.out.alloc _) _ 1 _ _ rfl (by simp) rfl rfl (by omega) (by unfold maxLen; omega) (Nat.le_trans HB.out.size (by simp)) ?_; intro v5 w5 hown5 hg5 hb5; obtain ⟨a5, c5, rfl, hs5, hc5⟩ := Sl.ofOwn (xs := bs ++ [12]) (by rw [List.map_append]; exact hown5); obtain ⟨k0, k1, k2, k3, k4⟩ := HK0.out.grown hg5 HNE.out; have HS5 := Lib.hid hs5; have HB5 := Lib.hid ((HB.out.alloc HB.out.size (.cells #[.int .i64 12, .int .i64 ca, .int .i64 cb, .int .i64 cn, .string ⟨cs.toArray⟩] 42)).trans hb5); clear hown5 hg5 hb5 hs5))
        have ld1 := fun w' (h : Below w5.heap.size w5 w') => cellS_below h k1
        have ld2 := fun w' (h : Below w5.heap.size w5 w') => cellS_below h k2
        have hSw : Below w5.heap.size w5 w5.drew := (Below.refl _ _).drew
        clear k0 k1 k2 k3 k4
        refine wp_region_lex (Below w5.heap.size w5) [(0, true), (1, true), (2, true), (3, true), (5, true), (6, true), (7, true), (4, false), (8, false), (9, true)] (by kernel_rfl) (by kernel_rfl) (fun c a d v w h => by cases d <;> exact h) ?_
        iterate 7
          refine lex_step (fun K hK => ?_)
          simp only [lexOp, List.getElem?_toArray, List.getElem?_cons_succ, List.getElem?_cons_zero]
          rw [if_pos (by rfl)]
          apply Exists.intro
          refine ⟨fun w' hS' => ?_, hSw, ?_⟩
          · first | (go_simp <;> with_reducible rfl) | (go_simp; go_bits; with_reducible rfl)
          go_simp
          try go_bits
          refine hK _ _ ?_
          clear hK K
        refine lex_step (fun K hK => ?_)
        simp only [lexOp, List.getElem?_toArray, List.getElem?_cons_succ, List.getElem?_cons_zero]
        rw [if_pos (by rfl)]
        go_step
        refine (refPut_any _ a5 (m + 1) c5 (bs ++ [12]) ua 2 (HS5.out.below (Below.refl _ _).drew) (by omega) HLA.out (by decide) (by decide)).mono ?_
        rintro e w6 ⟨v6, m6, rfl, ho6, hb6⟩
        replace hSw : Below w5.heap.size w5 w6 := hSw.trans (hb6.mono (by simp))
        obtain ⟨a6, c6, rfl, hs6, hc6⟩ := Sl.ofOwn ho6
        have hm6 : m6 = m + 1 + 2 := by have h1 := hs6.1; have h2 := HS5.out.1; rw [List.length_append, putB_length, h2] at h1; exact h1.symm
        subst hm6
        have HS6 := Lib.hid hs6
        clear ho6 hb6 hs6
        go_simp
        refine hK _ _ ?_
        clear hK K
        refine lex_step (fun K hK => ?_)
        simp only [lexOp, List.getElem?_toArray, List.getElem?_cons_succ, List.getElem?_cons_zero]
        rw [if_pos (by rfl)]
        go_step
        refine (refPut_any _ a6 (m + 1 + 2) c6 _ ub 2 HS6.out (by omega) HLB.out (by decide) (by decide)).mono ?_
        rintro e w7 ⟨v7, m7, rfl, ho7, hb7⟩
        have HO7 := Lib.hid (own_mono ho7 (Nat.le_trans HB5.out.size hSw.size))
        replace hSw : Below w5.heap.size w5 w7 := hSw.trans (hb7.mono hSw.size)
        have HB7 := Lib.hid (HB5.out.trans (hSw.mono HB5.out.size))
        clear ho7 hb7
        go_simp
        refine hK _ _ ?_
        clear hK K
        iterate 1
          refine lex_step (fun K hK => ?_)
          simp only [lexOp, List.getElem?_toArray, List.getElem?_cons_succ, List.getElem?_cons_zero]
          rw [if_pos (by rfl)]
          apply Exists.intro
          refine ⟨fun w' hS' => ?_, hSw, ?_⟩
          · first | (go_simp <;> with_reducible rfl) | (go_simp; go_bits; with_reducible rfl)
          go_simp
          try go_bits
          refine hK _ _ ?_
          clear hK K
        refine lex_nil ?_
        clear ld1 ld2 hSw
        go_wp2_with fail
        go_roundg (n - (j + 1))
        case measure => omega
        case rel => exact ⟨j + 1, by omega, rfl, by go_num, m7, Lib.hid (by rw [HNX.out]; have h := HO7.out; skip; simpa [oneK, List.append_assoc, HUA.out, HUB.out, HUN.out] using h), HB7⟩
    · obtain rfl : j = n := by omega
      have HE := Lib.hid HO.out
      rw [List.take_of_length_le (by rw [HLn.out]; exact Nat.le_refl _)] at HE
      go_wp2_with fail
      go_ret
      exact ⟨_, m, rfl, by unfold bytesK; rw [HLn.out]; exact HE.out, HB.out⟩
set_option maxRecDepth 100000 in
set_option maxHeartbeats 4000000 in
theorem Same_yesK (w : World) (a b : Option Addr) (n ca cb : Nat) (L : List KV) (hs : Ks w a n L) (ht : Ks w b n L) (hn : n ≤ 65536) : Calls Try.prog 47 #[.slice a n ca, .slice b n cb] w (BoolRet true w) := by
  have HS := Lib.hid hs
  have HT := Lib.hid ht
  have hgd := konst_guard
  clear hs ht
  go_enter Try.func47, Try.ntmps47
  go_wp2_with fail
  go_loopg [13] n (fun gn i wr => ∃ j : Nat, j ≤ n ∧ gn = n - j ∧ i = .int .i64 j ∧ Hid (Below w.heap.size w wr))
  case atStart => exact ⟨0, by omega, by omega, by go_num, Lib.hid (Below.refl _ _)⟩
  case round =>
    obtain ⟨j, hj, rfl, rfl, HB⟩ := hrel
    by_cases hlt : j < n
    · obtain ⟨b1, o1, rfl, _, p⟩ := (HS.out.below HB.out).at j hlt
      obtain ⟨b2, o2, rfl, _, q⟩ := (HT.out.below HB.out).at j hlt
      obtain ⟨p0, p1, p2, p3, p4⟩ := p
      obtain ⟨q0, q1, q2, q3, q4⟩ := q
      have hq := fun w' => run_equalK w' 9998 (kAt L j) (kAt L j)
      rw [show sameK (kAt L j) (kAt L j) = true by unfold sameK; simp] at hq
      unfold kV at hq
      generalize (kAt L j).tag = ct at *
      generalize (kAt L j).a = ca at *
      generalize (kAt L j).b = cb at *
      generalize (kAt L j).n = cn at *
      generalize (kAt L j).s = cs at *
      have j1 : (j : Int) < n := by omega
      have j0 : (0 : Int) ≤ j := by omega
      go_wp2_with fail
      go_quiet (fail)
      have HB2 := Lib.hid (bdrewN HB.out nq)
      go_wp2_with fail
      go_roundg (n - (j + 1))
      case measure => omega
      case rel => exact ⟨j + 1, by omega, rfl, by go_num, HB2⟩
    · obtain rfl : j = n := by omega
      go_wp2_with fail
      go_ret
      exact ⟨rfl, HB.out⟩
end Go.Proofs.Ytnfhiakdbakpgaa
