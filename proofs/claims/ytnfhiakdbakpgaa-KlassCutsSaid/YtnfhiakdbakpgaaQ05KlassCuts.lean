/- pool: Bytes. No condition. -/
import Derived.Test.YtnfhiakdbakpgaaQ04KlassCuts
import Derived.Test.YtnfhiakdbakpgaaQ02KlassCuts
import Derived.Test.YtnfhiakdbakpgaaQ01KlassCuts
namespace Go.Proofs.Ytnfhiakdbakpgaa
open Go.ChangeShapes Go.WideShapes Go.ChangeAt Go.RowKit
/-- A number as 64 bits. -/
def u64N (n : Int) : Nat := (n % 18446744073709551616).toNat
theorem u64N_lt (n : Int) : u64N n < 18446744073709551616 := by unfold u64N; omega
theorem u64N_wrap (n : Int) : IntKind.u64.wrap n = (u64N n : Int) := by rw [IntKind.wrap_u64]; unfold u64N; omega
/-- A constant's bytes. -/
def oneK (c : KV) : List UInt8 :=
  if c.tag = 0 then [] else UInt8.ofNat c.tag.toNat :: (
    if c.tag = 1 then putB c.s.length 2 ++ c.s
    else if c.tag = 3 then putB (u64N c.n) 4
    else if c.tag = 5 then putB (u64N c.n) 8
    else if c.tag = 7 ∨ c.tag = 8 then putB (u64N c.a) 2
    else putB (u64N c.a) 2 ++ putB (u64N c.b) 2)
/-- A pool's bytes. -/
def bytesK (L : List KV) : List UInt8 := putB L.length 2 ++ L.flatMap oneK
def BytesRet (L : List KV) (w : World) (e : Ending) (w' : World) : Prop :=
  (poolOk L = false ∧ e = .returned (.tuple #[.slice none 0 0, .int .i64 8]) ∧ Below w.heap.size w w') ∨
  (poolOk L = true ∧ ∃ v m, e = .returned (.tuple #[v, .int .i64 0]) ∧ w'.ownsRow w.heap.size 5 1 v m ((bytesK L).map encB) ∧ Below w.heap.size w w')
theorem tags {L : List KV} (h : poolOk L = true) (k : Nat) (hk : k < L.length) : ((kAt L k).tag = 0 ∨ (kAt L k).tag = 1 ∨ (kAt L k).tag = 3 ∨ (kAt L k).tag = 5 ∨ (kAt L k).tag = 7 ∨ (kAt L k).tag = 8 ∨ (kAt L k).tag = 9 ∨ (kAt L k).tag = 10 ∨ (kAt L k).tag = 12) := by
  have h1 := (poolOk_parts h).2.2.2 k hk
  unfold placeOk leadOk at h1
  simp only [Bool.and_eq_true] at h1
  have h2 := h1.2
  by_cases c0 : (kAt L k).tag = 0
  · exact .inl c0
  by_cases c1 : (kAt L k).tag = 1
  · exact .inr (.inl c1)
  by_cases c3 : (kAt L k).tag = 3
  · omega
  by_cases c5 : (kAt L k).tag = 5
  · omega
  by_cases c12 : (kAt L k).tag = 12
  · omega
  by_cases c7 : (kAt L k).tag = 7 ∨ (kAt L k).tag = 8
  · omega
  by_cases c9 : (kAt L k).tag = 9 ∨ (kAt L k).tag = 10
  · omega
  simp [c0, c1, c3, c5, c12, c7, c9] at h2
/-- A constant's cells, alone in a block. -/
structure KBox (w : World) (b : Nat) (ct ca cb cn : Int) (cs : List UInt8) : Prop where
  c0 : w.cell? ⟨b, 0, none⟩ = some (.int .i64 ct)
  c1 : w.cell? ⟨b, 1, none⟩ = some (.int .i64 ca)
  c2 : w.cell? ⟨b, 2, none⟩ = some (.int .i64 cb)
  c3 : w.cell? ⟨b, 3, none⟩ = some (.int .i64 cn)
  c4 : w.cell? ⟨b, 4, none⟩ = some (.string ⟨cs.toArray⟩)
theorem KBox.grown {w w' : World} {row : Option Nat} {b : Nat} {ct ca cb cn : Int} {cs : List UInt8} (h : KBox w b ct ca cb cn cs) (hg : w.grownBy w' row) (hne : some b ≠ row) : KBox w' b ct ca cb cn cs :=
  ⟨hg.cell h.c0 hne, hg.cell h.c1 hne, hg.cell h.c2 hne, hg.cell h.c3 hne, hg.cell h.c4 hne⟩
theorem KBox.below {w w' : World} {b : Nat} {ct ca cb cn : Int} {cs : List UInt8} (h : KBox w b ct ca cb cn cs) (hb : Below w.heap.size w w') : KBox w' b ct ca cb cn cs :=
  ⟨cellS_below hb h.c0, cellS_below hb h.c1, cellS_below hb h.c2, cellS_below hb h.c3, cellS_below hb h.c4⟩
theorem KBox.new (w : World) (ct ca cb cn : Int) (cs : List UInt8) (t : TypeId) : KBox (w.alloc (.cells #[.int .i64 ct, .int .i64 ca, .int .i64 cb, .int .i64 cn, .string ⟨cs.toArray⟩] t)) w.heap.size ct ca cb cn cs :=
  ⟨by rw [cell_of_row _ _ 0 _ _ _ (heap_alloc_last w _)]; rfl, by rw [cell_of_row _ _ 1 _ _ _ (heap_alloc_last w _)]; rfl, by rw [cell_of_row _ _ 2 _ _ _ (heap_alloc_last w _)]; rfl, by rw [cell_of_row _ _ 3 _ _ _ (heap_alloc_last w _)]; rfl, by rw [cell_of_row _ _ 4 _ _ _ (heap_alloc_last w _)]; rfl⟩
theorem own_not_new {w : World} {B : Nat} {e : TypeId} {size : Nat} {v : Value} {n : Nat} {xs : List Value} (h : w.ownsRow B e size v n xs) : some w.heap.size ≠ v.ownBlock := by
  intro he
  have := (h.lt _ he.symm).2
  omega
theorem take_flat (L : List KV) (j : Nat) (hj : j < L.length) : (L.take (j + 1)).flatMap oneK = (L.take j).flatMap oneK ++ oneK (kAt L j) := by
  rw [List.take_succ_eq_append_getElem hj, List.flatMap_append]
  unfold kAt
  simp [List.getD, hj]
theorem take_flat_le (L : List KV) (j : Nat) : (putB L.length 2 ++ (L.take j).flatMap oneK).length ≤ (bytesK L).length := by
  unfold bytesK
  rw [List.length_append, List.length_append]
  have h : (L.flatMap oneK) = (L.take j).flatMap oneK ++ (L.drop j).flatMap oneK := by rw [← List.flatMap_append, List.take_append_drop]
  rw [h, List.length_append]
  omega
set_option maxRecDepth 100000 in
set_option maxHeartbeats 16000000 in
theorem Bytes_any (w : World) (a : Option Addr) (n cap : Nat) (L : List KV) (hs : Ks w a n L) (hn : n ≤ 65536) (hl : ∀ i : Nat, i < n → (kAt L i).s.length ≤ 65536) (hb : poolOk L = true → (bytesK L).length ≤ 1000000) : Calls Try.prog 18 #[.slice a n cap] w (BytesRet L w) := by
  have HS := Lib.hid hs
  have HLn := Lib.hid hs.1
  have HLS := Lib.hid hl
  have HBL := Lib.hid hb
  have HCK := Lib.hid (Check_any w a n cap L hs hn hl)
  cases hp : poolOk L
  · have HR := Lib.hid hp
    unfold CheckRet at HCK
    rw [hp] at HCK
    simp only [Bool.false_eq_true, if_false] at HCK
    clear hs hl hb hp
    go_enter Try.func18, Try.ntmps18
    go_wp2_with fail
    refine HCK.out.mono ?_
    rintro e w1 ⟨rfl, hb1⟩
    have HB1 := Lib.hid hb1
    clear hb1
    go_wp2_with fail
    go_ret2
    exact .inl ⟨HR.out, rfl, HB1.out⟩
  · have HR := Lib.hid hp
    unfold CheckRet at HCK
    rw [hp] at HCK
    simp only [if_true] at HCK
    clear hs hl hb hp
    go_enter Try.func18, Try.ntmps18
    go_wp2_with fail
    refine HCK.out.mono ?_
    rintro e w1 ⟨rfl, hb1⟩
    have HB1 := Lib.hid hb1
    clear hb1
    go_wp2_with fail
    refine (Put_any _ none 0 0 [] n 2 (Sl.nil _ _) (by decide) (by decide) (by omega) (by decide) (by decide)).mono ?_
    rintro e w2 ⟨v2, m2, rfl, ho2, hb2⟩
    have HO2 := Lib.hid (own_mono ho2 HB1.out.size)
    have HB2 := Lib.hid (HB1.out.trans (hb2.mono HB1.out.size))
    rw [List.nil_append] at HO2
    clear ho2 hb2
    go_wp2_with fail
    go_loopg [19, 5] n (fun gn i v wr => ∃ j : Nat, j ≤ n ∧ gn = n - j ∧ i = .int .i64 j ∧ ∃ m, Hid (wr.ownsRow w.heap.size 5 1 v m ((putB n 2 ++ (L.take j).flatMap oneK).map encB)) ∧ Hid (Below w.heap.size w wr))
    case atStart => exact ⟨0, by omega, by omega, by go_num, m2, by simpa using HO2, HB2⟩
    case round =>
      obtain ⟨j, hj, rfl, rfl, m, HO, HB⟩ := hrel
      by_cases hlt : j < n
      · obtain ⟨b, off, rfl, _, hk⟩ := (HS.out.below HB.out).at j hlt
        obtain ⟨q0, q1, q2, q3, q4⟩ := hk
        have j1 : (j : Int) < n := by omega
        have htg := tags HR.out j (by rw [HLn.out]; exact hlt)
        have HNX := Lib.hid (take_flat L j (by rw [HLn.out]; exact hlt))
        have hml : m ≤ 1000000 := by
          have h1 := HO.out.1
          have h2 := take_flat_le L j
          have h3 := HBL.out HR.out
          rw [List.length_map, Nat.mul_one, ← HLn.out] at h1
          omega
        have hcl := HLS.out j hlt
        have hone : oneK (kAt L j) = oneK ⟨(kAt L j).tag, (kAt L j).a, (kAt L j).b, (kAt L j).n, (kAt L j).s⟩ := rfl
        rw [hone] at HNX
        obtain ⟨bs, hbs⟩ : ∃ bs, bs = putB n 2 ++ (L.take j).flatMap oneK := ⟨_, rfl⟩
        rw [← hbs] at HO
        have HNX := Lib.hid (show putB n 2 ++ (L.take (j + 1)).flatMap oneK = bs ++ oneK ⟨(kAt L j).tag, (kAt L j).a, (kAt L j).b, (kAt L j).n, (kAt L j).s⟩ by rw [HNX.out, hbs, List.append_assoc])
        clear hbs hone
        generalize (kAt L j).tag = ct at *
        generalize (kAt L j).a = ca at *
        generalize (kAt L j).b = cb at *
        generalize (kAt L j).n = cn at *
        generalize (kAt L j).s = cs at *
        have HNE := Lib.hid (own_not_new HO.out)
        obtain ⟨ua, hua⟩ : ∃ u, u = u64N ca := ⟨_, rfl⟩
        obtain ⟨ub, hub⟩ : ∃ u, u = u64N cb := ⟨_, rfl⟩
        obtain ⟨un, hun⟩ : ∃ u, u = u64N cn := ⟨_, rfl⟩
        have wa : IntKind.u64.wrap ca = (ua : Int) := by rw [hua]; exact u64N_wrap ca
        have wb : IntKind.u64.wrap cb = (ub : Int) := by rw [hub]; exact u64N_wrap cb
        have wn : IntKind.u64.wrap cn = (un : Int) := by rw [hun]; exact u64N_wrap cn
        have la : ua < 18446744073709551616 := by rw [hua]; exact u64N_lt _
        have lb : ub < 18446744073709551616 := by rw [hub]; exact u64N_lt _
        have ln : un < 18446744073709551616 := by rw [hun]; exact u64N_lt _
        have HUA := Lib.hid hua
        have HUB := Lib.hid hub
        have HUN := Lib.hid hun
        have HLA := Lib.hid la
        have HLB := Lib.hid lb
        have HLN := Lib.hid ln
        clear hua hub hun la lb ln
        rcases htg with rfl | rfl | rfl | rfl | rfl | rfl | rfl | rfl | rfl
        · go_wp2_with fail
          go_roundg (n - (j + 1))
          case measure => omega
          case rel => exact ⟨j + 1, by omega, rfl, by go_num, m, Lib.hid (by rw [HNX.out]; have h := HO.out.alloc (.cells #[.int .i64 0, .int .i64 ca, .int .i64 cb, .int .i64 cn, .string ⟨cs.toArray⟩] 42); simpa [oneK] using h), Lib.hid (HB.out.alloc HB.out.size _)⟩
        · have HK0 := Lib.hid ((KBox.new wr 1 ca cb cn cs 42).below (below_1 _ (.cells #[.int .u8 1] 5)))
          go_wp2_with (at_builtin; first
            | (refine wpList_app_lit2 oneN rfl _ _ rfl w.heap.size _ _ _ rfl (HO.out.alloc _) _ 1 _ _ rfl (by simp) rfl rfl (by omega) (by unfold maxLen; omega) (Nat.le_trans HB.out.size (by simp)) ?_; intro v5 w5 hown5 hg5 hb5; obtain ⟨a5, c5, rfl, hs5, hc5⟩ := Sl.ofOwn (xs := bs ++ [1]) (by rw [List.map_append]; exact hown5); obtain ⟨k0, k1, k2, k3, k4⟩ := HK0.out.grown hg5 HNE.out; have HS5 := Lib.hid hs5; have HB5 := Lib.hid ((HB.out.alloc HB.out.size (.cells #[.int .i64 1, .int .i64 ca, .int .i64 cb, .int .i64 cn, .string ⟨cs.toArray⟩] 42)).trans hb5); clear hown5 hg5 hb5 hs5))
          have ld4 := fun w' (h : Below w5.heap.size w5 w') => cellS_below h k4
          have hSw : Below w5.heap.size w5 w5.drew := (Below.refl _ _).drew
          clear k0 k1 k2 k3 k4
          refine wp_region_lex (Below w5.heap.size w5) [(0, true), (1, true), (2, true), (3, true), (4, true), (6, true), (7, true), (5, false), (8, false), (9, true)] (by kernel_rfl) (by kernel_rfl) (fun c a d v w h => by cases d <;> exact h) ?_
          iterate 7
            refine lex_step (fun K hK => ?_)
            simp only [lexOp, List.getElem?_toArray, List.getElem?_cons_succ, List.getElem?_cons_zero]
            rw [if_pos (by rfl)]
            apply Exists.intro
            refine ⟨fun w' hS' => ?_, hSw, ?_⟩
            · first | (go_simp <;> with_reducible rfl) | (go_simp; go_bits; with_reducible rfl)
            go_simp
            try go_bits
            refine hK _ _ ?_
            clear hK K
          refine lex_step (fun K hK => ?_)
          simp only [lexOp, List.getElem?_toArray, List.getElem?_cons_succ, List.getElem?_cons_zero]
          rw [if_pos (by rfl)]
          go_step
          refine (Put_any _ a5 (m + 1) c5 (bs ++ [1]) cs.length 2 (HS5.out.below (Below.refl _ _).drew) (by omega) hc5 (by omega) (by decide) (by decide)).mono ?_
          rintro e w6 ⟨v6, m6, rfl, ho6, hb6⟩
          replace hSw : Below w5.heap.size w5 w6 := hSw.trans (hb6.mono (by simp))
          obtain ⟨a6, c6, rfl, hs6, hc6⟩ := Sl.ofOwn ho6
          have hm6 : m6 = m + 1 + 2 := by have h1 := hs6.1; have h2 := HS5.out.1; rw [List.length_append, putB_length, h2] at h1; exact h1.symm
          subst hm6
          have HO6 := Lib.hid ho6
          clear ho6 hb6 hs6
          go_simp
          refine hK _ _ ?_
          clear hK K
          refine lex_step (fun K hK => ?_)
          simp only [lexOp, List.getElem?_toArray, List.getElem?_cons_succ, List.getElem?_cons_zero]
          rw [if_pos (by rfl)]
          change Oper.wp _ _ _ _ _ _
          refine wp_appK oneN (ops := #[]) rfl _ _ _ rfl w5.heap.size _ (m + 1 + 2) _ rfl HO6.out _ cs.length (cs.map encB) rfl (strSrcK _ cs) (by omega) (by unfold maxLen; omega) hSw.size ?_
          intro v7 w7 hown7 _ hb7
          rw [← List.map_append] at hown7
          replace hSw : Below w5.heap.size w5 w7 := hSw.trans hb7
          have HO7 := Lib.hid (own_mono hown7 HB5.out.size)
          have HB7 := Lib.hid (HB5.out.trans (hSw.mono HB5.out.size))
          clear hown7 hb7
          go_simp
          refine hK _ _ ?_
          clear hK K
          iterate 1
            refine lex_step (fun K hK => ?_)
            simp only [lexOp, List.getElem?_toArray, List.getElem?_cons_succ, List.getElem?_cons_zero]
            rw [if_pos (by rfl)]
            apply Exists.intro
            refine ⟨fun w' hS' => ?_, hSw, ?_⟩
            · first | (go_simp <;> with_reducible rfl) | (go_simp; go_bits; with_reducible rfl)
            go_simp
            try go_bits
            refine hK _ _ ?_
            clear hK K
          refine lex_nil ?_
          clear ld4 hSw
          go_wp2_with fail
          go_roundg (n - (j + 1))
          case measure => omega
          case rel => exact ⟨j + 1, by omega, rfl, by go_num, m + 1 + 2 + cs.length, Lib.hid (by rw [HNX.out]; have h := HO7.out; skip; simpa [oneK, List.append_assoc, HUA.out, HUB.out, HUN.out] using h), HB7⟩
        · have HK0 := Lib.hid ((KBox.new wr 3 ca cb cn cs 42).below (below_1 _ (.cells #[.int .u8 3] 5)))
          go_wp2_with (at_builtin; first
            | (refine wpList_app_lit2 oneN rfl _ _ rfl w.heap.size _ _ _ rfl (HO.out.alloc _) _ 1 _ _ rfl (by simp) rfl rfl (by omega) (by unfold maxLen; omega) (Nat.le_trans HB.out.size (by simp)) ?_; intro v5 w5 hown5 hg5 hb5; obtain ⟨a5, c5, rfl, hs5, hc5⟩ := Sl.ofOwn (xs := bs ++ [3]) (by rw [List.map_append]; exact hown5); obtain ⟨k0, k1, k2, k3, k4⟩ := HK0.out.grown hg5 HNE.out; have HS5 := Lib.hid hs5; have HB5 := Lib.hid ((HB.out.alloc HB.out.size (.cells #[.int .i64 3, .int .i64 ca, .int .i64 cb, .int .i64 cn, .string ⟨cs.toArray⟩] 42)).trans hb5); clear hown5 hg5 hb5 hs5))
          refine (Put_any _ a5 (m + 1) c5 (bs ++ [3]) un 4 HS5.out (by omega) hc5 HLN.out (by decide) (by decide)).mono ?_
          rintro e w6 ⟨v6, m6, rfl, ho6, hb6⟩
          have HB6 := Lib.hid (HB5.out.trans (hb6.mono HB5.out.size))
          have HO6 := Lib.hid (own_mono ho6 HB5.out.size)
          clear ho6 hb6 k0 k1 k2 k3 k4
          go_wp2_with fail
          go_roundg (n - (j + 1))
          case measure => omega
          case rel => exact ⟨j + 1, by omega, rfl, by go_num, m6, Lib.hid (by rw [HNX.out]; have h := HO6.out; skip; simpa [oneK, List.append_assoc, HUA.out, HUB.out, HUN.out] using h), HB6⟩
        · have HK0 := Lib.hid ((KBox.new wr 5 ca cb cn cs 42).below (below_1 _ (.cells #[.int .u8 5] 5)))
          go_wp2_with (at_builtin; first
            | (refine wpList_app_lit2 oneN rfl _ _ rfl w.heap.size _ _ _ rfl (HO.out.alloc _) _ 1 _ _ rfl (by simp) rfl rfl (by omega) (by unfold maxLen; omega) (Nat.le_trans HB.out.size (by simp)) ?_; intro v5 w5 hown5 hg5 hb5; obtain ⟨a5, c5, rfl, hs5, hc5⟩ := Sl.ofOwn (xs := bs ++ [5]) (by rw [List.map_append]; exact hown5); obtain ⟨k0, k1, k2, k3, k4⟩ := HK0.out.grown hg5 HNE.out; have HS5 := Lib.hid hs5; have HB5 := Lib.hid ((HB.out.alloc HB.out.size (.cells #[.int .i64 5, .int .i64 ca, .int .i64 cb, .int .i64 cn, .string ⟨cs.toArray⟩] 42)).trans hb5); clear hown5 hg5 hb5 hs5))
          refine (Put_any _ a5 (m + 1) c5 (bs ++ [5]) un 8 HS5.out (by omega) hc5 HLN.out (by decide) (by decide)).mono ?_
          rintro e w6 ⟨v6, m6, rfl, ho6, hb6⟩
          have HB6 := Lib.hid (HB5.out.trans (hb6.mono HB5.out.size))
          have HO6 := Lib.hid (own_mono ho6 HB5.out.size)
          clear ho6 hb6 k0 k1 k2 k3 k4
          go_wp2_with fail
          go_roundg (n - (j + 1))
          case measure => omega
          case rel => exact ⟨j + 1, by omega, rfl, by go_num, m6, Lib.hid (by rw [HNX.out]; have h := HO6.out; skip; simpa [oneK, List.append_assoc, HUA.out, HUB.out, HUN.out] using h), HB6⟩
        · have HK0 := Lib.hid ((KBox.new wr 7 ca cb cn cs 42).below (below_1 _ (.cells #[.int .u8 7] 5)))
          go_wp2_with (at_builtin; first
            | (refine wpList_app_lit2 oneN rfl _ _ rfl w.heap.size _ _ _ rfl (HO.out.alloc _) _ 1 _ _ rfl (by simp) rfl rfl (by omega) (by unfold maxLen; omega) (Nat.le_trans HB.out.size (by simp)) ?_; intro v5 w5 hown5 hg5 hb5; obtain ⟨a5, c5, rfl, hs5, hc5⟩ := Sl.ofOwn (xs := bs ++ [7]) (by rw [List.map_append]; exact hown5); obtain ⟨k0, k1, k2, k3, k4⟩ := HK0.out.grown hg5 HNE.out; have HS5 := Lib.hid hs5; have HB5 := Lib.hid ((HB.out.alloc HB.out.size (.cells #[.int .i64 7, .int .i64 ca, .int .i64 cb, .int .i64 cn, .string ⟨cs.toArray⟩] 42)).trans hb5); clear hown5 hg5 hb5 hs5))
          refine (Put_any _ a5 (m + 1) c5 (bs ++ [7]) ua 2 HS5.out (by omega) hc5 HLA.out (by decide) (by decide)).mono ?_
          rintro e w6 ⟨v6, m6, rfl, ho6, hb6⟩
          have HB6 := Lib.hid (HB5.out.trans (hb6.mono HB5.out.size))
          have HO6 := Lib.hid (own_mono ho6 HB5.out.size)
          clear ho6 hb6 k0 k1 k2 k3 k4
          go_wp2_with fail
          go_roundg (n - (j + 1))
          case measure => omega
          case rel => exact ⟨j + 1, by omega, rfl, by go_num, m6, Lib.hid (by rw [HNX.out]; have h := HO6.out; skip; simpa [oneK, List.append_assoc, HUA.out, HUB.out, HUN.out] using h), HB6⟩
        · have HK0 := Lib.hid ((KBox.new wr 8 ca cb cn cs 42).below (below_1 _ (.cells #[.int .u8 8] 5)))
          go_wp2_with (at_builtin; first
            | (refine wpList_app_lit2 oneN rfl _ _ rfl w.heap.size _ _ _ rfl (HO.out.alloc _) _ 1 _ _ rfl (by simp) rfl rfl (by omega) (by unfold maxLen; omega) (Nat.le_trans HB.out.size (by simp)) ?_; intro v5 w5 hown5 hg5 hb5; obtain ⟨a5, c5, rfl, hs5, hc5⟩ := Sl.ofOwn (xs := bs ++ [8]) (by rw [List.map_append]; exact hown5); obtain ⟨k0, k1, k2, k3, k4⟩ := HK0.out.grown hg5 HNE.out; have HS5 := Lib.hid hs5; have HB5 := Lib.hid ((HB.out.alloc HB.out.size (.cells #[.int .i64 8, .int .i64 ca, .int .i64 cb, .int .i64 cn, .string ⟨cs.toArray⟩] 42)).trans hb5); clear hown5 hg5 hb5 hs5))
          refine (Put_any _ a5 (m + 1) c5 (bs ++ [8]) ua 2 HS5.out (by omega) hc5 HLA.out (by decide) (by decide)).mono ?_
          rintro e w6 ⟨v6, m6, rfl, ho6, hb6⟩
          have HB6 := Lib.hid (HB5.out.trans (hb6.mono HB5.out.size))
          have HO6 := Lib.hid (own_mono ho6 HB5.out.size)
          clear ho6 hb6 k0 k1 k2 k3 k4
          go_wp2_with fail
          go_roundg (n - (j + 1))
          case measure => omega
          case rel => exact ⟨j + 1, by omega, rfl, by go_num, m6, Lib.hid (by rw [HNX.out]; have h := HO6.out; skip; simpa [oneK, List.append_assoc, HUA.out, HUB.out, HUN.out] using h), HB6⟩
        · have HK0 := Lib.hid ((KBox.new wr 9 ca cb cn cs 42).below (below_1 _ (.cells #[.int .u8 9] 5)))
          go_wp2_with (at_builtin; first
            | (refine wpList_app_lit2 oneN rfl _ _ rfl w.heap.size _ _ _ rfl (HO.out.alloc _) _ 1 _ _ rfl (by simp) rfl rfl (by omega) (by unfold maxLen; omega) (Nat.le_trans HB.out.size (by simp)) ?_; intro v5 w5 hown5 hg5 hb5; obtain ⟨a5, c5, rfl, hs5, hc5⟩ := Sl.ofOwn (xs := bs ++ [9]) (by rw [List.map_append]; exact hown5); obtain ⟨k0, k1, k2, k3, k4⟩ := HK0.out.grown hg5 HNE.out; have HS5 := Lib.hid hs5; have HB5 := Lib.hid ((HB.out.alloc HB.out.size (.cells #[.int .i64 9, .int .i64 ca, .int .i64 cb, .int .i64 cn, .string ⟨cs.toArray⟩] 42)).trans hb5); clear hown5 hg5 hb5 hs5))
          have ld1 := fun w' (h : Below w5.heap.size w5 w') => cellS_below h k1
          have ld2 := fun w' (h : Below w5.heap.size w5 w') => cellS_below h k2
          have hSw : Below w5.heap.size w5 w5.drew := (Below.refl _ _).drew
          clear k0 k1 k2 k3 k4
          refine wp_region_lex (Below w5.heap.size w5) [(0, true), (1, true), (2, true), (3, true), (5, true), (6, true), (7, true), (4, false), (8, false), (9, true)] (by kernel_rfl) (by kernel_rfl) (fun c a d v w h => by cases d <;> exact h) ?_
          iterate 7
            refine lex_step (fun K hK => ?_)
            simp only [lexOp, List.getElem?_toArray, List.getElem?_cons_succ, List.getElem?_cons_zero]
            rw [if_pos (by rfl)]
            apply Exists.intro
            refine ⟨fun w' hS' => ?_, hSw, ?_⟩
            · first | (go_simp <;> with_reducible rfl) | (go_simp; go_bits; with_reducible rfl)
            go_simp
            try go_bits
            refine hK _ _ ?_
            clear hK K
          refine lex_step (fun K hK => ?_)
          simp only [lexOp, List.getElem?_toArray, List.getElem?_cons_succ, List.getElem?_cons_zero]
          rw [if_pos (by rfl)]
          go_step
          refine (Put_any _ a5 (m + 1) c5 (bs ++ [9]) ua 2 (HS5.out.below (Below.refl _ _).drew) (by omega) hc5 HLA.out (by decide) (by decide)).mono ?_
          rintro e w6 ⟨v6, m6, rfl, ho6, hb6⟩
          replace hSw : Below w5.heap.size w5 w6 := hSw.trans (hb6.mono (by simp))
          obtain ⟨a6, c6, rfl, hs6, hc6⟩ := Sl.ofOwn ho6
          have hm6 : m6 = m + 1 + 2 := by have h1 := hs6.1; have h2 := HS5.out.1; rw [List.length_append, putB_length, h2] at h1; exact h1.symm
          subst hm6
          have HS6 := Lib.hid hs6
          clear ho6 hb6 hs6
          go_simp
          refine hK _ _ ?_
          clear hK K
          refine lex_step (fun K hK => ?_)
          simp only [lexOp, List.getElem?_toArray, List.getElem?_cons_succ, List.getElem?_cons_zero]
          rw [if_pos (by rfl)]
          go_step
          refine (Put_any _ a6 (m + 1 + 2) c6 _ ub 2 HS6.out (by omega) hc6 HLB.out (by decide) (by decide)).mono ?_
          rintro e w7 ⟨v7, m7, rfl, ho7, hb7⟩
          have HO7 := Lib.hid (own_mono ho7 (Nat.le_trans HB5.out.size hSw.size))
          replace hSw : Below w5.heap.size w5 w7 := hSw.trans (hb7.mono hSw.size)
          have HB7 := Lib.hid (HB5.out.trans (hSw.mono HB5.out.size))
          clear ho7 hb7
          go_simp
          refine hK _ _ ?_
          clear hK K
          iterate 1
            refine lex_step (fun K hK => ?_)
            simp only [lexOp, List.getElem?_toArray, List.getElem?_cons_succ, List.getElem?_cons_zero]
            rw [if_pos (by rfl)]
            apply Exists.intro
            refine ⟨fun w' hS' => ?_, hSw, ?_⟩
            · first | (go_simp <;> with_reducible rfl) | (go_simp; go_bits; with_reducible rfl)
            go_simp
            try go_bits
            refine hK _ _ ?_
            clear hK K
          refine lex_nil ?_
          clear ld1 ld2 hSw
          go_wp2_with fail
          go_roundg (n - (j + 1))
          case measure => omega
          case rel => exact ⟨j + 1, by omega, rfl, by go_num, m7, Lib.hid (by rw [HNX.out]; have h := HO7.out; skip; simpa [oneK, List.append_assoc, HUA.out, HUB.out, HUN.out] using h), HB7⟩
        · have HK0 := Lib.hid ((KBox.new wr 10 ca cb cn cs 42).below (below_1 _ (.cells #[.int .u8 10] 5)))
          go_wp2_with (at_builtin; first
            | (refine wpList_app_lit2 oneN rfl _ _ rfl w.heap.size _ _ _ rfl (HO.out.alloc _) _ 1 _ _ rfl (by simp) rfl rfl (by omega) (by unfold maxLen; omega) (Nat.le_trans HB.out.size (by simp)) ?_; intro v5 w5 hown5 hg5 hb5; obtain ⟨a5, c5, rfl, hs5, hc5⟩ := Sl.ofOwn (xs := bs ++ [10]) (by rw [List.map_append]; exact hown5); obtain ⟨k0, k1, k2, k3, k4⟩ := HK0.out.grown hg5 HNE.out; have HS5 := Lib.hid hs5; have HB5 := Lib.hid ((HB.out.alloc HB.out.size (.cells #[.int .i64 10, .int .i64 ca, .int .i64 cb, .int .i64 cn, .string ⟨cs.toArray⟩] 42)).trans hb5); clear hown5 hg5 hb5 hs5))
          have ld1 := fun w' (h : Below w5.heap.size w5 w') => cellS_below h k1
          have ld2 := fun w' (h : Below w5.heap.size w5 w') => cellS_below h k2
          have hSw : Below w5.heap.size w5 w5.drew := (Below.refl _ _).drew
          clear k0 k1 k2 k3 k4
          refine wp_region_lex (Below w5.heap.size w5) [(0, true), (1, true), (2, true), (3, true), (5, true), (6, true), (7, true), (4, false), (8, false), (9, true)] (by kernel_rfl) (by kernel_rfl) (fun c a d v w h => by cases d <;> exact h) ?_
          iterate 7
            refine lex_step (fun K hK => ?_)
            simp only [lexOp, List.getElem?_toArray, List.getElem?_cons_succ, List.getElem?_cons_zero]
            rw [if_pos (by rfl)]
            apply Exists.intro
            refine ⟨fun w' hS' => ?_, hSw, ?_⟩
            · first | (go_simp <;> with_reducible rfl) | (go_simp; go_bits; with_reducible rfl)
            go_simp
            try go_bits
            refine hK _ _ ?_
            clear hK K
          refine lex_step (fun K hK => ?_)
          simp only [lexOp, List.getElem?_toArray, List.getElem?_cons_succ, List.getElem?_cons_zero]
          rw [if_pos (by rfl)]
          go_step
          refine (Put_any _ a5 (m + 1) c5 (bs ++ [10]) ua 2 (HS5.out.below (Below.refl _ _).drew) (by omega) hc5 HLA.out (by decide) (by decide)).mono ?_
          rintro e w6 ⟨v6, m6, rfl, ho6, hb6⟩
          replace hSw : Below w5.heap.size w5 w6 := hSw.trans (hb6.mono (by simp))
          obtain ⟨a6, c6, rfl, hs6, hc6⟩ := Sl.ofOwn ho6
          have hm6 : m6 = m + 1 + 2 := by have h1 := hs6.1; have h2 := HS5.out.1; rw [List.length_append, putB_length, h2] at h1; exact h1.symm
          subst hm6
          have HS6 := Lib.hid hs6
          clear ho6 hb6 hs6
          go_simp
          refine hK _ _ ?_
          clear hK K
          refine lex_step (fun K hK => ?_)
          simp only [lexOp, List.getElem?_toArray, List.getElem?_cons_succ, List.getElem?_cons_zero]
          rw [if_pos (by rfl)]
          go_step
          refine (Put_any _ a6 (m + 1 + 2) c6 _ ub 2 HS6.out (by omega) hc6 HLB.out (by decide) (by decide)).mono ?_
          rintro e w7 ⟨v7, m7, rfl, ho7, hb7⟩
          have HO7 := Lib.hid (own_mono ho7 (Nat.le_trans HB5.out.size hSw.size))
          replace hSw : Below w5.heap.size w5 w7 := hSw.trans (hb7.mono hSw.size)
          have HB7 := Lib.hid (HB5.out.trans (hSw.mono HB5.out.size))
          clear ho7 hb7
          go_simp
          refine hK _ _ ?_
          clear hK K
          iterate 1
            refine lex_step (fun K hK => ?_)
            simp only [lexOp, List.getElem?_toArray, List.getElem?_cons_succ, List.getElem?_cons_zero]
            rw [if_pos (by rfl)]
            apply Exists.intro
            refine ⟨fun w' hS' => ?_, hSw, ?_⟩
            · first | (go_simp <;> with_reducible rfl) | (go_simp; go_bits; with_reducible rfl)
            go_simp
            try go_bits
            refine hK _ _ ?_
            clear hK K
          refine lex_nil ?_
          clear ld1 ld2 hSw
          go_wp2_with fail
          go_roundg (n - (j + 1))
          case measure => omega
          case rel => exact ⟨j + 1, by omega, rfl, by go_num, m7, Lib.hid (by rw [HNX.out]; have h := HO7.out; skip; simpa [oneK, List.append_assoc, HUA.out, HUB.out, HUN.out] using h), HB7⟩
        · have HK0 := Lib.hid ((KBox.new wr 12 ca cb cn cs 42).below (below_1 _ (.cells #[.int .u8 12] 5)))
          go_wp2_with (at_builtin; first
            | (refine wpList_app_lit2 oneN rfl _ _ rfl w.heap.size _ _ _ rfl (HO.out.alloc _) _ 1 _ _ rfl (by simp) rfl rfl (by omega) (by unfold maxLen; omega) (Nat.le_trans HB.out.size (by simp)) ?_; intro v5 w5 hown5 hg5 hb5; obtain ⟨a5, c5, rfl, hs5, hc5⟩ := Sl.ofOwn (xs := bs ++ [12]) (by rw [List.map_append]; exact hown5); obtain ⟨k0, k1, k2, k3, k4⟩ := HK0.out.grown hg5 HNE.out; have HS5 := Lib.hid hs5; have HB5 := Lib.hid ((HB.out.alloc HB.out.size (.cells #[.int .i64 12, .int .i64 ca, .int .i64 cb, .int .i64 cn, .string ⟨cs.toArray⟩] 42)).trans hb5); clear hown5 hg5 hb5 hs5))
          have ld1 := fun w' (h : Below w5.heap.size w5 w') => cellS_below h k1
          have ld2 := fun w' (h : Below w5.heap.size w5 w') => cellS_below h k2
          have hSw : Below w5.heap.size w5 w5.drew := (Below.refl _ _).drew
          clear k0 k1 k2 k3 k4
          refine wp_region_lex (Below w5.heap.size w5) [(0, true), (1, true), (2, true), (3, true), (5, true), (6, true), (7, true), (4, false), (8, false), (9, true)] (by kernel_rfl) (by kernel_rfl) (fun c a d v w h => by cases d <;> exact h) ?_
          iterate 7
            refine lex_step (fun K hK => ?_)
            simp only [lexOp, List.getElem?_toArray, List.getElem?_cons_succ, List.getElem?_cons_zero]
            rw [if_pos (by rfl)]
            apply Exists.intro
            refine ⟨fun w' hS' => ?_, hSw, ?_⟩
            · first | (go_simp <;> with_reducible rfl) | (go_simp; go_bits; with_reducible rfl)
            go_simp
            try go_bits
            refine hK _ _ ?_
            clear hK K
          refine lex_step (fun K hK => ?_)
          simp only [lexOp, List.getElem?_toArray, List.getElem?_cons_succ, List.getElem?_cons_zero]
          rw [if_pos (by rfl)]
          go_step
          refine (Put_any _ a5 (m + 1) c5 (bs ++ [12]) ua 2 (HS5.out.below (Below.refl _ _).drew) (by omega) hc5 HLA.out (by decide) (by decide)).mono ?_
          rintro e w6 ⟨v6, m6, rfl, ho6, hb6⟩
          replace hSw : Below w5.heap.size w5 w6 := hSw.trans (hb6.mono (by simp))
          obtain ⟨a6, c6, rfl, hs6, hc6⟩ := Sl.ofOwn ho6
          have hm6 : m6 = m + 1 + 2 := by have h1 := hs6.1; have h2 := HS5.out.1; rw [List.length_append, putB_length, h2] at h1; exact h1.symm
          subst hm6
          have HS6 := Lib.hid hs6
          clear ho6 hb6 hs6
          go_simp
          refine hK _ _ ?_
          clear hK K
          refine lex_step (fun K hK => ?_)
          simp only [lexOp, List.getElem?_toArray, List.getElem?_cons_succ, List.getElem?_cons_zero]
          rw [if_pos (by rfl)]
          go_step
          refine (Put_any _ a6 (m + 1 + 2) c6 _ ub 2 HS6.out (by omega) hc6 HLB.out (by decide) (by decide)).mono ?_
          rintro e w7 ⟨v7, m7, rfl, ho7, hb7⟩
          have HO7 := Lib.hid (own_mono ho7 (Nat.le_trans HB5.out.size hSw.size))
          replace hSw : Below w5.heap.size w5 w7 := hSw.trans (hb7.mono hSw.size)
          have HB7 := Lib.hid (HB5.out.trans (hSw.mono HB5.out.size))
          clear ho7 hb7
          go_simp
          refine hK _ _ ?_
          clear hK K
          iterate 1
            refine lex_step (fun K hK => ?_)
            simp only [lexOp, List.getElem?_toArray, List.getElem?_cons_succ, List.getElem?_cons_zero]
            rw [if_pos (by rfl)]
            apply Exists.intro
            refine ⟨fun w' hS' => ?_, hSw, ?_⟩
            · first | (go_simp <;> with_reducible rfl) | (go_simp; go_bits; with_reducible rfl)
            go_simp
            try go_bits
            refine hK _ _ ?_
            clear hK K
          refine lex_nil ?_
          clear ld1 ld2 hSw
          go_wp2_with fail
          go_roundg (n - (j + 1))
          case measure => omega
          case rel => exact ⟨j + 1, by omega, rfl, by go_num, m7, Lib.hid (by rw [HNX.out]; have h := HO7.out; skip; simpa [oneK, List.append_assoc, HUA.out, HUB.out, HUN.out] using h), HB7⟩
      · obtain rfl : j = n := by omega
        have HE := Lib.hid HO.out
        rw [List.take_of_length_le (by rw [HLn.out]; exact Nat.le_refl _)] at HE
        go_wp2_with fail
        go_ret2
        exact .inr ⟨HR.out, _, m, rfl, by unfold bytesK; rw [HLn.out]; exact HE.out, HB.out⟩
end Go.Proofs.Ytnfhiakdbakpgaa
/- num: Sign, the program's and the reference's. No condition. -/
namespace Go.Proofs.Ytnfhiakdbakpgaa
open Go.ChangeShapes Go.WideShapes Go.ChangeAt Go.RowKit
def U64 (n : Int) : Prop := 0 ≤ n ∧ n < 18446744073709551616
/-- A number with its sign, of so many bytes. -/
def signB (v n : Int) : Int := if n < 1 ∨ 8 < n then 0 else (v + 2 ^ (8 * n.toNat - 1)) % 2 ^ (8 * n.toNat) - 2 ^ (8 * n.toNat - 1)
theorem signB_odd (v n : Int) (h : n < 1 ∨ 8 < n) : signB v n = 0 := by unfold signB; rw [if_pos h]
theorem signB_4 (v : Int) : signB v 4 = wrap32 v := by unfold wrap32; rfl
theorem signB_8 (v : Int) : signB v 8 = wrap64 v := by unfold wrap64; rfl

set_option maxRecDepth 100000 in
set_option maxHeartbeats 2000000 in
theorem Sign_any (w : World) (v n : Int) (hv : U64 v) (hn : IntR n) : Calls Try.prog 84 #[.int .u64 v, .int .i64 n] w fun e w' => e = .returned (.int .i64 (signB v n)) ∧ w = w' := by
  obtain ⟨v1, v2⟩ := hv
  by_cases c1 : n < 1 ∨ 8 < n
  · rw [signB_odd v n c1]
    have hd : decide (1 ≤ n ∧ n ≤ 8) = false := decide_eq_false (by omega)
    clear c1
    go_enter Try.func84, Try.ntmps84
    go_wp2_with fail
    refine (right_any _ n).mono ?_
    rw [hd]
    rintro e w' ⟨rfl, rfl⟩
    go_wp2
    go_ret
    exact ⟨rfl, rfl⟩
  have hc : n = 1 ∨ n = 2 ∨ n = 3 ∨ n = 4 ∨ n = 5 ∨ n = 6 ∨ n = 7 ∨ n = 8 := by omega
  clear c1 hn
  rcases hc with rfl | rfl | rfl | rfl | rfl | rfl | rfl | rfl
  · rw [show signB v 1 = (v + 128) % 256 - 128 from rfl]
    go_enter Try.func84, Try.ntmps84
    go_wp2_with fail
    refine (right_any _ 1).mono ?_
    rw [show decide ((1 : Int) ≤ 1 ∧ (1 : Int) ≤ 8) = true from rfl]
    rintro e w' ⟨rfl, rfl⟩
    go_wp2
    go_ret
    exact ⟨ret_int (by simp only [IntKind.wrap_u64, wrap64] <;> omega), rfl⟩
  · rw [show signB v 2 = (v + 32768) % 65536 - 32768 from rfl]
    go_enter Try.func84, Try.ntmps84
    go_wp2_with fail
    refine (right_any _ 2).mono ?_
    rw [show decide ((1 : Int) ≤ 2 ∧ (2 : Int) ≤ 8) = true from rfl]
    rintro e w' ⟨rfl, rfl⟩
    go_wp2
    go_ret
    exact ⟨ret_int (by simp only [IntKind.wrap_u64, wrap64] <;> omega), rfl⟩
  · rw [show signB v 3 = (v + 8388608) % 16777216 - 8388608 from rfl]
    go_enter Try.func84, Try.ntmps84
    go_wp2_with fail
    refine (right_any _ 3).mono ?_
    rw [show decide ((1 : Int) ≤ 3 ∧ (3 : Int) ≤ 8) = true from rfl]
    rintro e w' ⟨rfl, rfl⟩
    go_wp2
    go_ret
    exact ⟨ret_int (by simp only [IntKind.wrap_u64, wrap64] <;> omega), rfl⟩
  · rw [show signB v 4 = (v + 2147483648) % 4294967296 - 2147483648 from rfl]
    go_enter Try.func84, Try.ntmps84
    go_wp2_with fail
    refine (right_any _ 4).mono ?_
    rw [show decide ((1 : Int) ≤ 4 ∧ (4 : Int) ≤ 8) = true from rfl]
    rintro e w' ⟨rfl, rfl⟩
    go_wp2
    go_ret
    exact ⟨ret_int (by simp only [IntKind.wrap_u64, wrap64] <;> omega), rfl⟩
  · rw [show signB v 5 = (v + 549755813888) % 1099511627776 - 549755813888 from rfl]
    go_enter Try.func84, Try.ntmps84
    go_wp2_with fail
    refine (right_any _ 5).mono ?_
    rw [show decide ((1 : Int) ≤ 5 ∧ (5 : Int) ≤ 8) = true from rfl]
    rintro e w' ⟨rfl, rfl⟩
    go_wp2
    go_ret
    exact ⟨ret_int (by simp only [IntKind.wrap_u64, wrap64] <;> omega), rfl⟩
  · rw [show signB v 6 = (v + 140737488355328) % 281474976710656 - 140737488355328 from rfl]
    go_enter Try.func84, Try.ntmps84
    go_wp2_with fail
    refine (right_any _ 6).mono ?_
    rw [show decide ((1 : Int) ≤ 6 ∧ (6 : Int) ≤ 8) = true from rfl]
    rintro e w' ⟨rfl, rfl⟩
    go_wp2
    go_ret
    exact ⟨ret_int (by simp only [IntKind.wrap_u64, wrap64] <;> omega), rfl⟩
  · rw [show signB v 7 = (v + 36028797018963968) % 72057594037927936 - 36028797018963968 from rfl]
    go_enter Try.func84, Try.ntmps84
    go_wp2_with fail
    refine (right_any _ 7).mono ?_
    rw [show decide ((1 : Int) ≤ 7 ∧ (7 : Int) ≤ 8) = true from rfl]
    rintro e w' ⟨rfl, rfl⟩
    go_wp2
    go_ret
    exact ⟨ret_int (by simp only [IntKind.wrap_u64, wrap64] <;> omega), rfl⟩
  · rw [show signB v 8 = (v + 9223372036854775808) % 18446744073709551616 - 9223372036854775808 from rfl]
    go_enter Try.func84, Try.ntmps84
    go_wp2_with fail
    refine (right_any _ 8).mono ?_
    rw [show decide ((1 : Int) ≤ 8 ∧ (8 : Int) ≤ 8) = true from rfl]
    rintro e w' ⟨rfl, rfl⟩
    go_wp2
    go_ret
    exact ⟨ret_int (by simp only [IntKind.wrap_u64, wrap64] <;> omega), rfl⟩
end Go.Proofs.Ytnfhiakdbakpgaa
