/- sha: Sum. No condition. -/
import Derived.Test.YtkcpblfdmfkppaaShaHash
namespace Go.Proofs.Ytkcpblfdmfkppaa
open Go.ChangeShapes Go.WideShapes Go.ChangeAt Go.RowKit
/-- append of one more onto a slice that is cut to its length: the row is the call's own. -/
theorem wp_app_cutO {w : World} {o : Oper} {ac : Act} {K : Act → World → Prop} {Q : Exit → Act → World → Prop} (s y : Operand)
    (ho : o.op = .call { callee := .builtin .append, args := #[s, y], argTypes := #[22, 22] })
    {a : Option Addr} {m : Nat} {rs : List UInt8} (hv : ac.eval s = .slice a m m) (hsl : Sl encB w a m rs) {x : Option Addr} {n cx : Nat} {xs : List UInt8} (hy : ac.eval y = .slice x n cx) (hx : Sl encB w x n xs) (hn : 0 < n) (hl : m + n ≤ 2199023255552) (B : Nat) (hB : B ≤ w.heap.size)
    (h : ∀ v w', w'.ownsRow B 5 1 v (m + n) ((rs ++ xs).map encB) → Below B w w' → K (ac.put o.dst v) w') : Oper.wp Try.prog o ac w K Q := by
  have hs := hx.src (P := Try.prog) encB_cell Try.underlying22 cx
  obtain ⟨v', w', hr, h2, h3⟩ := run_append_full oneN (enc := encB) B 22 o.type hsl (.slice x n cx) n (xs.map encB) hs (by omega) (Nat.le_refl _) (by omega) (by unfold maxLen; omega) hB
  rw [← List.map_append] at h2
  unfold Oper.wp execOp
  simp only [ho, resolve, invoke, builtin, Sem.run_bind, Sem.run_pure, Result.andThen_ok, List.map_toArray, List.map_cons, List.map_nil, hv, hy, hr]
  exact h v' w' h2 h3
theorem SBlk.noBytes {w : World} {g : Nat} {v : V8} {e : TypeId} (h : SBlk w g v [] e) {x : Option Addr} {n : Nat} {xs : List UInt8} (hs : Sl encB w x n xs) : 0 < n → ∀ b o, x = some ⟨b, o, none⟩ → b ≠ g := by
  intro hn b o hx hb
  subst hb
  obtain ⟨b', off, hx', hlt, hc⟩ := hs.2 hn
  rw [hx] at hx'
  cases hx'
  have h0 := hc 0 (by rw [hs.1]; exact hn)
  rw [Nat.add_zero, cell_of_row w b o _ _ _ h, List.getElem?_toArray] at h0
  unfold V8.cells encW encB at h0
  rcases Nat.lt_or_ge o 8 with ho | ho
  · rcases lt8 ho with rfl | rfl | rfl | rfl | rfl | rfl | rfl | rfl <;> simp at h0
  · rw [List.getElem?_eq_none (by simp; omega)] at h0
    cases h0
theorem grown_below2 {w w1 w2 : World} {g B : Nat} (hb : Below B w w1) (hg : w1.grownBy w2 (some g)) (h1 : B ≤ w1.heap.size) (h2 : B ≤ g) : Below B w w2 :=
  hb.grown hg h1 (fun k hk => by cases hk; exact h2)
theorem HashA.below {w w' : World} {g : Nat} {a : Option Addr} {c : Nat} {bs : List UInt8} (h : HashA w g a c bs) (hb : Below w.heap.size w w') : HashA w' g a c bs :=
  ⟨SBlk.below h.blk hb, h.sl.below hb, h.cap⟩
/-- The hash as far as it is laid. -/
def OutB (w : World) (go : Nat) (V : V8) (t : Nat) : Prop := w.heap[go]? = some (.cells ((V.bytes.take (4 * t) ++ List.replicate (32 - 4 * t) 0).map encB).toArray 24)
theorem OutB.below {w w' : World} {go : Nat} {V : V8} {t : Nat} (h : OutB w go V t) (hb : Below w.heap.size w w') : OutB w' go V t := by
  unfold OutB at h ⊢
  rw [hb.block go (Array.getElem?_eq_some_iff.1 h).1]
  exact h
theorem bytes_next (V : V8) (t : Nat) (h : t < 8) : V.bytes.take (4 * t) ++ putB (V.get t).toNat 4 = V.bytes.take (4 * (t + 1)) := by
  rcases lt8 h with rfl | rfl | rfl | rfl | rfl | rfl | rfl | rfl <;> rfl
theorem out_next (V : V8) (t : Nat) (h : t < 8) :
    ((V.bytes.take (4 * t) ++ List.replicate (32 - 4 * t) 0).map encB).toArray.toList.take (4 * t) ++ ((putB (V.get t).toNat 4).map encB ++ ((V.bytes.take (4 * t) ++ List.replicate (32 - 4 * t) 0).map encB).toArray.toList.drop (4 * t + ((putB (V.get t).toNat 4).map encB).length))
      = (V.bytes.take (4 * (t + 1)) ++ List.replicate (32 - 4 * (t + 1)) 0).map encB := by
  have hl : (V.bytes.take (4 * t)).length = 4 * t := by rw [List.length_take, V8.bytes_length]; omega
  have e1 : (V.bytes.take (4 * t) ++ List.replicate (32 - 4 * t) (0 : UInt8)).take (4 * t) = V.bytes.take (4 * t) := by
    rw [List.take_append_of_le_length (by omega), List.take_of_length_le (by omega)]
  have e2 : (V.bytes.take (4 * t) ++ List.replicate (32 - 4 * t) (0 : UInt8)).drop (4 * t + 4) = List.replicate (32 - 4 * (t + 1)) 0 := by
    rw [List.drop_append, List.drop_of_length_le (by omega), hl, List.nil_append, List.drop_replicate]
    congr 1
    omega
  simp only [List.length_map, putB_length]
  rw [← List.map_take, ← List.map_drop, ← List.map_append, ← List.map_append, e1, e2, ← List.append_assoc, bytes_next V t h]
theorem idx_w8 (w : World) (V : V8) (k : Nat) (h : k < 8) : (Instr.index 45 (.agg #[.int .u32 (E V.a), .int .u32 (E V.b), .int .u32 (E V.c), .int .u32 (E V.d), .int .u32 (E V.e), .int .u32 (E V.f), .int .u32 (E V.g), .int .u32 (E V.h)]) (.int .i64 k)).run Try.prog w = .ok (.int .u32 (E (V.get k))) w := by
  have hu := Try.underlying45
  have hk2 : ((k : Nat) : Int) < 8 := by omega
  rcases lt8 h with rfl | rfl | rfl | rfl | rfl | rfl | rfl | rfl <;> simp [go_sem, Instr.index, hu, V8.get]
theorem info_out : (Try.prog.info? 24).map (·.size) = some 32 := by kernel_rfl
/-- The Hash that is asked. -/
def SumFrom (W : World) (bs : List UInt8) (p : Value) (wx : World) : Prop := ∃ g a c, p = .pointer (some ⟨g, 0, none⟩) ∧ Hid (HashA wx g a c bs) ∧ Hid (Below W.heap.size W wx)
set_option maxHeartbeats 4000000 in
set_option maxRecDepth 100000 in
theorem Sum_any (w : World) (p : Option Addr) (bs : List UInt8) (hp : (p = none ∧ bs = []) ∨ ∃ g a c, p = some ⟨g, 0, none⟩ ∧ HashA w g a c bs) (hl : bs.length ≤ 1099511627776) :
    Calls Try.prog 11 #[.pointer p] w fun e w' => e = .returned (.agg ((hashB bs).map encB).toArray) ∧ Below w.heap.size w w' := by
  have HP := Lib.hid hp
  clear hp
  go_enter Try.func11, Try.ntmps11
  have HZ := Lib.hid (show ZB (w.alloc (.cells (List.replicate 32 (Value.int .u8 0)).toArray 24)) w.heap.size 32 24 from ⟨_, rfl, heap_alloc_last w _⟩)
  have HB := Lib.hid (show Below w.heap.size w (w.alloc (.cells (List.replicate 32 (Value.int .u8 0)).toArray 24)) from (Below.refl _ _).alloc (Nat.le_refl _) _)
  go_upto_region 1 with fail
  change Code.wp _ _ _ _ (w.alloc (.cells (List.replicate 32 (Value.int .u8 0)).toArray 24))
  generalize w.alloc (.cells (List.replicate 32 (Value.int .u8 0)).toArray 24) = W at *
  have HP2 : Hid (p = none ∧ bs = [] ∨ ∃ g a c, p = some ⟨g, 0, none⟩ ∧ HashA W g a c bs) := HP.out.imp id (fun ⟨g, a, c, h1, h2⟩ => ⟨g, a, c, h1, h2.below HB.out⟩)
  obtain ⟨B, hB⟩ : ∃ B, w.heap.size = B := ⟨_, rfl⟩
  rw [hB] at HZ HB ⊢
  have HBE := Lib.hid hB
  clear hB HP
  go_upto_if 9 with fail
  go_cut [0] (fun s wx => SumFrom W bs s wx)
  case first =>
    rcases HP2.out with ⟨rfl, rfl⟩ | ⟨g, a, c, rfl, hh⟩
    · go_wp2_with fail
      refine (New_any W).mono ?_
      rintro e w1 ⟨rfl, hh, hb⟩
      go_wp2_with fail
      go_meet
      exact ⟨_, _, _, rfl, Lib.hid hh, Lib.hid hb⟩
    · go_wp2_with fail
      go_meet
      exact ⟨_, _, _, rfl, Lib.hid hh, Lib.hid (Below.refl _ _)⟩
  case rest =>
    obtain ⟨g, a, c, rfl, HH, HBc⟩ := hcut
    clear HP2
    obtain ⟨L, hL⟩ : ∃ L, L = bs.length := ⟨_, rfl⟩
    obtain ⟨m, hm⟩ : ∃ m, m = L % 64 := ⟨_, rfl⟩
    have hm2 : m < 64 := by omega
    obtain ⟨v, hv⟩ : ∃ v, v = blkV startV bs (bs.length / 64) := ⟨_, rfl⟩
    obtain ⟨rs, hrs⟩ : ∃ rs, rs = bs.drop (64 * (bs.length / 64)) := ⟨_, rfl⟩
    have hb := HH.out.blk
    have hsl := HH.out.sl
    have hc := HH.out.cap
    rw [← hv, ← hL, ← hm] at hb
    rw [← hrs, ← hL, ← hm] at hsl
    rw [← hL, ← hm] at hc
    rw [← hL] at hl
    have HBK := Lib.hid (show HBlk wc.drew g v (.slice a m c) L from hb)
    have HSL := Lib.hid (hsl.below (Below.refl _ _).drew)
    have HFR := Lib.hid (show Below B w wc.drew from (HB.out.trans (HBc.out.mono (HBE.out ▸ HB.out.size))).drew)
    replace HZ := Lib.hid (show ZB wc.drew B 32 24 from (show ZB wc B 32 24 from HZ.out.below HBc.out))
    have HL := Lib.hid hL
    have HM := Lib.hid hm
    have HV := Lib.hid hv
    have HRS := Lib.hid hrs
    clear hL hm hv hrs hb hsl HB HBc HH
    go_upto_region 3 with fail
    have l8 := fun y (h : HS8 g (.slice a m c) y) => (show y.cell? ⟨g, 8, none⟩ = some (.slice a m c) from h)
    have hSw : HS8 g (.slice a m c) wc.drew := HBK.out.c8
    have hmc : (m : Int) ≤ c := by omega
    refine wp_region_lexS (HS8 g (.slice a m c)) (.of [(0, true), (1, true), (2, true), (3, true), (4, true), (5, true), (6, true), (7, true), (8, true), (9, true), (10, true), (11, true), (12, true), (13, true), (14, true), (15, false), (16, false)] (.stir [(17, true)])) (by kernel_rfl) (by kernel_rfl) (fun c a d v w h => by cases d <;> exact h) ?_
    generalize wc.drew = w2 at *
    iterate 15
      refine lexS_step (fun K hK => ?_)
      simp only [lexOp, List.getElem?_toArray, List.getElem?_cons_succ, List.getElem?_cons_zero]
      rw [if_pos (by rfl)]
      apply Exists.intro
      refine ⟨fun w' hS' => ?_, hSw, ?_⟩
      · first | (go_simp <;> with_reducible rfl) | (go_simp; go_bits; with_reducible rfl)
      go_simp
      try go_bits
      refine hK _ _ ?_
      clear hK K
    refine lexS_step (fun K hK => ?_)
    simp only [lexOp, List.getElem?_toArray, List.getElem?_cons_succ, List.getElem?_cons_zero]
    rw [if_pos (by rfl)]
    go_step
    have hal : Below w2.heap.size w2 (w2.alloc (.cells #[.int .u8 128] 5)) := (Below.refl _ _).alloc (Nat.le_refl _) _
    have hS128 : Sl encB (w2.alloc (.cells #[.int .u8 128] 5)) (some ⟨w2.heap.size, 0, none⟩) 1 [128] := Sl.lit (heap_alloc_last w2 _) rfl rfl
    have hSr := HSL.out.below hal
    replace hSw : HS8 g (.slice a m c) (w2.alloc (.cells #[.int .u8 128] 5)) := HBlk.c8 (SBlk.below HBK.out hal)
    refine ⟨hSw, hK _ _ ?_⟩
    clear hK K
    refine lexS_step (fun K hK => ?_)
    simp only [lexOp, List.getElem?_toArray, List.getElem?_cons_succ, List.getElem?_cons_zero]
    rw [if_pos (by rfl)]
    change Oper.wp _ _ _ _ _ _
    refine wp_app_cutO _ _ rfl rfl hSr rfl hS128 (by omega) (by omega) w2.heap.size (by simp) ?_
    intro v3 w3 ho3 hb3
    replace hb3 := hal.trans hb3
    replace hSw : HS8 g (.slice a m c) w3 := HBlk.c8 (SBlk.below HBK.out hb3)
    refine ⟨hSw, hK _ _ ?_⟩
    clear hK K hal hS128 hSr
    refine lexS_stir (fun y => y = w3) (fun y hy => hy ▸ hSw) rfl ?_
    iterate 1
      refine stir_step (fun K hK => ?_)
      simp only [stirOp, List.getElem?_toArray, List.getElem?_cons_succ, List.getElem?_cons_zero]
      rw [if_pos (by rfl)]
      apply Exists.intro
      refine ⟨fun w' hS' => ?_, ?_⟩
      · first | (go_simp <;> with_reducible rfl) | (go_simp; go_bits; with_reducible rfl)
      go_simp
      try go_bits
      refine hK _ ?_
      clear hK K
    refine stir_nil (fun y hy => ?_)
    obtain rfl : w3 = y := hy.symm
    have HO := Lib.hid ho3
    have HW := Lib.hid hb3
    clear ho3 hb3 hSw l8 hmc
    obtain ⟨z, hz⟩ : ∃ z, z = zerosN m := ⟨_, rfl⟩
    have hz2 : z < 64 := by rw [hz]; unfold zerosN; omega
    have hz3 : (m + 1 + z) % 64 = 56 := by rw [hz]; unfold zerosN; omega
    have hz4 : ∀ k, k < z → (m + 1 + k) % 64 ≠ 56 := by intro k hk; rw [hz] at hk; unfold zerosN at hk; omega
    have HZ3 := Lib.hid hz3
    have HZ4 := Lib.hid hz4
    have HZE := Lib.hid hz
    clear hz hz3 hz4
    go_wp2_with fail
    go_loopg [3] z (fun gn v wr => ∃ k l, k ≤ z ∧ l = m + 1 + k ∧ gn = z - k ∧ Hid (wr.ownsRow w2.heap.size 5 1 v l ((rs ++ [128] ++ List.replicate k 0).map encB)) ∧ Hid (Below w2.heap.size w2 wr))
    case atStart => exact ⟨0, m + 1, by omega, by omega, by omega, by simpa using HO, HW⟩
    case round =>
      clear HO HW
      obtain ⟨k, l, hk, hlk, rfl, HO, HW⟩ := hrel
      obtain ⟨a3, c3, rfl, HS3, hlc⟩ := Sl.ofOwn HO.out
      have hl2 : l ≤ 128 := by omega
      have HLK := Lib.hid hlk
      by_cases hkz : k < z
      · have hne0 : (l : Int) % 64 ≠ 56 := by
          have := HZ4.out k hkz
          omega
        have hne : ((l : Int) % 64 != 56) = true := by simpa using hne0
        clear hne0 hlk
        go_upto_region 5 with fail
        go_wp2_with (at_builtin; refine wpList_app_lit2 oneN rfl _ _ rfl w2.heap.size _ _ _ rfl HO.out #[.int .u8 0] 1 1 _ rfl rfl rfl rfl (by omega) (by unfold maxLen; omega) HW.out.size ?_; intro v1 w1 hown1 hg1 hb1; have HO1 := Lib.hid hown1; have HB1 := Lib.hid (HW.out.trans hb1); clear hown1 hb1 hg1)
        go_roundg (z - (k + 1))
        case measure => omega
        case rel =>
          refine ⟨k + 1, l + 1, by omega, by have := HLK.out; omega, rfl, ?_, HB1⟩
          have h := HO1.out
          rw [show ([Value.int .u8 0] : List Value) = ([0] : List UInt8).map encB from rfl, ← List.map_append, List.append_assoc, show List.replicate k (0 : UInt8) ++ [0] = List.replicate (k + 1) 0 from (List.replicate_succ' ..).symm] at h
          exact Lib.hid h
      · obtain rfl : k = z := by omega
        have hyes0 : (l : Int) % 64 = 56 := by
          have := HZ3.out
          omega
        have hyes : ((l : Int) % 64 != 56) = false := by simpa using hyes0
        clear hyes0 hlk
        have HBK' := Lib.hid (show HBlk wr g v (.slice a m c) L from SBlk.below HBK.out HW.out)
        have c9 := HBK'.out.c9
        obtain ⟨S8, hS8⟩ : ∃ S8, S8 = L * 8 := ⟨_, rfl⟩
        have HPU := Lib.hid (Put_any wr a3 l c3 (rs ++ [128] ++ List.replicate k 0) S8 8 HS3 (by omega) hlc (by omega) (by decide) (by decide))
        have hL8 : (L : Int) * 8 = (S8 : Int) := by omega
        have hL9 : S8 < 18446744073709551616 := by omega
        have HS8E := Lib.hid hS8
        clear hS8
        go_upto_region 6 with fail
        go_wp2_with fail
        refine HPU.out.mono ?_
        rintro e w5 ⟨v5, N, rfl, ho5, hb5⟩
        obtain ⟨a5, cx5, rfl, hs5, hc5⟩ := Sl.ofOwn ho5
        have hE : (rs ++ [128] ++ List.replicate k 0) ++ putB S8 8 = rs ++ padR L m := by
          unfold padR
          rw [← HZE.out, HS8E.out, Nat.mod_eq_of_lt (by omega)]
          simp only [List.append_assoc]
        rw [hE] at hs5
        have hN : N = m + 9 + k := by
          have h1 := hs5.1
          have h2 := HSL.out.1
          rw [List.length_append, padR_length, ← HZE.out, h2] at h1
          omega
        have hN2 : N % 64 = 0 := by have := HZ3.out; omega
        obtain ⟨J, hJ⟩ : ∃ J, N = 64 * J := ⟨N / 64, by omega⟩
        have hJ2 : J ≤ 2 := by omega
        obtain ⟨Ee, hEe⟩ : ∃ E', E' = rs ++ padR L m := ⟨_, rfl⟩
        rw [← hEe] at hs5
        have HEE := Lib.hid hEe
        have HS5 := Lib.hid hs5
        have HEL := Lib.hid hs5.1
        have HB5 := Lib.hid (HW.out.trans (hb5.mono HW.out.size))
        have HBK5 := Lib.hid (show HBlk w5 g v (.slice a m c) L from SBlk.below HBK'.out hb5)
        have HNJ := Lib.hid hJ
        have hN128 : N ≤ 128 := by omega
        clear ho5 hb5 hE hN hN2 hJ hEe hs5 HPU HS3 HW HO HBK' c9 hL8 hL9 HS8E HZ4 HZ3 HZE HLK hyes
        obtain ⟨c0, c1, c2, c3, c4, c5, c6, c7⟩ := (show SBlk _ _ _ _ _ from HBK5.out).box.1
        have hgs := HB5.out.size
        go_upto_region 7 with fail
        go_wp2_with fail
        have hsb : SBlk (w5.alloc (.cells (v.cells ++ []).toArray 45)) w5.heap.size v [] 45 := heap_alloc_last w5 _
        have hal : Below w5.heap.size w5 (w5.alloc (.cells (v.cells ++ []).toArray 45)) := (Below.refl _ _).alloc (Nat.le_refl _) _
        change Code.wp _ _ _ _ (w5.alloc (.cells (v.cells ++ []).toArray 45))
        have HS6 := Lib.hid (HS5.out.below hal)
        have HB6 := Lib.hid (HB5.out.trans (hal.mono hgs))
        have HSB6 := Lib.hid hsb
        clear hal hsb HS5 HB5 HBK5 c0 c1 c2 c3 c4 c5 c6 c7
        generalize w5.alloc (.cells (v.cells ++ []).toArray 45) = w6 at *
        generalize w5.heap.size = gs at *
        go_loopg [3] J (fun gn s wr => ∃ j k a6 c6, k + 64 * j = N ∧ k ≤ c6 ∧ gn = J - j ∧ s = .slice a6 k c6 ∧ Hid (SBlk wr gs (blkV v Ee j) [] 45) ∧ Hid (Sl encB wr a6 k (Ee.drop (64 * j))) ∧ Hid (Below w2.heap.size w2 wr))
        case atStart => exact ⟨0, N, a5, cx5, by omega, hc5, by omega, rfl, HSB6, HS6, HB6⟩
        case round =>
          clear HSB6 HS6 HB6 hc5
          obtain ⟨j, k6, a6, c6, hk6, hkc, rfl, rfl, HSB, HS, HB⟩ := hrel
          by_cases h64 : 64 ≤ k6
          · have h64' : (64 : Int) ≤ c6 := by omega
            have h0 : (0 : Int) < k6 := by omega
            have HA := Lib.hid (add_any wr gs _ _ _ a6 c6 ((Ee.drop (64 * j)).take 64) HSB.out (HS.out.take h64) (by omega))
            go_wp2_with fail
            refine HA.out.mono ?_
            rintro e w7 ⟨rfl, hb7, hg7⟩
            have HSB7 := Lib.hid (show SBlk w7 gs (blkV v Ee (j + 1)) [] 45 from hb7)
            have HS7 := Lib.hid (HS.out.grown (HSB.out.noBytes HS.out) hg7)
            have HB7 := Lib.hid (grown_below2 HB.out hg7 HB.out.size hgs)
            have HJ := HNJ.out
            have hJl : j < J := by omega
            have hEl : Ee.length = N := by
              have h1 := HS.out.1
              rw [List.length_drop] at h1
              omega
            have HE : k6 = 64 → Hid (∀ w' : World, ∀ x : Option Addr, Sl encB w' x 0 (Ee.drop (64 * (j + 1)))) := fun hk64 => Lib.hid (fun w' x => ⟨by rw [List.length_drop]; omega, fun h => by omega⟩)
            have hdd : (Ee.drop (64 * j)).drop 64 = Ee.drop (64 * (j + 1)) := by rw [List.drop_drop]; congr 1
            have HDD := Lib.hid hdd
            obtain ⟨b, off, rfl, hbl, hcells⟩ := HS7.out.2 (by omega)
            clear hb7 hg7 HA HSB HS HB HJ hEl hdd hbl hcells
            by_cases hc65 : c6 = 64
            · subst hc65
              obtain rfl : k6 = 64 := by omega
              have HE2 := HE rfl
              clear HE
              go_wp2_with fail
              go_roundg (J - (j + 1))
              case measure => omega
              case rel => exact ⟨j + 1, 0, _, 0, by omega, Nat.le_refl _, rfl, rfl, HSB7, Lib.hid (HE2.out _ _), HB7⟩
            · have HS8 : Hid (Sl encB w7 (some ⟨b, off + 64, none⟩) (k6 - 64) (Ee.drop (64 * (j + 1)))) := by
                by_cases hk64 : k6 = 64
                · have h := (HE hk64).out w7 (some ⟨b, off + 64, none⟩)
                  have e : k6 - 64 = 0 := by omega
                  rw [e]
                  exact Lib.hid h
                · obtain ⟨b', off', he, h2⟩ := HS7.out.drop (j := 64) (by omega)
                  cases he
                  rw [HDD.out] at h2
                  exact Lib.hid h2
              clear HE
              go_wp2_with fail
              go_roundg (J - (j + 1))
              case measure => omega
              case rel => exact ⟨j + 1, k6 - 64, _, c6 - 64, by omega, by omega, rfl, rfl, HSB7, HS8, HB7⟩
          · have hJ := HNJ.out
            obtain rfl : j = J := by omega
            obtain rfl : k6 = 0 := by omega
            have HN6 := Lib.hid hk6
            clear hk6 hJ
            obtain ⟨V, hV⟩ : ∃ V, V = blkV v Ee j := ⟨_, rfl⟩
            rw [← hV] at HSB
            have HVE := Lib.hid hV
            clear hV HS
            go_upto_region 12 with fail
            have hal : Below wr.heap.size wr (wr.alloc (.cells ((V.bytes.take (4 * 0) ++ List.replicate (32 - 4 * 0) 0).map encB).toArray 24)) := (Below.refl _ _).alloc (Nat.le_refl _) _
            have hout : OutB (wr.alloc (.cells ((V.bytes.take (4 * 0) ++ List.replicate (32 - 4 * 0) 0).map encB).toArray 24)) wr.heap.size V 0 := heap_alloc_last wr _
            change Code.wp _ _ _ _ (wr.alloc (.cells ((V.bytes.take (4 * 0) ++ List.replicate (32 - 4 * 0) 0).map encB).toArray 24))
            have hgo := HB.out.size
            have HB8 := Lib.hid (HB.out.trans (hal.mono hgo))
            have HSB8 := Lib.hid (HSB.out.below hal)
            have HOUT := Lib.hid hout
            clear hal hout HB HSB
            generalize wr.alloc (.cells ((V.bytes.take (4 * 0) ++ List.replicate (32 - 4 * 0) 0).map encB).toArray 24) = w8 at *
            generalize wr.heap.size = go at *
            obtain ⟨c0, c1, c2, c3, c4, c5, c6, c7⟩ := HSB8.out.box.1
            go_wp2_with fail
            clear c0 c1 c2 c3 c4 c5 c6 c7 HSB8
            go_loopg [55] 8 (fun gn i wq => ∃ t : Nat, t ≤ 8 ∧ gn = 8 - t ∧ i = .int .i64 t ∧ Hid (OutB wq go V t) ∧ Hid (Below w2.heap.size w2 wq))
            case atStart => exact ⟨0, by omega, by omega, by go_num, HOUT, HB8⟩
            case round =>
              clear HOUT HB8
              obtain ⟨t, ht, rfl, rfl, HO, HB⟩ := hrel
              by_cases hlt : t < 8
              · have t1 : (t : Int) < 8 := by omega
                have hix := idx_w8 wr V t hlt
                obtain ⟨x, hx⟩ : ∃ x, x = (V.get t).toNat := ⟨_, rfl⟩
                have hxE : E (V.get t) = (x : Int) := by rw [hx]; rfl
                have hx4 : x < 4294967296 := by rw [hx]; exact (V.get t).isLt
                rw [hxE] at hix
                obtain ⟨p4, hp4⟩ : ∃ p4, p4 = 4 * t := ⟨_, rfl⟩
                have hpm : 4 * (t : Int) = (p4 : Int) := by omega
                have hp1 : (p4 : Int) ≤ 32 := by omega
                have hp0 : (0 : Int) ≤ (p4 : Int) := by omega
                have hp2 : p4 ≤ 28 := by omega
                have hp3 : ¬ (32 = p4) := by omega
                have HPX := Lib.hid hp4
                have HXX := Lib.hid hx
                clear hp4 hx hxE
                go_upto_region 15 with fail
                refine wp_region_lexS AnyW (.of [(0, true), (1, true), (2, true), (3, true), (4, true), (5, false), (6, false)] (.stir [])) (by kernel_rfl) (by kernel_rfl) (fun c a d v w h => by cases d <;> exact h) ?_
                have hSw : AnyW wr.drew := trivial
                iterate 5
                  refine lexS_step (fun K hK => ?_)
                  simp only [lexOp, List.getElem?_toArray, List.getElem?_cons_succ, List.getElem?_cons_zero]
                  rw [if_pos (by rfl)]
                  apply Exists.intro
                  refine ⟨fun w' hS' => ?_, hSw, ?_⟩
                  · first | (go_simp <;> with_reducible rfl) | (go_simp; go_bits; with_reducible rfl)
                  go_simp
                  try go_bits
                  refine hK _ _ ?_
                  clear hK K
                refine lexS_step (fun K hK => ?_)
                simp only [lexOp, List.getElem?_toArray, List.getElem?_cons_succ, List.getElem?_cons_zero]
                rw [if_pos (by rfl)]
                go_step
                refine (Put_any wr.drew none 0 0 [] x 4 (Sl.nil _ _) (by omega) (Nat.le_refl _) (by omega) (by decide) (by decide)).mono ?_
                rintro e w9 ⟨v9, n9, rfl, ho9, hb9⟩
                obtain ⟨a9, cx9, rfl, hs9, hc9⟩ := Sl.ofOwn ho9
                rw [List.nil_append] at hs9
                obtain rfl : n9 = 4 := by have := hs9.1; rw [putB_length] at this; exact this.symm
                have HS9 := Lib.hid hs9
                have HO9 := Lib.hid (show OutB w9 go V t from OutB.below (show OutB wr.drew go V t from HO.out) hb9)
                have HB9 := Lib.hid (HB.out.drew.trans (hb9.mono HB.out.size))
                clear ho9 hb9 hs9
                refine ⟨trivial, ?_⟩
                go_simp
                refine hK _ _ ?_
                clear hK K
                obtain ⟨b9, o9, rfl, hbl9, hcl9⟩ := HS9.out.2 (by omega)
                refine lexS_step (fun K hK => ?_)
                simp only [lexOp, List.getElem?_toArray, List.getElem?_cons_succ, List.getElem?_cons_zero]
                rw [if_pos (by rfl)]
                change Oper.wp _ _ _ _ _ _
                have hO9 : w9.heap[go]? = some (.cells ((V.bytes.take (4 * t) ++ List.replicate (32 - 4 * t) 0).map encB).toArray 24) := HO9.out
                have hP4 : p4 = 4 * t := HPX.out
                refine wp_copy_own (.tmp 61) (.tmp 64) 22 22 rfl 5 Try.underlying22 (by kernel_rfl) go p4 (32 - p4) (32 - p4) ⟨b9, o9, none⟩ 4 cx9 rfl rfl _ _ hO9 ((putB (V.get t).toNat 4).map encB) ?_ ?_ ?_ (encB_one _) ?_
                · rw [List.length_map, putB_length]
                  exact (Nat.min_eq_left (by omega)).symm
                · intro i u hu
                  rw [← HXX.out] at hu
                  have hi : i < 4 := by
                    rcases Nat.lt_or_ge i 4 with h1 | h1
                    · exact h1
                    · rw [List.getElem?_eq_none (by rw [List.length_map, putB_length]; exact h1)] at hu
                      cases hu
                  rw [List.getElem?_map, List.getElem?_eq_getElem (by rw [putB_length]; exact hi)] at hu
                  cases hu
                  rw [addr_add]
                  exact hcl9 i _
                · simp [putB_length, V8.bytes_length]
                  omega
                refine ⟨trivial, hK _ _ ?_⟩
                clear hK K
                rw [hP4, out_next V t hlt]
                have hO10 : OutB (w9.setRow go ((V.bytes.take (4 * (t + 1)) ++ List.replicate (32 - 4 * (t + 1)) 0).map encB).toArray) go V (t + 1) := setRow_heap _ _ _ _ _ _ hO9
                have HO10 := Lib.hid hO10
                have HB10 := Lib.hid (below_setRow HB9.out hgo ((V.bytes.take (4 * (t + 1)) ++ List.replicate (32 - 4 * (t + 1)) 0).map encB).toArray)
                clear hO10 hO9 HB9 HO9 hcl9 hP4
                generalize w9.setRow go ((V.bytes.take (4 * (t + 1)) ++ List.replicate (32 - 4 * (t + 1)) 0).map encB).toArray = w10 at *
                refine lexS_stir (fun y => y = w10) (fun y hy => trivial) rfl ?_
                refine stir_nil (fun y hy => ?_)
                obtain rfl : w10 = y := hy.symm
                go_wp2_with fail
                go_roundg (8 - (t + 1))
                case measure => omega
                case rel => exact ⟨t + 1, by omega, rfl, by go_num, HO10, HB10⟩
              · obtain rfl : t = 8 := by omega
                have hV32 : (V.bytes.take (4 * 8) ++ List.replicate (32 - 4 * 8) (0 : UInt8)) = V.bytes := by
                  rw [List.take_of_length_le (by rw [V8.bytes_length]; omega)]
                  simp
                have hrow : wr.heap[go]? = some (.cells (V.bytes.map encB).toArray 24) := by
                  have h := HO.out
                  unfold OutB at h
                  rwa [hV32] at h
                have hVh : V.bytes = hashB bs := by
                  have hL := HL.out
                  have hM := HM.out
                  have hel : rs.length = m := HSL.out.1
                  have hN6 := HN6.out
                  have hEl := HEL.out
                  obtain ⟨q, hq⟩ : ∃ q, q = bs.length / 64 := ⟨_, rfl⟩
                  have hlen : (bs ++ padR bs.length (bs.length % 64)).length / 64 = q + j := by
                    rw [HEE.out, List.length_append, hel] at hEl
                    rw [List.length_append, ← hL, ← hM]
                    omega
                  have hdrop : (bs ++ padR bs.length (bs.length % 64)).drop (64 * q) = Ee := by
                    rw [List.drop_append_of_le_length (by omega), HEE.out, HRS.out, ← hL, ← hM, hL, hq]
                  unfold hashB hashV
                  rw [hlen, blkV_behind, hdrop, blkV_front _ _ _ _ (by omega), HVE.out, HV.out, hq]
                obtain ⟨A, hA⟩ : ∃ A, A = (V.bytes.map encB).toArray := ⟨_, rfl⟩
                rw [← hA] at hrow
                have HSZ := Lib.hid (show A.size = 32 by rw [hA]; simp [V8.bytes_length])
                have HON := Lib.hid (show A.all (·.oneCell') = true by rw [hA]; simp [encB, Value.oneCell'])
                have HAE := Lib.hid (show A = ((hashB bs).map encB).toArray by rw [hA, hVh])
                have HROW := Lib.hid hrow
                obtain ⟨old, hold, hz0⟩ := HZ.out.below HB.out
                have HZ0 := Lib.hid hz0
                have HOLD := Lib.hid hold
                have hbw := HBE.out
                have HFIN := Lib.hid (show Below B w wr from HFR.out.trans (HB.out.mono (by have h := HFR.out.size; rw [hbw] at h; exact h)))
                clear hA hVh hrow hold hz0 hV32 HO HB hbw
                go_wp2_with (first
                  | (refine wpList_load_row rfl _ _ rfl _ rfl _ _ _ _ HROW.out Try.underlying24 rfl (by rw [HSZ.out]; exact info_out) ?_)
                  | (refine wpList_store_row rfl _ _ _ rfl _ _ rfl rfl _ _ HZ0.out (by rw [HSZ.out]; exact info_out) (by rw [HSZ.out]; exact HOLD.out) HON.out ?_))
                refine bodyPost_ret (v := .agg A) (results_cell_row rfl _ _ B _ _ _ _ rfl (setRow_heap _ _ _ _ _ _ HZ0.out) Try.underlying24 rfl (by rw [HSZ.out]; exact info_out)) rfl ⟨by rw [HAE.out], ?_⟩
                rw [HBE.out]
                exact below_setRow HFIN.out (Nat.le_refl _) _
set_option maxHeartbeats 4000000 in
set_option maxRecDepth 100000 in
/-- Bytes' hash. -/
theorem SumB_any (w : World) (x : Option Addr) (n cx : Nat) (xs : List UInt8) (hx : Sl encB w x n xs) (hcx : n ≤ cx) (hl : n ≤ 1099511627776) :
    Calls Try.prog 7 #[.slice x n cx] w fun e w' => e = .returned (.agg ((hashB xs).map encB).toArray) ∧ Below w.heap.size w w' := by
  have HX := Lib.hid hx
  have hxl := hx.1
  clear hx
  have hal : Below w.heap.size w (w.alloc (.cells (List.replicate 32 (Value.int .u8 0)).toArray 24)) := (Below.refl _ _).alloc (Nat.le_refl _) _
  have HZ := Lib.hid (show ZB (w.alloc (.cells (List.replicate 32 (Value.int .u8 0)).toArray 24)) w.heap.size 32 24 from ⟨_, rfl, heap_alloc_last w _⟩)
  have HX1 := Lib.hid (HX.out.below hal)
  have HB := Lib.hid hal
  clear hal
  obtain ⟨A, hA⟩ : ∃ A, A = ((hashB xs).map encB).toArray := ⟨_, rfl⟩
  rw [← hA]
  have HSZ := Lib.hid (show A.size = 32 by rw [hA]; simp [hashB_length])
  have HON := Lib.hid (show A.all (·.oneCell') = true by rw [hA]; simp [encB, Value.oneCell'])
  have HAE := Lib.hid hA
  clear hA
  go_enter Try.func7, Try.ntmps7
  go_upto_region 1 with fail
  change Code.wp _ _ _ _ (w.alloc (.cells (List.replicate 32 (Value.int .u8 0)).toArray 24))
  generalize w.alloc (.cells (List.replicate 32 (Value.int .u8 0)).toArray 24) = w1 at *
  obtain ⟨B, hB⟩ : ∃ B, w.heap.size = B := ⟨_, rfl⟩
  rw [hB] at HZ HB ⊢
  have HBE := Lib.hid hB
  clear hB
  go_wp2_with fail
  refine (New_any w1).mono ?_
  rintro e w2 ⟨rfl, hh2, hb2⟩
  have hw1 : B ≤ w1.heap.size := by have := HB.out.size; rwa [HBE.out] at this
  have HW := Lib.hid (Write_any w2 w1.heap.size none 0 [] hh2 x n cx xs (HX1.out.below hb2) hcx (by simpa using hl))
  have HB2 := Lib.hid (HB.out.trans (hb2.mono hw1))
  have HZ2 := Lib.hid (HZ.out.below hb2)
  have HSZ2 := Lib.hid hb2.size
  have HBLT := Lib.hid (HZ.out.lt)
  generalize w1.heap.size = g at *
  clear hb2 hh2 HZ HB HX HX1
  go_wp2_with fail
  refine HW.out.mono ?_
  rintro e w3 ⟨rfl, a3, c3, hh3, hg3, _⟩
  rw [List.nil_append] at hh3
  have HB3 := Lib.hid (grown_below2 HB2.out hg3 (Nat.le_trans hw1 HSZ2.out) hw1)
  have hz3 : ZB w3 B 32 24 := by
    obtain ⟨old, h1, h2⟩ := HZ2.out
    refine ⟨old, h1, ?_⟩
    rw [hg3.block B (Array.getElem?_eq_some_iff.1 h2).1 (fun e => ?_)]
    · exact h2
    · cases e
      have h3 := HBLT.out
      omega
  have HZ3 := Lib.hid hz3
  have HS := Lib.hid (Sum_any w3 (some ⟨g, 0, none⟩) xs (.inr ⟨g, a3, c3, rfl, hh3⟩) (by rw [hxl]; exact hl))
  rw [← HAE.out] at HS
  have hw3 : B ≤ w3.heap.size := Nat.le_trans (Nat.le_trans hw1 HSZ2.out) hg3.size
  clear hh3 hg3 HW HB2 hz3 HZ2
  go_wp2_with fail
  refine HS.out.mono ?_
  rintro e w4 ⟨rfl, hb4⟩
  have HB4 := Lib.hid (HB3.out.trans (hb4.mono hw3))
  obtain ⟨old, hold, hz0⟩ := HZ3.out.below hb4
  have HZ0 := Lib.hid hz0
  have HOLD := Lib.hid hold
  clear hz0 hold hb4 HS HB3 HZ3
  go_wp2_with (refine wpList_store_row rfl _ _ _ rfl _ _ rfl rfl _ _ HZ0.out (by rw [HSZ.out]; exact info_out) (by rw [HSZ.out]; exact HOLD.out) HON.out ?_)
  refine bodyPost_ret (v := .agg A) (results_cell_row rfl _ _ B _ _ _ _ rfl (setRow_heap _ _ _ _ _ _ HZ0.out) Try.underlying24 rfl (by rw [HSZ.out]; exact info_out)) rfl ⟨rfl, ?_⟩
  rw [HBE.out]
  exact below_setRow HB4.out (Nat.le_refl _) _
end Go.Proofs.Ytkcpblfdmfkppaa
