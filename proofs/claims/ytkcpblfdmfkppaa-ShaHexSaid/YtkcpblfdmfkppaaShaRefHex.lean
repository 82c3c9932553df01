/- sha: the reference's Hex and Unhex. No condition. -/
import Derived.Test.YtkcpblfdmfkppaaShaFix
import Derived.Laws.Strings2
namespace Go.Proofs.Ytkcpblfdmfkppaa
open Go.ChangeShapes Go.WideShapes Go.ChangeAt Go.RowKit
theorem sign_cut (q : Nat) (h : q < 16) : ((⟨#[48, 49, 50, 51, 52, 53, 54, 55, 56, 57, 97, 98, 99, 100, 101, 102]⟩ : ByteArray).extract q (q + 1)) = ⟨[signAt q].toArray⟩ := by
  rcases lt16 h with rfl | rfl | rfl | rfl | rfl | rfl | rfl | rfl | rfl | rfl | rfl | rfl | rfl | rfl | rfl | rfl <;> rfl
theorem cut_sign (w : World) (q : Nat) (h : q < 16) :
    (Instr.slice 9 (.string ⟨#[48, 49, 50, 51, 52, 53, 54, 55, 56, 57, 97, 98, 99, 100, 101, 102]⟩) (some (.int .u8 (q : Nat))) (some (.int .u8 ((q : Nat) + 1))) none).run Try.prog w = .ok (.string ⟨[signAt q].toArray⟩) w := by
  have hz : (⟨#[48, 49, 50, 51, 52, 53, 54, 55, 56, 57, 97, 98, 99, 100, 101, 102]⟩ : ByteArray).size = 16 := rfl
  rw [run_slice_string w 9 _ .u8 .u8 _ _ Try.underlying9 (by omega) (by omega) (by rw [hz]; omega), ← sign_cut q h]
  have e : ((q : Int) + 1).toNat = q + 1 := by omega
  rw [e, Int.toNat_natCast]
theorem str_app (xs ys : List UInt8) : ((⟨xs.toArray⟩ : ByteArray) ++ (⟨ys.toArray⟩ : ByteArray)) = ⟨(xs ++ ys).toArray⟩ := by
  apply ByteArray.ext
  simp
set_option maxHeartbeats 4000000 in
set_option maxRecDepth 100000 in
theorem refHex_any (w : World) (bs : List UInt8) (hl : bs.length = 32) :
    Calls Try.prog 15 #[.agg (bs.map encB).toArray] w fun e w' => e = .returned (.string ⟨(hexB bs).toArray⟩) ∧ Below w.heap.size w w' := by
  obtain ⟨A, hA⟩ : ∃ A, A = (bs.map encB).toArray := ⟨_, rfl⟩
  have hix : ∀ w' : World, ∀ k (h : k < bs.length), (Instr.index 24 (.agg A) (.int .i64 k)).run Try.prog w' = .ok (.int .u8 (bs[k].toNat : Nat)) w' := by
    intro w' k h
    have hu := Try.underlying24
    have hk2 : ((k : Nat) : Int) < 32 := by omega
    rw [hA]
    have hk3 : k < 32 := by omega
    simp [go_sem, Instr.index, hu, hl, h, hk2, hk3, encB]
  have hasz : A.size = 32 := by rw [hA]; simpa using hl
  rw [← hA]
  have HIX := Lib.hid hix
  have HSZ := Lib.hid hasz
  have HL := Lib.hid hl
  clear hA hix hasz hl
  have hbox : Below w.heap.size w (w.alloc (.cells A 24)) := (Below.refl _ _).alloc (Nat.le_refl _) _
  have hrow : (w.alloc (.cells A 24)).heap[w.heap.size]? = some (.cells A 24 (0, 0)) := heap_alloc_last w _
  have HBX := Lib.hid hbox
  have HROW := Lib.hid hrow
  clear hbox hrow
  go_enter Try.func15, Try.ntmps15
  go_upto_region 1 with fail
  generalize w.alloc (.cells A 24) = w1 at *
  go_wp2_with (refine wpList_load_row rfl _ _ rfl _ rfl _ _ _ _ HROW.out Try.underlying24 rfl (by rw [HSZ.out]; exact info_out) ?_)
  go_loopg [7, 3] 32 (fun gn i s wr => ∃ k : Nat, k ≤ 32 ∧ gn = 32 - k ∧ i = .int .i64 k ∧ s = .string ⟨(hexB (bs.take k)).toArray⟩ ∧ Hid (Below w.heap.size w wr))
  case atStart => exact ⟨0, by omega, by omega, by go_num, rfl, HBX⟩
  case round =>
    clear HBX HROW
    obtain ⟨k, hk, rfl, rfl, rfl, HB⟩ := hrel
    by_cases hlt : k < 32
    · have k1 : (k : Int) < 32 := by omega
      have hkl : k < bs.length := by rw [HL.out]; exact hlt
      have hx := HIX.out wr k hkl
      obtain ⟨c, hc⟩ : ∃ c, c = bs[k].toNat := ⟨_, rfl⟩
      rw [← hc] at hx
      have hc256 : c < 256 := by rw [hc]; exact bs[k].toNat_lt
      obtain ⟨q, hq⟩ : ∃ q, q = c / 16 := ⟨_, rfl⟩
      obtain ⟨r, hr⟩ : ∃ r, r = c % 16 := ⟨_, rfl⟩
      have hqE : (c : Int) / 16 = (q : Int) := by omega
      have hrE : (c : Int) % 16 = (r : Int) := by omega
      have hq16 : q < 16 := by omega
      have hr16 : r < 16 := by omega
      have hs1 := fun w' => cut_sign w' q hq16
      have hs2 := fun w' => cut_sign w' r hr16
      have HC := Lib.hid hc
      have HQ := Lib.hid hq
      have HR := Lib.hid hr
      clear hc hq hr
      obtain ⟨X, hX⟩ : ∃ X, X = hexB (bs.take k) := ⟨_, rfl⟩
      rw [← hX]
      have HX := Lib.hid hX
      clear hX
      have hxl : X.length ≤ 64 := by rw [HX.out, hexB_length, List.length_take]; omega
      have hno : ¬ (9223372036854775807 < X.length + 1) := by omega
      have hno2 : ¬ (9223372036854775807 < X.length + 1 + 1) := by omega
      go_upto_region 5 with fail
      have hSw : EqW wr.drew wr.drew := rfl
      refine wp_region_lexS (EqW wr.drew) (.stir [(0, true), (1, true), (2, true), (3, true), (4, true), (5, true), (6, true), (7, true), (8, true), (9, true), (10, true), (11, true), (12, true), (13, true), (14, true), (15, true)]) (by kernel_rfl) (by kernel_rfl) (fun c a d v w h => by cases d <;> exact h) ?_
      refine lexS_stir (EqW wr.drew) (fun y hy => hy) rfl ?_
      iterate 16
        refine stir_step (fun K hK => ?_)
        simp only [stirOp, List.getElem?_toArray, List.getElem?_cons_succ, List.getElem?_cons_zero]
        rw [if_pos (by rfl)]
        apply Exists.intro
        refine ⟨fun w' hS' => ?_, ?_⟩
        · first | (go_simp <;> with_reducible rfl) | (go_simp; go_bits; with_reducible rfl)
        go_simp
        try go_bits
        refine hK _ ?_
        clear hK K
      refine stir_nil (fun y hy => ?_)
      obtain rfl : y = wr.drew := hy
      have hnx : (⟨X.toArray⟩ : ByteArray) ++ ⟨#[signAt q]⟩ ++ ⟨#[signAt r]⟩ = ⟨(hexB (bs.take (k + 1))).toArray⟩ := by
        rw [hexB_take bs k hkl, ← HC.out, ← HQ.out, ← HR.out, ← HX.out]
        have e1 := str_app X [signAt q]
        have e2 := str_app (X ++ [signAt q]) [signAt r]
        rw [← e2, ← e1]
      have HNX := Lib.hid hnx
      clear hnx hs1 hs2 hx
      go_wp2_with fail
      rw [HNX.out]
      go_roundg (32 - (k + 1))
      case measure => omega
      case rel => exact ⟨k + 1, by omega, rfl, by go_num, rfl, Lib.hid HB.out.drew⟩
    · obtain rfl : k = 32 := by omega
      have htk : bs.take 32 = bs := List.take_of_length_le (by rw [HL.out]; exact Nat.le_refl _)
      rw [htk]
      go_wp2_with fail
      go_ret
      exact ⟨rfl, HB.out⟩
theorem idx_signI (w : World) (n : Nat) (h : n < 16) :
    (Instr.index 9 (.string ⟨#[48, 49, 50, 51, 52, 53, 54, 55, 56, 57, 97, 98, 99, 100, 101, 102]⟩) (.int .i64 (n : Nat))).run Try.prog w = .ok (.int .u8 ((signAt n).toNat : Nat)) w := by
  have hu := Try.underlying9
  have hg : (⟨#[48, 49, 50, 51, 52, 53, 54, 55, 56, 57, 97, 98, 99, 100, 101, 102]⟩ : ByteArray)[n]? = some (signAt n) := by
    rcases lt16 h with rfl | rfl | rfl | rfl | rfl | rfl | rfl | rfl | rfl | rfl | rfl | rfl | rfl | rfl | rfl | rfl <;> rfl
  simp [go_sem, Instr.index, hu, hg]
/-- A sign's place. -/
theorem sign_posF : ∀ k : Fin 16, ∀ c : Fin 256, (signAt k.1 = UInt8.ofNat c.1) ↔ posS (UInt8.ofNat c.1) = (k.1 : Int) := by decide +kernel
theorem sign_pos (k : Nat) (hk : k < 16) (c : UInt8) : signAt k = c ↔ posS c = (k : Int) := by
  have h := sign_posF ⟨k, hk⟩ ⟨c.toNat, c.toNat_lt⟩
  simpa using h
/-- The reference's bytes behind the first i signs. -/
def refL (s : List UInt8) : Nat → List UInt8
  | 0 => zeros32
  | i + 1 => (refL s i).set (i / 2) (UInt8.ofNat ((((refL s i).getD (i / 2) 0).toNat * 16 + (posS (s.getD i 0)).toNat) % 256))
theorem refL_length (s : List UInt8) : ∀ i, (refL s i).length = 32
  | 0 => rfl
  | i + 1 => by rw [refL, List.length_set, refL_length s i]
theorem refL_pair (s : List UInt8) (h : ∀ j, j < 64 → 0 ≤ posS (s.getD j 0)) : ∀ k, k ≤ 32 → refL s (2 * k) = (unhxL s).take k ++ List.replicate (32 - k) 0
  | 0, _ => rfl
  | k + 1, hk => by
    have ih := refL_pair s h k (by omega)
    have hl : ((unhxL s).take k).length = k := by rw [List.length_take, unhxL_length]; omega
    have e1 : (2 * k) / 2 = k := by omega
    have e2 : (2 * k + 1) / 2 = k := by omega
    have hr : List.replicate (32 - k) (0 : UInt8) = 0 :: List.replicate (32 - (k + 1)) 0 := by rw [show 32 - k = (32 - (k + 1)) + 1 by omega, List.replicate_succ]
    have set1 : ∀ x : UInt8, ∀ t : List UInt8, ∀ y : UInt8, ((unhxL s).take k ++ x :: t).set k y = (unhxL s).take k ++ y :: t := by
      intro x t y
      rw [List.set_append_right _ _ (by omega), hl, Nat.sub_self, List.set_cons_zero]
    have get1 : ∀ x : UInt8, ∀ t : List UInt8, ((unhxL s).take k ++ x :: t).getD k 0 = x := by
      intro x t
      rw [List.getD_eq_getElem?_getD, List.getElem?_append_right (by omega), hl, Nat.sub_self]
      rfl
    rw [show 2 * (k + 1) = (2 * k + 1) + 1 by omega, refL, refL, e1, e2, ih, hr, get1, set1, get1, set1]
    rw [List.take_succ_eq_append_getElem (by rw [unhxL_length]; omega), List.append_assoc]
    congr 1
    show _ :: _ = _ :: _
    congr 1
    have h0 := h (2 * k) (by omega)
    have h1 := h (2 * k + 1) (by omega)
    have b0 := posS_le (s.getD (2 * k) 0)
    have b1 := posS_le (s.getD (2 * k + 1) 0)
    unfold unhxL
    rw [List.getElem_map, List.getElem_range]
    have ha : (posS (s.getD (2 * k) 0)).toNat ≤ 15 := by omega
    have hb : (posS (s.getD (2 * k + 1) 0)).toNat ≤ 15 := by omega
    generalize (posS (s.getD (2 * k) 0)).toNat = a at *
    generalize (posS (s.getD (2 * k + 1) 0)).toNat = b at *
    have e : (UInt8.ofNat (((0 : UInt8).toNat * 16 + a) % 256)).toNat = a := by
      have h0 : ((0 : UInt8).toNat * 16 + a) % 256 = a := by
        have : (0 : UInt8).toNat = 0 := rfl
        rw [this]
        omega
      rw [h0, UInt8.toNat_ofNat_of_lt' (show a < 256 by omega)]
    rw [e, Nat.mod_eq_of_lt (by omega), Nat.mul_comm a 16]
/-- The sum as far as it is laid. -/
def OutR (w : World) (go : Nat) (L : List UInt8) : Prop := w.heap[go]? = some (.cells (L.map encB).toArray 24)
theorem OutR.at {w : World} {go : Nat} {L : List UInt8} (h : OutR w go L) (p : Nat) (hp : p < L.length) : w.cell? ⟨go, p, none⟩ = some (.int .u8 ((L.getD p 0).toNat : Nat)) ∧ w.frozen? ⟨go, p, none⟩ = false := by
  constructor
  · rw [cell_of_row w go p _ _ _ h, List.getElem?_toArray, List.getElem?_map, List.getElem?_eq_getElem hp]
    simp [List.getD, hp, encB]
  · unfold World.frozen?
    unfold OutR at h
    rw [h]
    rfl
theorem OutR.put {w : World} {go : Nat} {L : List UInt8} (h : OutR w go L) (p : Nat) (x : UInt8) : OutR (w.setCell ⟨go, p, none⟩ (.int .u8 (x.toNat : Nat))) go (L.set p x) := by
  unfold OutR at h ⊢
  unfold World.setCell
  simp only [Array.getElem?_modify, h, Option.map_some, if_true]
  congr 2
  rw [List.setIfInBounds_toArray, List.map_set]
  rfl
set_option maxHeartbeats 4000000 in
set_option maxRecDepth 100000 in
theorem refUnhex_any (w : World) (s : List UInt8) (hs : s.length ≤ 9223372036854775807) :
    Calls Try.prog 14 #[.string ⟨s.toArray⟩] w fun e w' => e = .returned (.tuple #[.agg ((unhexV s).map encB).toArray, .int .i64 (unhexE s)]) ∧ Below w.heap.size w w' := by
  have h1 : Below w.heap.size w (w.alloc (.cells (List.replicate 32 (Value.int .u8 0)).toArray 24)) := (Below.refl _ _).alloc (Nat.le_refl _) _
  have h2 : ZB (w.alloc (.cells (List.replicate 32 (Value.int .u8 0)).toArray 24)) w.heap.size 32 24 := ⟨_, rfl, heap_alloc_last w _⟩
  have HB1 := Lib.hid h1
  have HZ1 := Lib.hid h2
  clear h1 h2
  go_enter Try.func14, Try.ntmps14
  go_upto_region 1 with fail
  change Code.wp _ _ _ _ (w.alloc (.cells (List.replicate 32 (Value.int .u8 0)).toArray 24))
  generalize w.alloc (.cells (List.replicate 32 (Value.int .u8 0)).toArray 24) = w1 at *
  go_upto_region 2 with fail
  have h3 : Below w1.heap.size w1 (w1.alloc (.cells (zeros32.map encB).toArray 24)) := (Below.refl _ _).alloc (Nat.le_refl _) _
  have h4 : OutR (w1.alloc (.cells (zeros32.map encB).toArray 24)) w1.heap.size zeros32 := heap_alloc_last w1 _
  change Code.wp _ _ _ _ (w1.alloc (.cells (zeros32.map encB).toArray 24))
  obtain ⟨B, hB⟩ : ∃ B, w.heap.size = B := ⟨_, rfl⟩
  rw [hB] at HB1 HZ1 ⊢
  have HBE := Lib.hid hB
  have hgB : B < w1.heap.size := HZ1.out.lt
  have HB2 := Lib.hid (HB1.out.trans (h3.mono (by omega)))
  have HZ2 := Lib.hid (HZ1.out.below h3)
  have HO2 := Lib.hid h4
  clear h3 h4 hB HB1 HZ1
  generalize w1.alloc (.cells (zeros32.map encB).toArray 24) = w2 at *
  generalize w1.heap.size = go at *
  obtain ⟨n, hn⟩ : ∃ n, s.length = n := ⟨_, rfl⟩
  have HN := Lib.hid hn
  by_cases h64 : n = 64
  · subst h64
    go_wp2_with fail
    go_loopg [5] 64 (fun gn i wr => ∃ k : Nat, k ≤ 64 ∧ gn = 64 - k ∧ i = .int .i64 k ∧ Hid (GoodTo s k) ∧ Hid (OutR wr go (refL s k)) ∧ Hid (ZB wr B 32 24) ∧ Hid (Below B w wr))
    case atStart => exact ⟨0, by omega, by omega, by go_num, Lib.hid (fun j hj h => by omega), HO2, HZ2, HBE.out ▸ HB2⟩
    case round =>
      clear HO2 HZ2 HB2
      obtain ⟨k, hk, rfl, rfl, HG, HO, HZ, HB⟩ := hrel
      by_cases hlt : k < 64
      · have k1 : (k : Int) < 64 := by omega
        have hl0 : k < s.length := by omega
        have hx0 := fun w' => idx_str w' s k hl0
        obtain ⟨x, hx⟩ : ∃ x, x = s.getD k 0 := ⟨_, rfl⟩
        have hxs : s[k] = x := by rw [hx]; simp [List.getD, hl0]
        rw [hxs] at hx0
        have HX := Lib.hid hx
        have HXS := Lib.hid (And.intro hl0 hk)
        clear hx hxs hl0
        go_wp2_with fail
        go_loopg [7, 6] 16 (fun gn j v wq => ∃ m : Nat, ∃ vi : Int, m ≤ 16 ∧ gn = 16 - m ∧ j = .int .i64 m ∧ v = .int .i64 vi ∧ Hid (vi = if posS x < m then posS x else -1) ∧ Hid (OutR wq go (refL s k)) ∧ Hid (ZB wq B 32 24) ∧ Hid (Below B w wq))
        case atStart => exact ⟨0, -1, by omega, by omega, by go_num, rfl, Lib.hid (by
          have h := posS_le x
          split
          · have : posS x = -1 := by omega
            rw [this]
          · rfl), HO, HZ, HB⟩
        case round =>
          clear HO HZ HB
          obtain ⟨m, vi, hm, rfl, rfl, rfl, HV, HO, HZ, HB⟩ := hrel
          by_cases hmt : m < 16
          · have m1 : (m : Int) < 16 := by omega
            have hy0 := fun w' => idx_signI w' m hmt
            have hsp := sign_pos m hmt x
            obtain ⟨sm, hsm⟩ : ∃ sm, sm = (signAt m).toNat := ⟨_, rfl⟩
            rw [← hsm] at hy0
            have hxn : x.toNat = x.toNat := rfl
            by_cases hpm : posS x = m
            · have heq : (((sm : Nat) : Int) == ((x.toNat : Nat) : Int)) = true := by rw [hsm, hsp.2 hpm]; simp
              have HN := Lib.hid (show (m : Int) = if posS x < ((m + 1 : Nat) : Int) then posS x else -1 by rw [if_pos (by omega), hpm])
              clear hsp hpm hsm
              generalize x.toNat = xn at *
              go_upto_region 11 with fail
              go_quiet (fail)
              have HO' := Lib.hid (show OutR (wr.drewN nq) go (refL s k) from HO.out)
              have HZ' := Lib.hid (show ZB (wr.drewN nq) B 32 24 from HZ.out)
              have HB' := Lib.hid (bdrewN HB.out nq)
              clear HO HZ HB
              generalize wr.drewN nq = w5 at *
              go_wp2_with fail
              go_roundg (16 - (m + 1))
              case measure => omega
              case rel => exact ⟨m + 1, _, by omega, rfl, by go_num, rfl, HN, HO', HZ', HB'⟩
            · have hne : (((sm : Nat) : Int) == ((x.toNat : Nat) : Int)) = false := by
                have h1 : signAt m ≠ x := fun e => hpm (hsp.1 e)
                have h2 : (signAt m).toNat ≠ x.toNat := fun e => h1 (UInt8.toNat_inj.1 e)
                rw [hsm]
                have h3 : (((signAt m).toNat : Nat) : Int) ≠ ((x.toNat : Nat) : Int) := by omega
                exact beq_eq_false_iff_ne.2 h3
              have HN := Lib.hid (show vi = if posS x < ((m + 1 : Nat) : Int) then posS x else -1 by
                rw [HV.out]
                by_cases h1 : posS x < m
                · rw [if_pos h1, if_pos (by omega)]
                · rw [if_neg h1, if_neg (by omega)])
              clear hsp hpm hsm
              generalize x.toNat = xn at *
              go_upto_region 11 with fail
              go_quiet (fail)
              have HO' := Lib.hid (show OutR (wr.drewN nq) go (refL s k) from HO.out)
              have HZ' := Lib.hid (show ZB (wr.drewN nq) B 32 24 from HZ.out)
              have HB' := Lib.hid (bdrewN HB.out nq)
              clear HO HZ HB
              generalize wr.drewN nq = w5 at *
              go_wp2_with fail
              go_roundg (16 - (m + 1))
              case measure => omega
              case rel => exact ⟨m + 1, _, by omega, rfl, by go_num, rfl, HN, HO', HZ', HB'⟩
          · obtain rfl : m = 16 := by omega
            have hle := posS_le x
            have hv : vi = posS x := by rw [HV.out, if_pos (by omega)]
            have hxd : s.getD k 0 = x := HX.out.symm
            have hk0 := HXS.out.1
            have hsk : s[k] = x := by rw [← hxd]; simp [List.getD, hk0]
            by_cases hneg : posS x < 0
            · have hno : allS s = false := allS_no hk0 (by rw [hsk]; exact hneg)
              have hd1 : decide (vi < 0) = true := decide_eq_true (by omega)
              have hv1 : vi < 0 := by omega
              clear hle hneg hv hxd hsk hk0
              obtain ⟨A, hA⟩ : ∃ A, A = (zeros32.map encB).toArray := ⟨_, rfl⟩
              have HSZ := Lib.hid (show A.size = 32 by rw [hA]; rfl)
              have HON := Lib.hid (show A.all (·.oneCell') = true by rw [hA]; simp [encB, Value.oneCell'])
              have HAE := Lib.hid (show A = ((unhexV s).map encB).toArray ∧ unhexE s = 8 by unfold unhexV unhexE; rw [hno]; exact ⟨hA, rfl⟩)
              have HA := Lib.hid hA
              obtain ⟨old, hold, hz0⟩ := HZ.out
              have HZ0 := Lib.hid hz0
              have HOLD := Lib.hid hold
              clear hA hno hold hz0
              go_wp2_with (refine wpList_store_row rfl _ _ _ rfl _ A rfl (by rw [HA.out]; rfl) _ _ HZ0.out (by rw [HSZ.out]; exact info_out) (by rw [HSZ.out]; exact HOLD.out) HON.out ?_)
              refine bodyPost_ret (results_cell_row_tmp rfl _ _ B _ _ _ _ rfl (setRow_heap _ _ _ _ _ _ HZ0.out) Try.underlying24 rfl (by rw [HSZ.out]; exact info_out)) rfl ⟨by rw [HAE.out.1, HAE.out.2]; rfl, ?_⟩
              rw [HBE.out]
              exact below_setRow HB.out (Nat.le_refl _) _
            · obtain ⟨q, hq⟩ : ∃ q : Nat, vi = q := ⟨vi.toNat, by omega⟩
              have hq15 : q ≤ 15 := by omega
              have hd1 : decide ((q : Int) < 0) = false := decide_eq_false (by omega)
              obtain ⟨p, hp⟩ : ∃ p, p = k / 2 := ⟨_, rfl⟩
              have hp32 : p < 32 := by omega
              obtain ⟨c0, f0⟩ := HO.out.at p (by rw [refL_length]; exact hp32)
              obtain ⟨o, ho⟩ : ∃ o, o = ((refL s k).getD p 0).toNat := ⟨_, rfl⟩
              have ho256 : o < 256 := by rw [ho]; exact UInt8.toNat_lt _
              rw [← ho] at c0
              obtain ⟨z, hz⟩ : ∃ z, z = (o * 16 + q) % 256 := ⟨_, rfl⟩
              have hz256 : z < 256 := by omega
              have hkp : (k : Int) / 2 = (p : Int) := by omega
              have hkp2 : (k : Int).tdiv 2 = (p : Int) := by rw [Int.tdiv_eq_ediv_of_nonneg (by omega)]; exact hkp
              have hnext : refL s (k + 1) = (refL s k).set p (UInt8.ofNat z) := by
                rw [refL, ← hp, ← ho, hz, hxd, ← hv, hq, Int.toNat_natCast]
              have hgn : GoodTo s (k + 1) := by
                intro j hj hlt2
                by_cases ha : j < k
                · exact HG.out j hj ha
                · obtain rfl : j = k := by omega
                  rw [hsk]
                  omega
              have hnx : OutR (wr.setCell ⟨go, p, none⟩ (.int .u8 (z : Nat))) go (refL s (k + 1)) := by
                rw [hnext]
                have h := HO.out.put p (UInt8.ofNat z)
                rwa [UInt8.toNat_ofNat_of_lt' (show z < 256 from hz256)] at h
              have HNX := Lib.hid hnx
              have HGN := Lib.hid hgn
              have HZN := Lib.hid (HZ.out.set (g2 := go) (o := p) (v := .int .u8 (z : Nat)) (by omega))
              have HBN := Lib.hid (HB.out.setCell (p := ⟨go, p, none⟩) (show B ≤ go from Nat.le_of_lt hgB) (.int .u8 (z : Nat)))
              have hzz : ((o : Int) * 16 % 256 + (q : Int)) % 256 = (z : Int) := by omega
              have hzz2 : ((o : Int) * 16 + (q : Int)) % 256 = (z : Int) := by omega
              have hz15 : (q : Int) % 256 = (q : Int) := by omega
              subst hq
              clear hnx hgn hnext hz hp ho hv hneg hle hxd hsk hk0 HG HO HZ HB HV
              go_wp2_with fail
              rw [show (o : Int) * 16 % 256 + (q : Int) = (z : Int) by omega]
              go_roundg (64 - (k + 1))
              case measure => omega
              case rel => exact ⟨k + 1, by omega, rfl, by go_num, HGN, HNX, HZN, HBN⟩
      · obtain rfl : k = 64 := by omega
        have hyes : allS s = true := allS_yes hn (fun j hj => HG.out j hj (by omega))
        have hrow : wr.heap[go]? = some (.cells ((unhxL s).map encB).toArray 24) := by
          have h := HO.out
          have h2 := refL_pair s (fun j hj => by
            have h3 := HG.out j (by omega) hj
            have h4 : s.getD j 0 = s[j]'(by omega) := by simp [List.getD, show j < s.length by omega]
            rw [h4]
            exact h3) 32 (Nat.le_refl _)
          unfold OutR at h
          rw [show (64 : Nat) = 2 * 32 from rfl, h2, List.take_of_length_le (by rw [unhxL_length]; omega)] at h
          simpa using h
        obtain ⟨A, hA⟩ : ∃ A, A = ((unhxL s).map encB).toArray := ⟨_, rfl⟩
        rw [← hA] at hrow
        have HSZ := Lib.hid (show A.size = 32 by rw [hA]; simp [unhxL_length])
        have HON := Lib.hid (show A.all (·.oneCell') = true by rw [hA]; simp [encB, Value.oneCell'])
        have HAE := Lib.hid (show A = ((unhexV s).map encB).toArray ∧ unhexE s = 0 by unfold unhexV unhexE; rw [hyes]; exact ⟨hA, rfl⟩)
        have HROW := Lib.hid hrow
        obtain ⟨old, hold, hz0⟩ := HZ.out
        have HZ0 := Lib.hid hz0
        have HOLD := Lib.hid hold
        clear hA hyes hrow hold hz0
        go_wp2_with (first
          | (refine wpList_load_row rfl _ _ rfl _ rfl _ _ _ _ HROW.out Try.underlying24 rfl (by rw [HSZ.out]; exact info_out) ?_)
          | (refine wpList_store_row rfl _ _ _ rfl _ _ rfl rfl _ _ HZ0.out (by rw [HSZ.out]; exact info_out) (by rw [HSZ.out]; exact HOLD.out) HON.out ?_))
        refine bodyPost_ret (results_cell_row_tmp rfl _ _ B _ _ _ _ rfl (setRow_heap _ _ _ _ _ _ HZ0.out) Try.underlying24 rfl (by rw [HSZ.out]; exact info_out)) rfl ⟨by rw [HAE.out.1, HAE.out.2]; rfl, ?_⟩
        rw [HBE.out]
        exact below_setRow HB.out (Nat.le_refl _) _
  · have hne : ((n : Int) != 64) = true := by
      have : (n : Int) ≠ 64 := by omega
      simpa using this
    have hno : allS s = false := by unfold allS; rw [hn, decide_eq_false h64, Bool.false_and]
    have hrow : w2.heap[go]? = some (.cells (zeros32.map encB).toArray 24) := HO2.out
    obtain ⟨A, hA⟩ : ∃ A, A = (zeros32.map encB).toArray := ⟨_, rfl⟩
    rw [← hA] at hrow
    have HSZ := Lib.hid (show A.size = 32 by rw [hA]; rfl)
    have HON := Lib.hid (show A.all (·.oneCell') = true by rw [hA]; simp [encB, Value.oneCell'])
    have HAE := Lib.hid (show A = ((unhexV s).map encB).toArray ∧ unhexE s = 8 by unfold unhexV unhexE; rw [hno]; exact ⟨hA, rfl⟩)
    have HROW := Lib.hid hrow
    obtain ⟨old, hold, hz0⟩ := HZ2.out
    have HZ0 := Lib.hid hz0
    have HOLD := Lib.hid hold
    clear hA hno hrow hold hz0 h64
    go_wp2_with (first
      | (refine wpList_load_row rfl _ _ rfl _ rfl _ _ _ _ HROW.out Try.underlying24 rfl (by rw [HSZ.out]; exact info_out) ?_)
      | (refine wpList_store_row rfl _ _ _ rfl _ _ rfl rfl _ _ HZ0.out (by rw [HSZ.out]; exact info_out) (by rw [HSZ.out]; exact HOLD.out) HON.out ?_))
    refine bodyPost_ret (results_cell_row_tmp rfl _ _ B _ _ _ _ rfl (setRow_heap _ _ _ _ _ _ HZ0.out) Try.underlying24 rfl (by rw [HSZ.out]; exact info_out)) rfl ⟨by rw [HAE.out.1, HAE.out.2]; rfl, ?_⟩
    rw [HBE.out]
    exact below_setRow (HBE.out ▸ HB2.out) (Nat.le_refl _) _
end Go.Proofs.Ytkcpblfdmfkppaa
