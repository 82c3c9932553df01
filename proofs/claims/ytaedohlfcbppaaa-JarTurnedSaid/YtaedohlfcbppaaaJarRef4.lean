/- jar: the reference's Pack. No condition. -/
import Derived.Test.YtaedohlfcbppaaaJarRef3
namespace Go.Proofs.Ytaedohlfcbppaaa
open Go.ChangeShapes Go.WideShapes Go.ChangeAt Go.RowKit
set_option maxHeartbeats 1000000 in
theorem refSum32_big (w : World) (a : Option Addr) (n cap : Nat) (bs : List UInt8) (hb : Bs w a n bs) (hn : n ≤ 1048576) :
    Calls Try.prog 22 #[.slice a n cap] w fun e w' => e = .returned (.int .u32 (bits .xor .u32 (bs.foldl refByte32 4294967295) 4294967295)) ∧ w = w' := by
  obtain ⟨hbl, hbc⟩ := hb
  have HL := Lib.hid hbl
  clear hbl
  go_enter Try.func22, Try.ntmps22
  go_wp2
  go_loop [3, 10] (fun t i => ∃ k : Nat, k ≤ n ∧ i = .int .i64 k ∧ ∃ m : Int, 0 ≤ m ∧ m < 4294967296 ∧ t = .int .u32 m ∧ Hid (m = (bs.take k).foldl refByte32 4294967295)) (fun _ i => n - (intOf i).toNat)
  case atStart => exact ⟨0, Nat.zero_le _, rfl, 4294967295, by decide, by decide, rfl, by simp [Hid]⟩
  case round =>
    obtain ⟨k, hk, rfl, m, hm, hm2, rfl, HM⟩ := hrel
    by_cases hlt : k < n
    · obtain ⟨b, off, rfl, _, hc⟩ := hbc (by omega)
      have hkl : k < bs.length := by rw [HL.out]; exact hlt
      have hck := hc k hkl
      have hu := u8_lt bs[k]
      clear hc hbc
      have hx := bits_u32 .xor m bs[k].toNat
      go_wp2
      clear hck hu
      go_loop [3, 6] (fun t i => ∃ j : Nat, j ≤ 8 ∧ i = .int .i64 j ∧ ∃ x : Int, 0 ≤ x ∧ x < 4294967296 ∧ t = .int .u32 x ∧ Hid (x = iter refBit32 j (bits .xor .u32 m bs[k].toNat))) (fun _ i => 8 - (intOf i).toNat)
      case atStart => exact ⟨0, Nat.zero_le _, rfl, _, hx.1, hx.2, rfl, by simp [Hid, iter]⟩
      case round =>
        obtain ⟨j, hj, rfl, x, hx0, hx1, rfl, HX⟩ := hrel
        by_cases hjt : j < 8
        · have hb2 := refBit32_lt x hx0 hx1
          by_cases hodd : x % 2 = 1
          · have HO := Lib.hid hodd
            have ho : (x % 2 == 1) = true := by simp [hodd]
            clear hodd
            go_wp2
            go_round
            case rel => exact ⟨j + 1, by omega, by go_num, refBit32 x, hb2.1, hb2.2, slot_int (by simp [refBit32, HO.out]), iter_hid HX⟩
            case measure => simp [intOf]; omega
          · have HO := Lib.hid hodd
            have ho : (x % 2 == 1) = false := by simp [hodd]
            clear hodd
            go_wp2
            go_round
            case rel => exact ⟨j + 1, by omega, by go_num, refBit32 x, hb2.1, hb2.2, slot_int (by simp [refBit32, HO.out]), iter_hid HX⟩
            case measure => simp [intOf]; omega
        · obtain rfl : j = 8 := by omega
          go_wp2
          go_round
          case rel => exact ⟨k + 1, by omega, by go_num, x, hx0, hx1, rfl, fold_hid HM hkl HX.out⟩
          case measure => simp [intOf]; omega
    · go_wp2
      go_ret
      exact ⟨ret_int (by rw [fold_end HM (by have := HL.out; omega)]), rfl⟩
set_option maxHeartbeats 4000000 in
set_option maxRecDepth 100000 in
theorem refIsName_big (w : World) (s : List UInt8) (hn : s.length ≤ 9223372036854775807) : Calls Try.prog 12 #[.string ⟨s.toArray⟩] w fun e w' => e = .returned (.bool (nameOk s)) ∧ w' = w := by
  obtain ⟨n, hN⟩ : ∃ n, n = s.length := ⟨_, rfl⟩
  have HLn := Lib.hid hN
  rw [← hN] at hn
  obtain ⟨r, hr⟩ : ∃ r, r = nameOk s := ⟨_, rfl⟩
  rw [← hr]
  have HR := Lib.hid hr
  have hsz : (⟨s.toArray⟩ : ByteArray).size = n := by rw [hN]; simp [ByteArray.size]
  clear hr hN
  go_enter Try.func12, Try.ntmps12
  go_wp2_with fail
  go_loopg [3] n (fun gn i wr => ∃ j : Nat, j ≤ n ∧ gn = n - j ∧ i = .int .i64 j ∧ Hid (∀ k (h : k < s.length), k < j → wordB (s[k]).toNat = true) ∧ wr = w)
  case atStart => exact ⟨0, by omega, by omega, by go_num, Lib.hid (fun k h h0 => by omega), rfl⟩
  case round =>
    obtain ⟨j, hj, rfl, rfl, HG, rfl⟩ := hrel
    by_cases hlt : j < n
    · have j1 : (j : Int) < n := by omega
      go_upto_region 5 with fail
      have hjs : j < s.length := by rw [← HLn.out]; exact hlt
      generalize hc0 : (({ data := s.toArray } : ByteArray)[j]'(by rw [hsz]; exact hlt)).toNat = c
      have hc1 : (s[j]'hjs).toNat = c := hc0
      have HF := Lib.hid (show wordB c = false → r = false from fun h => by rw [HR.out]; exact nameOk_bad j hjs (by rw [hc1]; exact h))
      have HM := Lib.hid (show wordB c = true → ∀ k (h : k < s.length), k < j + 1 → wordB (s[k]).toNat = true from fun h k hk hk2 => by
        rcases Nat.lt_or_ge k j with h1 | h1
        · exact HG.out k hk h1
        · obtain rfl : k = j := by omega
          rw [hc1]; exact h)
      have hc2 : c < 256 := by rw [← hc1]; exact (s[j]'hjs).toNat_lt
      clear hc0 hc1 hjs
      go_wp2_with fail
      all_goals first
        | (go_ret
           exact ⟨ret_boolE (HF.out (by unfold wordB; rw [Bool.eq_false_iff]; simp only [Bool.or_eq_true, Bool.and_eq_true, decide_eq_true_eq, beq_iff_eq, Bool.not_eq_true', Bool.not_eq_false', decide_eq_false_iff_not, beq_eq_false_iff_ne, ne_eq] at *; omega)).symm, rfl⟩)
        | (go_roundg (n - (j + 1))
           case measure => omega
           case rel => exact ⟨j + 1, by omega, rfl, by go_num, Lib.hid (HM.out (by unfold wordB; simp only [Bool.or_eq_true, Bool.and_eq_true, decide_eq_true_eq, beq_iff_eq, Bool.not_eq_true', Bool.not_eq_false', decide_eq_false_iff_not, beq_eq_false_iff_ne, ne_eq] at *; omega)), rfl⟩)
    · obtain rfl : j = n := by omega
      have HQ := Lib.hid (show r = (decide (1 ≤ j) && decide (j ≤ 64)) from by rw [HR.out, nameOk_good (fun k hk => HG.out k hk (by rw [HLn.out]; exact hk)), ← HLn.out])
      by_cases h1 : 1 ≤ j
      · have e1 : decide ((1 : Int) ≤ j) = true := by simp; omega
        have HQ2 := Lib.hid (show r = decide ((j : Int) ≤ 64) by rw [HQ.out, decide_eq_true h1, Bool.true_and]; exact decide_eq_decide.2 (by omega))
        clear h1
        go_wp2_with fail
        go_ret
        exact ⟨ret_boolE HQ2.out.symm, rfl⟩
      · have e1 : decide ((1 : Int) ≤ j) = false := by simp; omega
        have HQ2 := Lib.hid (show r = false by rw [HQ.out, decide_eq_false h1, Bool.false_and])
        clear h1
        go_wp2_with fail
        go_ret
        exact ⟨ret_boolE HQ2.out.symm, rfl⟩
theorem refSum32_nb (w : World) (a : Option Addr) (n cap : Nat) (bs : List UInt8) (hb : Bs w a n bs) (hn : n ≤ 1048576) :
    Calls Try.prog 22 #[.slice a n cap] w fun e w' => e = .returned (.int .u32 (sumN bs : Int)) ∧ w = w' := by
  have h := refSum32_big w a n cap bs hb hn
  rwa [sumN_int] at h
theorem putB_oneJ (v : Nat) (h : v < 256) : putB v 1 = [UInt8.ofNat v] := by
  simp [putB, Nat.mod_eq_of_lt h]
theorem again_at {F : List IW} {i : Nat} {nm : List UInt8} (h : againB F i nm = true) : ∃ k f, k < i ∧ F[k]? = some f ∧ f.name = nm := by
  unfold againB at h
  rw [List.any_eq_true] at h
  obtain ⟨x, hx, he⟩ := h
  obtain ⟨k, hk, rfl⟩ := List.mem_take_iff_getElem.1 hx
  exact ⟨k, _, by omega, List.getElem?_eq_getElem (by omega), by simpa using he⟩
theorem apart_bad {F : List IW} {i : Nat} {g : IW} (hg : F[i]? = some g) (h : againB F i g.name = true) : apartB (F.map IW.iv) = false := by
  obtain ⟨k, f, hk, hf, he⟩ := again_at h
  obtain ⟨hi, hge⟩ := List.getElem?_eq_some_iff.1 hg
  obtain ⟨hkl, hfe⟩ := List.getElem?_eq_some_iff.1 hf
  unfold apartB
  rw [decide_eq_false_iff_not]
  intro hn
  have h1 := List.pairwise_iff_getElem.1 hn k i (by simpa using hkl) (by simpa using hi) hk
  apply h1
  simp only [List.getElem_map, hfe, hge]
  exact he
theorem apart_good {F : List IW} (h : ∀ i g, F[i]? = some g → againB F i g.name = false) : apartB (F.map IW.iv) = true := by
  unfold apartB
  rw [decide_eq_true_iff]
  refine List.pairwise_iff_getElem.2 fun k i hk hi hki he => ?_
  simp only [List.length_map] at hk hi
  simp only [List.getElem_map] at he
  have h1 := h i F[i] (List.getElem?_eq_getElem hi)
  have h2 := again_yes (F := F) (i := i) (nm := F[i].name) hki (List.getElem?_eq_getElem hk) he
  rw [h1] at h2
  cases h2
theorem own_ne_item {w : World} {B : Nat} {v : Value} {n b : Nat} {xs : List Value} {nm : List UInt8} {a : Option Addr} {k c : Nat} (h : w.ownsRow B 5 1 v n xs) (hi : IBlk w b nm a k c) : some b ≠ v.ownBlock := by
  intro he
  rcases h.2 with ⟨rfl, _⟩ | ⟨g, cap, cur, rfl, hb, hg, _⟩
  · cases he
  · cases he
    unfold IBlk at hi
    rw [hi] at hg
    cases hg
theorem IBlk.grownB {w w' : World} {row : Option Nat} {b : Nat} {nm : List UInt8} {a : Option Addr} {n c : Nat} (h : IBlk w b nm a n c) (hg : w.grownBy w' row) (hne : some b ≠ row) : IBlk w' b nm a n c := by
  unfold IBlk
  rw [hg.block b (Array.getElem?_eq_some_iff.1 h).1 hne]
  exact h
theorem jarN_pre {w : World} {B : Nat} {v : Value} {m c : Nat} {l : List IV} (h : w.ownsRow B 5 1 v m ((magicB ++ [UInt8.ofNat c] ++ l.flatMap IV.bytes).map encB)) : jarN l = m := by
  have h1 := h.1
  have h4 := jar_length l
  unfold jarB at h4
  simp only [List.length_append, List.length_map, List.length_cons, List.length_nil, Nat.mul_one] at h1 h4
  omega
end Go.Proofs.Ytaedohlfcbppaaa
