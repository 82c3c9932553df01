/- utf: the reference's Plain, Same, Decode. No condition. -/
import Derived.Test.YtmchpkjhengjoaaUtfFn2
namespace Go.Proofs.Ytmchpkjhengjoaa
open Go.ChangeShapes Go.WideShapes Go.ChangeAt Go.RowKit
attribute [local go_sem ↓] Go.wp_at_zero Go.wp_at_succ

theorem any_take {p : UInt8 → Bool} {bs : List UInt8} (h : ∀ j (h' : j < bs.length), p bs[j] = false) : bs.any p = false := by
  rw [List.any_eq_false]
  intro x hx
  obtain ⟨j, hj, rfl⟩ := List.mem_iff_getElem.1 hx
  simp [h j hj]

set_option maxRecDepth 100000 in
set_option maxHeartbeats 2000000 in
theorem refPlain_any (w : World) (a : Option Addr) (n cap : Nat) (bs : List UInt8) (hs : Sl encB w a n bs) (hn : n ≤ 65536) :
    Calls Try.prog 14 #[.slice a n cap] w fun e w' => e = .returned (.bool (!bs.any oddB)) ∧ w = w' := by
  have HS := Lib.hid hs
  clear hs
  go_enter Try.func14, Try.ntmps14
  go_wp2
  go_loop [7] (fun i => ∃ k : Nat, k ≤ n ∧ i = .int .i64 k ∧ Hid (∀ j (h : j < k) (h' : j < bs.length), oddB bs[j] = false)) (fun i => n - (intOf i).toNat)
  case atStart => exact ⟨0, Nat.zero_le _, rfl, fun j h => by omega⟩
  case round =>
    obtain ⟨k, hk, rfl, HN⟩ := hrel
    by_cases hlt : k < n
    · obtain ⟨b, off, rfl, hbl, hc⟩ := HS.out.2 (by omega)
      have hkl : k < bs.length := by rw [HS.out.1]; exact hlt
      have hck : w.cell? ⟨b, off + k, none⟩ = some (.int .u8 (bs[k].toNat : Int)) := hc k hkl
      have hu := u8_lt bs[k]
      obtain ⟨c, hcq⟩ : ∃ c, c = bs[k].toNat := ⟨_, rfl⟩
      rw [← hcq] at hck hu
      have HC := Lib.hid hcq
      clear hc hbl hcq
      by_cases h1 : 1 ≤ c
      · by_cases h2 : c ≤ 127
        · go_wp2_with fail
          go_round
          case rel => exact ⟨k + 1, by omega, by go_num, fun j hj hj' => by
            by_cases h : j = k
            · subst h; unfold oddB; rw [← HC.out]; simp; omega
            · exact HN.out j (by omega) hj'⟩
          case measure => simp [intOf]; omega
        · go_wp2_with fail
          go_ret
          exact ⟨by rw [List.any_eq_true.2 ⟨bs[k], List.getElem_mem hkl, by unfold oddB; rw [← HC.out]; simp; omega⟩]; rfl, rfl⟩
      · obtain rfl : c = 0 := by omega
        go_wp2_with fail
        go_ret
        exact ⟨by rw [List.any_eq_true.2 ⟨bs[k], List.getElem_mem hkl, by unfold oddB; rw [← HC.out]; simp⟩]; rfl, rfl⟩
    · go_wp2
      go_ret
      exact ⟨by rw [any_take (fun j hj => HN.out j (by have := HS.out.1; omega) hj)]; rfl, rfl⟩

theorem same_list {us vs : List UInt16} (hl : us.length = vs.length) (h : ∀ j (h1 : j < us.length) (h2 : j < vs.length), us[j] = vs[j]) : decide (us = vs) = true := by
  simp only [decide_eq_true_eq]
  exact List.ext_getElem hl (fun i h1 h2 => h i h1 h2)

set_option maxRecDepth 100000 in
set_option maxHeartbeats 2000000 in
theorem Same_any (w : World) (a : Option Addr) (n cap : Nat) (us : List UInt16) (b : Option Addr) (m capb : Nat) (vs : List UInt16) (hs : Sl encU w a n us) (ht : Sl encU w b m vs) (hn : n ≤ 65536) (hm : m ≤ 65536) :
    Calls Try.prog 11 #[.slice a n cap, .slice b m capb] w fun e w' => e = .returned (.bool (decide (us = vs))) ∧ Below w.heap.size w w' := by
  have HS := Lib.hid hs
  have HT := Lib.hid ht
  clear hs ht
  by_cases hnm : n = m
  · subst hnm
    go_enter Try.func11, Try.ntmps11
    go_wp2
    go_loopw [13] (fun i wr => ∃ k : Nat, k ≤ n ∧ i = .int .i64 k ∧ Hid (Below w.heap.size w wr) ∧ Hid (∀ j (h : j < k) (h1 : j < us.length) (h2 : j < vs.length), us[j] = vs[j])) (fun i _ => n - (intOf i).toNat)
    case atStart => exact ⟨0, Nat.zero_le _, rfl, Below.refl _ _, fun j h => by omega⟩
    case round =>
      obtain ⟨k, hk, rfl, HW, HN⟩ := hrel
      by_cases hlt : k < n
      · obtain ⟨b1, off1, rfl, hbl, hc⟩ := (HS.out.below HW.out).2 (by omega)
        obtain ⟨b2, off2, rfl, hbl2, hc2⟩ := (HT.out.below HW.out).2 (by omega)
        have hkl : k < us.length := by rw [HS.out.1]; exact hlt
        have hkl2 : k < vs.length := by rw [HT.out.1]; exact hlt
        have hck : wr.cell? ⟨b1, off1 + k, none⟩ = some (.int .u16 (us[k].toNat : Int)) := hc k hkl
        have hck2 : wr.cell? ⟨b2, off2 + k, none⟩ = some (.int .u16 (vs[k].toNat : Int)) := hc2 k hkl2
        obtain ⟨x, hx⟩ : ∃ c, c = us[k].toNat := ⟨_, rfl⟩
        obtain ⟨y, hy⟩ : ∃ c, c = vs[k].toNat := ⟨_, rfl⟩
        rw [← hx] at hck
        rw [← hy] at hck2
        have HX := Lib.hid hx
        have HY := Lib.hid hy
        clear hc hbl hc2 hbl2 hx hy
        have g1 : (0 : Int) ≤ (k : Int) := by omega
        have g2 : (k : Int) < (n : Int) := by omega
        by_cases hxy : x = y
        · subst hxy
          go_wp2_with fail
          go_quiet (fail)
          go_wp2_with fail
          go_roundw
          case rel => exact ⟨k + 1, by omega, by go_num, bdrewN HW.out _, fun j hj h1 h2 => by
            by_cases h : j = k
            · subst h; exact UInt16.toNat_inj.1 (HX.out.symm.trans HY.out)
            · exact HN.out j (by omega) h1 h2⟩
          case measure => simp [intOf]; omega
        · have hne : ((x : Int) != (y : Int)) = true := by simp; omega
          have HXY := Lib.hid hxy
          clear hxy
          go_wp2_with fail
          go_quiet (fail)
          go_wp2_with fail
          go_ret
          exact ⟨by rw [decide_eq_false (by intro h; subst h; exact HXY.out (HX.out.trans HY.out.symm))]; rfl, bdrewN HW.out _⟩
      · go_wp2
        go_ret
        exact ⟨by rw [same_list (by rw [HS.out.1, HT.out.1]) (fun j h1 h2 => HN.out j (by have := HS.out.1; omega) h1 h2)]; rfl, HW.out⟩
  · have hne : ((n : Int) != (m : Int)) = true := by simp; omega
    have HNM := Lib.hid hnm
    clear hnm
    go_enter Try.func11, Try.ntmps11
    go_wp2
    go_ret
    exact ⟨by rw [decide_eq_false (by intro h; exact HNM.out (by rw [← HS.out.1, ← HT.out.1, h]))]; rfl, Below.refl _ _⟩

end Go.Proofs.Ytmchpkjhengjoaa
