/- utf: the walks of the program's functions and the reference's. No condition. -/
import Derived.Test.YtlfoedagcagpgaaUtfPlain
import Derived.Test.YtlfoedagcagpgaaBits
namespace Go.Proofs.Ytlfoedagcagpgaa
open Go.ChangeShapes Go.WideShapes Go.ChangeAt Go.RowKit
theorem oneB : OneE 35 5 (.int .u8 0) 1 := ⟨Try.underlying35, by kernel_rfl, rfl⟩
theorem oneU : OneE 55 63 (.int .u16 0) 2 := ⟨Try.underlying55, by kernel_rfl, rfl⟩

set_option maxRecDepth 100000 in
set_option maxHeartbeats 1000000 in
theorem refunit_any (w : World) (u : Nat) (h1 : u < 65536) :
    Calls Try.prog 36 #[.int .u16 u] w (OwnRet encB 5 w.heap.size w (unitB u)) := by
  by_cases c1 : 1 ≤ u ∧ u < 128
  · have hU := unitB_one c1.1 c1.2
    have HU := Lib.hid hU
    obtain ⟨c1, c2⟩ := c1
    clear hU
    go_enter Try.func36, Try.ntmps36
    go_wp2
    go_ret
    exact ⟨_, 1, rfl, by rw [HU.out]; exact World.ownsRow_lit w #[.int .u8 (u : Int)] 1 (Nat.le_refl _) (by decide) rfl, (Below.refl _ _).alloc (Nat.le_refl _) _⟩
  by_cases c2 : u < 2048
  · have hU := unitB_two c1 c2
    have HU := Lib.hid hU
    clear hU
    by_cases c0 : u = 0
    · subst c0
      go_enter Try.func36, Try.ntmps36
      go_wp2
      go_ret
      exact ⟨_, 2, rfl, by rw [HU.out]; exact World.ownsRow_lit w #[.int .u8 192, .int .u8 128] 2 (Nat.le_refl _) (by decide) rfl, (Below.refl _ _).alloc (Nat.le_refl _) _⟩
    · have c4 : ¬ u ≤ 127 := by omega
      go_enter Try.func36, Try.ntmps36
      go_wp2
      go_ret
      exact ⟨_, 2, rfl, by rw [HU.out]; exact World.ownsRow_lit w #[.int .u8 (192 + (u : Int) / 64), .int .u8 (128 + (u : Int) % 64)] 2 (Nat.le_refl _) (by decide) rfl, (Below.refl _ _).alloc (Nat.le_refl _) _⟩
  · have hU := unitB_three c2 h1
    have HU := Lib.hid hU
    have c4 : ¬ u ≤ 127 := by omega
    clear hU
    go_enter Try.func36, Try.ntmps36
    go_wp2
    go_ret
    exact ⟨_, 3, rfl, by rw [HU.out]; exact World.ownsRow_lit w #[.int .u8 (224 + (u : Int) / 4096), .int .u8 (128 + (u : Int) / 64 % 64), .int .u8 (128 + (u : Int) % 64)] 3 (Nat.le_refl _) (by decide) rfl, (Below.refl _ _).alloc (Nat.le_refl _) _⟩

set_option maxRecDepth 100000 in
set_option maxHeartbeats 1000000 in
theorem tail_any (w : World) (a : Option Addr) (n cap : Nat) (bs : List UInt8) (i : Nat) (hs : Sl encB w a n bs) (hn : n ≤ 65536) (hi : i ≤ 65536) :
    Calls Try.prog 38 #[.slice a n cap, .int .i64 i] w fun e w' => e = .returned (.tuple #[.int .u16 ((tailN bs i).1 : Nat), .bool (tailN bs i).2]) ∧ w = w' := by
  have HS := Lib.hid hs
  clear hs
  by_cases hin : i < n
  · obtain ⟨b, off, rfl, hbl, hc⟩ := HS.out.2 (by omega)
    have hil : i < bs.length := by rw [HS.out.1]; exact hin
    have hck : w.cell? ⟨b, off + i, none⟩ = some (.int .u8 (bs[i].toNat : Int)) := hc i hil
    have hT : tailN bs i = if bs[i].toNat / 64 = 2 then (bs[i].toNat % 64, true) else (0, false) := by
      unfold tailN; rw [List.getElem?_eq_getElem hil]
    obtain ⟨c, hcq⟩ : ∃ c, c = bs[i].toNat := ⟨_, rfl⟩
    have hc2 : c < 256 := by have := bs[i].toNat_lt; omega
    rw [← hcq] at hck hT
    have HT := Lib.hid hT
    clear hT hcq hc hbl
    by_cases h2 : c / 64 = 2
    · have HH := Lib.hid h2
      have h3 : ((c : Int) / 64 != 2) = false := by simp; omega
      clear h2
      go_enter Try.func38, Try.ntmps38
      go_wp2
      go_ret2
      exact ⟨by rw [HT.out, if_pos HH.out]; rfl, rfl⟩
    · have HH := Lib.hid h2
      have h3 : ((c : Int) / 64 != 2) = true := by simp; omega
      clear h2
      go_enter Try.func38, Try.ntmps38
      go_wp2
      go_ret2
      exact ⟨by rw [HT.out, if_neg HH.out]; rfl, rfl⟩
  · have hT : tailN bs i = (0, false) := by
      unfold tailN; rw [List.getElem?_eq_none (by rw [HS.out.1]; omega)]
    have HT := Lib.hid hT
    clear hT
    go_enter Try.func38, Try.ntmps38
    go_wp2
    go_ret2
    exact ⟨by rw [HT.out]; rfl, rfl⟩

/-- 'take' on bytes that are not none. -/
def TakeRet (w : World) (p : Nat × Nat) (e : Ending) (w' : World) : Prop := e = .returned (.tuple #[.int .u16 (p.1 : Nat), .int .i64 (p.2 : Nat)]) ∧ w = w'

set_option maxRecDepth 100000 in
set_option maxHeartbeats 2000000 in
theorem take_any (w : World) (a : Option Addr) (n cap : Nat) (bs : List UInt8) (hs : Sl encB w a n bs) (hn : n ≤ 65536) (hp : 0 < n) :
    Calls Try.prog 37 #[.slice a n cap] w (TakeRet w (takeN bs)) := by
  have HS := Lib.hid hs
  clear hs
  obtain ⟨b, off, rfl, hbl, hc⟩ := HS.out.2 hp
  have hil : 0 < bs.length := by rw [HS.out.1]; exact hp
  have hck : w.cell? ⟨b, off, none⟩ = some (.int .u8 (bs[0].toNat : Int)) := hc 0 hil
  have hx := tailN_lt bs 1
  have hy := tailN_lt bs 2
  have hT : takeN bs = takeOf bs[0].toNat (tailN bs 1).1 (tailN bs 1).2 (tailN bs 2).1 (tailN bs 2).2 := by
    unfold takeN; rw [List.getElem?_eq_getElem hil]; rfl
  have t1 := fun w' hh => tail_any w' (some ⟨b, off, none⟩) n cap bs 1 hh hn (by decide)
  have t2 := fun w' hh => tail_any w' (some ⟨b, off, none⟩) n cap bs 2 hh hn (by decide)
  obtain ⟨c, hcq⟩ : ∃ c, c = bs[0].toNat := ⟨_, rfl⟩
  have hc2 : c < 256 := by have := bs[0].toNat_lt; omega
  rw [← hcq] at hck hT
  obtain ⟨x, hxq⟩ : ∃ x, x = (tailN bs 1).1 := ⟨_, rfl⟩
  obtain ⟨one, h1q⟩ : ∃ x, x = (tailN bs 1).2 := ⟨_, rfl⟩
  obtain ⟨y, hyq⟩ : ∃ x, x = (tailN bs 2).1 := ⟨_, rfl⟩
  obtain ⟨both, h2q⟩ : ∃ x, x = (tailN bs 2).2 := ⟨_, rfl⟩
  rw [← hxq] at hx hT t1
  rw [← h1q] at hT t1
  rw [← hyq] at hy hT t2
  rw [← h2q] at hT t2
  have T1 := Lib.hid t1
  have T2 := Lib.hid t2
  rw [hT]
  clear hxq h1q hyq h2q hcq hc hbl hT t1 t2
  have o1 := or16_join (x := c % 32 * 64) (y := x) 6 (by omega) (by omega) (by omega)
  have o2 := or16_join (x := c % 16 * 4096) (y := x * 64) 12 (by omega) (by omega) (by omega)
  have o3 := or16_join (x := c % 16 * 4096 + x * 64) (y := y) 6 (by omega) (by omega) (by omega)
  push_cast at o1 o2 o3
  have a1 := u8_and15 (x := (c : Int)) (by omega) (by omega)
  go_enter Try.func37, Try.ntmps37
  go_wp2_with fail
  refine (T1.out _ HS.out).mono ?_
  rintro e w1 ⟨rfl, rfl⟩
  go_wp2_with fail
  refine (T2.out _ HS.out).mono ?_
  rintro e w1 ⟨rfl, rfl⟩
  clear T1 T2
  by_cases c1 : c ≠ 0 ∧ c < 128
  · have HR := Lib.hid (show takeOf c x one y both = (c, 1) by unfold takeOf; rw [if_pos c1])
    obtain ⟨c1, c2⟩ := c1
    have c3 : ((c : Int) != 0) = true := by simp; omega
    clear c1
    go_wp2
    go_ret2
    exact ⟨by rw [HR.out]; rfl, rfl⟩
  have HN := Lib.hid c1
  by_cases c0 : c = 0
  · subst c0
    have HR := Lib.hid (show takeOf 0 x one y both = (0, 0) by unfold takeOf; simp)
    clear c1
    go_wp2
    go_ret2
    exact ⟨by rw [HR.out]; rfl, rfl⟩
  have c2 : 128 ≤ c := by omega
  have c3 : ((c : Int) != 0) = true := by simp; omega
  clear c1 c0
  by_cases c6 : c / 32 = 6
  · have h6 : ((c : Int) / 32 == 6) = true := by simp; omega
    have h14 : ((c : Int) / 16 == 14) = false := by simp; omega
    have H6 := Lib.hid c6
    have H14 := Lib.hid (show ¬ c / 16 = 14 by omega)
    clear c6
    cases one
    · have HR := Lib.hid (show takeOf c x false y both = (0, 0) by unfold takeOf; rw [if_neg HN.out, if_neg (by simp), if_neg (by simp)])
      go_wp2
      go_ret2
      exact ⟨by rw [HR.out]; rfl, rfl⟩
    · by_cases u0 : c % 32 * 64 + x = 0
      · have HR := Lib.hid (show takeOf c x true y both = (c % 32 * 64 + x, 2) by unfold takeOf; rw [if_neg HN.out, if_pos ⟨H6.out, rfl⟩, if_pos (.inl u0)])
        have u1 : (((c : Int) % 32 * 64 + x == 0)) = true := by simp; omega
        clear u0
        go_wp2
        go_ret2
        exact ⟨by rw [HR.out]; rfl, rfl⟩
      · have u1 : (((c : Int) % 32 * 64 + x == 0)) = false := by simp; omega
        have HU := Lib.hid u0
        clear u0
        by_cases u2 : 128 ≤ c % 32 * 64 + x
        · have HR := Lib.hid (show takeOf c x true y both = (c % 32 * 64 + x, 2) by unfold takeOf; rw [if_neg HN.out, if_pos ⟨H6.out, rfl⟩, if_pos (.inr u2)])
          go_wp2
          go_ret2
          exact ⟨by rw [HR.out]; rfl, rfl⟩
        · have HR := Lib.hid (show takeOf c x true y both = (0, 0) by unfold takeOf; rw [if_neg HN.out, if_pos ⟨H6.out, rfl⟩, if_neg (by have := HU.out; omega)])
          go_wp2
          go_ret2
          exact ⟨by rw [HR.out]; rfl, rfl⟩
  · have h6 : ((c : Int) / 32 == 6) = false := by simp; omega
    have H6 := Lib.hid c6
    clear c6
    by_cases c14 : c / 16 = 14
    · have h14 : ((c : Int) / 16 == 14) = true := by simp; omega
      have H14 := Lib.hid c14
      clear c14
      cases one
      · have HR := Lib.hid (show takeOf c x false y both = (0, 0) by unfold takeOf; rw [if_neg HN.out, if_neg (by simp), if_neg (by simp)])
        go_wp2
        go_ret2
        exact ⟨by rw [HR.out]; rfl, rfl⟩
      cases both
      · have HR := Lib.hid (show takeOf c x true y false = (0, 0) by unfold takeOf; rw [if_neg HN.out, if_neg (by simp [H6.out]), if_neg (by simp)])
        go_wp2
        go_ret2
        exact ⟨by rw [HR.out]; rfl, rfl⟩
      by_cases u2 : 2048 ≤ c % 16 * 4096 + x * 64 + y
      · have HR := Lib.hid (show takeOf c x true y true = (c % 16 * 4096 + x * 64 + y, 3) by unfold takeOf; rw [if_neg HN.out, if_neg (by simp [H6.out]), if_pos ⟨H14.out, rfl, rfl⟩, if_pos u2])
        go_wp2
        go_ret2
        exact ⟨by rw [HR.out]; rfl, rfl⟩
      · have HR := Lib.hid (show takeOf c x true y true = (0, 0) by unfold takeOf; rw [if_neg HN.out, if_neg (by simp [H6.out]), if_pos ⟨H14.out, rfl, rfl⟩, if_neg u2])
        go_wp2
        go_ret2
        exact ⟨by rw [HR.out]; rfl, rfl⟩
    · have h14 : ((c : Int) / 16 == 14) = false := by simp; omega
      have HR := Lib.hid (show takeOf c x one y both = (0, 0) by unfold takeOf; rw [if_neg HN.out, if_neg (by simp [H6.out]), if_neg (by simp [c14])])
      clear c14
      go_wp2
      go_ret2
      exact ⟨by rw [HR.out]; rfl, rfl⟩
end Go.Proofs.Ytlfoedagcagpgaa
