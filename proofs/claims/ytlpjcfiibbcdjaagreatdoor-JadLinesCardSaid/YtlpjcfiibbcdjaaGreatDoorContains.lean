/- slices.IndexFunc and ContainsFunc over bytes. No condition. -/
import Derived.Test.YtlpjcfiibbcdjaaGreatDoorNumFn
namespace Go.Proofs.YtlpjcfiibbcdjaaGreatDoor
open Go.ChangeShapes Go.WideShapes Go.ChangeAt Go.RowKit
/-- The first place at which p holds, or -1. -/
def firstAt (p : UInt8 → Bool) (bs : List UInt8) : Int := match bs.findIdx? p with | some i => i | none => -1
theorem firstAt_here {p : UInt8 → Bool} {bs : List UInt8} {k : Nat} (h : k < bs.length) (hp : p bs[k] = true) (hn : ∀ j (h : j < k) (h' : j < bs.length), p bs[j] = false) : firstAt p bs = k := by
  unfold firstAt
  rw [List.findIdx?_eq_some_iff_getElem.2 ⟨h, hp, fun j hj => by have := hn j hj (by omega); simp [this]⟩]
theorem firstAt_none {p : UInt8 → Bool} {bs : List UInt8} (hn : ∀ j (h' : j < bs.length), p bs[j] = false) : firstAt p bs = -1 := by
  unfold firstAt
  rw [List.findIdx?_eq_none_iff.2 (fun x hx => by obtain ⟨j, hj, rfl⟩ := List.mem_iff_getElem.1 hx; exact hn j hj)]

set_option maxRecDepth 100000 in
set_option maxHeartbeats 2000000 in
theorem IndexFunc_any (w : World) (a : Option Addr) (n cap : Nat) (bs : List UInt8) (f : Nat) (p : UInt8 → Bool) (hs : Sl encB w a n bs) (hn : n ≤ 65536)
    (he : ∀ (args : Array Value) (w : World), (callFunc f args).run Tryz.prog w = .ok (.enter f args) w) (hf : ∀ (w : World) (c : UInt8), Calls Tryz.prog f #[.int .u8 (c.toNat : Int)] w fun e w' => e = .returned (.bool (p c)) ∧ w = w') :
    Calls Tryz.prog 90 #[.slice a n cap, .func (.func f) #[] #[]] w fun e w' => e = .returned (.int .i64 (firstAt p bs)) ∧ w = w' := by
  have HS := Lib.hid hs
  have HF := Lib.hid hf
  clear hs hf
  go_enter Tryz.func90, Tryz.ntmps90
  go_wp2
  go_loop [8] (fun i => ∃ k : Nat, k ≤ n ∧ i = .int .i64 k ∧ Hid (∀ j (h : j < k) (h' : j < bs.length), p bs[j] = false)) (fun i => n - (intOf i).toNat)
  case atStart => exact ⟨0, Nat.zero_le _, rfl, fun j h => by omega⟩
  case round =>
    obtain ⟨k, hk, rfl, HN⟩ := hrel
    by_cases hlt : k < n
    · obtain ⟨b, off, rfl, hbl, hc⟩ := HS.out.2 (by omega)
      have hkl : k < bs.length := by rw [HS.out.1]; exact hlt
      have hck : w.cell? ⟨b, off + k, none⟩ = some (.int .u8 (bs[k].toNat : Int)) := hc k hkl
      clear hc hbl
      go_wp2_with fail
      refine (HF.out w bs[k]).mono ?_
      rintro e w1 ⟨rfl, rfl⟩
      cases hp : p bs[k]
      · have HP := Lib.hid hp
        clear hp
        go_wp2_with fail
        go_round
        case rel => exact ⟨k + 1, by omega, by go_num, fun j hj hj' => by
          by_cases h : j = k
          · subst h; exact HP.out
          · exact HN.out j (by omega) hj'⟩
        case measure => simp [intOf]; omega
      · have HP := Lib.hid hp
        clear hp
        go_wp2_with fail
        go_ret
        exact ⟨ret_int (firstAt_here hkl HP.out (fun j hj hj' => HN.out j hj hj')).symm, rfl⟩
    · go_wp2
      go_ret
      exact ⟨ret_int (firstAt_none (fun j hj => HN.out j (by have := HS.out.1; omega) hj)).symm, rfl⟩

theorem firstAt_pos (p : UInt8 → Bool) (bs : List UInt8) : decide (0 ≤ firstAt p bs) = bs.any p := by
  unfold firstAt
  cases h : bs.findIdx? p with
  | none =>
    rw [List.findIdx?_eq_none_iff] at h
    have : bs.any p = false := by rw [List.any_eq_false]; intro x hx; simp [h x hx]
    rw [this]; rfl
  | some i =>
    obtain ⟨hi, hp, _⟩ := List.findIdx?_eq_some_iff_getElem.1 h
    have : bs.any p = true := List.any_eq_true.2 ⟨_, List.getElem_mem hi, hp⟩
    rw [this]; simp
set_option maxHeartbeats 2000000 in
theorem ContainsFunc_any (w : World) (a : Option Addr) (n cap : Nat) (bs : List UInt8) (f : Nat) (p : UInt8 → Bool) (hs : Sl encB w a n bs) (hn : n ≤ 65536)
    (he : ∀ (args : Array Value) (w : World), (callFunc f args).run Tryz.prog w = .ok (.enter f args) w) (hf : ∀ (w : World) (c : UInt8), Calls Tryz.prog f #[.int .u8 (c.toNat : Int)] w fun e w' => e = .returned (.bool (p c)) ∧ w = w') :
    Calls Tryz.prog 71 #[.slice a n cap, .func (.func f) #[] #[]] w fun e w' => e = .returned (.bool (bs.any p)) ∧ w = w' := by
  have HI := Lib.hid (IndexFunc_any w a n cap bs f p hs hn he hf)
  have HP := Lib.hid (firstAt_pos p bs)
  clear hs he hf
  go_enter Tryz.func71, Tryz.ntmps71
  go_wp2_with fail
  refine HI.out.mono ?_
  rintro e w1 ⟨rfl, rfl⟩
  obtain ⟨q, hq⟩ : ∃ q, q = firstAt p bs := ⟨_, rfl⟩
  rw [← hq] at HP ⊢
  clear hq HI
  go_wp2
  go_ret
  exact ⟨by rw [← HP.out]; rfl, rfl⟩

end Go.Proofs.YtlpjcfiibbcdjaaGreatDoor
