/- nor: what a flash is, and what is done to it. Plain. No condition. -/
import Derived.Test.YtdnnodpchjnleaaLib
namespace Go.Proofs.Ytdnnodpchjnleaa
/-- A flash: its geometry, all bytes, how often each sector was erased, whether it is down, the fuse, the tear. -/
structure Fl where
  S : Nat
  Z : Nat
  L : Nat
  bs : List UInt8
  cnt : List Nat
  down : Bool
  left : Int
  keep : Int
  mask : UInt8
namespace Fl
def mk0 (S Z L : Nat) : Fl := { S := S, Z := Z, L := L, bs := List.replicate (S * Z) 255, cnt := List.replicate S 0, down := false, left := -1, keep := 0, mask := 0 }
def there (f : Fl) (p n : Int) : Prop := 0 ≤ p ∧ 0 ≤ n ∧ p ≤ f.bs.length ∧ n ≤ f.bs.length - p
instance (f : Fl) (p n : Int) : Decidable (f.there p n) := by unfold there; infer_instance
def fuse (f : Fl) (n keep : Int) (mask : UInt8) : Fl := { f with left := max n (-1), keep := keep, mask := mask }
def reset (f : Fl) : Fl := { f with down := false, left := -1 }
/-- An act is done whole. -/
def whole (f : Fl) : Bool := f.left != 0
/-- The fuse behind an act. -/
def tick (f : Fl) : Fl := if f.left = 0 then { f with down := true } else if 0 < f.left then { f with left := f.left - 1 } else f
/-- How much of n bytes is done by an act that is torn. -/
def part (f : Fl) (n : Nat) : Nat := (max f.keep 0).toNat % (n + 1)
/-- The bytes b laid over those from p on. -/
def lay (xs : List UInt8) (p : Nat) (b : List UInt8) : List UInt8 := xs.take p ++ b ++ xs.drop (p + b.length)
def readE (f : Fl) (p n : Int) : Int := if f.down = true then 5 else if f.there p n then 0 else 2
def readB (f : Fl) (p n : Int) : List UInt8 := if f.readE p n = 0 then (f.bs.drop p.toNat).take n.toNat else []
/-- Only bits from 1 to 0? -/
def fits (f : Fl) (p : Nat) (b : List UInt8) : Bool := (List.range b.length).all fun i => (b.getD i 0 &&& f.bs.getD (p + i) 0) == b.getD i 0
def progE (f : Fl) (p : Int) (b : List UInt8) : Int :=
  if f.down = true then 5 else if f.there p b.length then (if f.fits p.toNat b = true then (if f.whole = true then 0 else 5) else 3) else 2
/-- Is a program done, whole or in part? -/
def progs (f : Fl) (p : Int) (b : List UInt8) : Bool := !f.down && decide (f.there p b.length) && f.fits p.toNat b
def progB (f : Fl) (p : Nat) (b : List UInt8) : List UInt8 :=
  if f.whole = true then lay f.bs p b
  else
    let k := f.part b.length
    let xs := lay f.bs p (b.take k)
    if k < b.length then xs.set (p + k) (xs.getD (p + k) 0 &&& (b.getD k 0 ||| (255 - f.mask))) else xs
def prog (f : Fl) (p : Int) (b : List UInt8) : Fl := if f.progs p b = true then { f.tick with bs := f.progB p.toNat b } else f
def eraseE (f : Fl) (s : Int) : Int :=
  if f.down = true then 5 else if 0 ≤ s ∧ s < f.S then (if f.cnt.getD s.toNat 0 < f.L then (if f.whole = true then 0 else 5) else 4) else 2
def erases (f : Fl) (s : Int) : Bool := !f.down && decide (0 ≤ s ∧ s < f.S) && decide (f.cnt.getD s.toNat 0 < f.L)
def eraseB (f : Fl) (s : Nat) : List UInt8 :=
  let k := if f.whole = true then f.Z else f.part f.Z
  let xs := lay f.bs (s * f.Z) (List.replicate k 255)
  if k < f.Z then xs.set (s * f.Z + k) (xs.getD (s * f.Z + k) 0 ||| f.mask) else xs
def erase (f : Fl) (s : Int) : Fl := if f.erases s = true then { f.tick with bs := f.eraseB s.toNat, cnt := f.cnt.set s.toNat (f.cnt.getD s.toNat 0 + 1) } else f
def count (f : Fl) (s : Int) : Nat := if 0 ≤ s ∧ s < f.S then f.cnt.getD s.toNat 0 else 0
/-- A flash that may be. -/
structure Ok (f : Fl) : Prop where
  s1 : 1 ≤ f.S
  s2 : f.S ≤ 64
  z1 : 64 ≤ f.Z
  z2 : f.Z ≤ 65536
  l1 : 1 ≤ f.L
  l2 : f.L ≤ 1048576
  hb : f.bs.length = f.S * f.Z
  hc : f.cnt.length = f.S
  hn : ∀ i, f.cnt.getD i 0 ≤ f.L
  f1 : -1 ≤ f.left
  f2 : f.left ≤ 9223372036854775807
  k1 : -9223372036854775808 ≤ f.keep
  k2 : f.keep ≤ 9223372036854775807
theorem lay_length (xs : List UInt8) (p : Nat) (b : List UInt8) (h : p + b.length ≤ xs.length) : (lay xs p b).length = xs.length := by
  unfold lay; simp; omega
theorem mk0_ok {S Z L : Nat} (h1 : 1 ≤ S) (h2 : S ≤ 64) (h3 : 64 ≤ Z) (h4 : Z ≤ 65536) (h5 : 1 ≤ L) (h6 : L ≤ 1048576) : (mk0 S Z L).Ok :=
  ⟨h1, h2, h3, h4, h5, h6, by simp [mk0], by simp [mk0], fun i => by simp [mk0, List.getD, List.getElem?_replicate]; split <;> simp, by simp [mk0], by simp [mk0], by simp [mk0], by simp [mk0]⟩
theorem tick_fields (f : Fl) : f.tick.S = f.S ∧ f.tick.Z = f.Z ∧ f.tick.L = f.L ∧ f.tick.bs = f.bs ∧ f.tick.cnt = f.cnt ∧ f.tick.keep = f.keep ∧ f.tick.mask = f.mask := by
  unfold tick; split
  · exact ⟨rfl, rfl, rfl, rfl, rfl, rfl, rfl⟩
  · split <;> exact ⟨rfl, rfl, rfl, rfl, rfl, rfl, rfl⟩
theorem part_le (f : Fl) (n : Nat) : f.part n ≤ n := by have := Nat.mod_lt (max f.keep 0).toNat (show 0 < n + 1 by omega); unfold part; omega
theorem there_nat {f : Fl} {p : Int} {n : Nat} (h : f.there p n) : ∃ k : Nat, p = k ∧ k + n ≤ f.bs.length := by
  obtain ⟨h1, h2, h3, h4⟩ := h
  exact ⟨p.toNat, by omega, by omega⟩
theorem progB_length (f : Fl) (p : Nat) (b : List UInt8) (h : p + b.length ≤ f.bs.length) : (f.progB p b).length = f.bs.length := by
  have hp := f.part_le b.length
  have ht : (b.take (f.part b.length)).length = f.part b.length := by simp; omega
  unfold progB
  split
  · exact lay_length _ _ _ h
  · simp only
    split
    · rw [List.length_set]; exact lay_length _ _ _ (by omega)
    · exact lay_length _ _ _ (by omega)
theorem eraseB_length {f : Fl} (hf : f.Ok) (s : Nat) (hs : s < f.S) : (f.eraseB s).length = f.bs.length := by
  have hp := f.part_le f.Z
  have hz : s * f.Z + f.Z ≤ f.bs.length := by
    rw [hf.hb]
    have : (s + 1) * f.Z ≤ f.S * f.Z := Nat.mul_le_mul_right _ hs
    rw [Nat.add_mul] at this; omega
  unfold eraseB
  simp only
  have hk : (if f.whole = true then f.Z else f.part f.Z) ≤ f.Z := by split <;> omega
  generalize (if f.whole = true then f.Z else f.part f.Z) = k at hk
  have hl : (lay f.bs (s * f.Z) (List.replicate k 255)).length = f.bs.length := lay_length _ _ _ (by simp; omega)
  split
  · rw [List.length_set]; exact hl
  · exact hl
theorem tick_left {f : Fl} (h1 : -1 ≤ f.left) (h2 : f.left ≤ 9223372036854775807) : -1 ≤ f.tick.left ∧ f.tick.left ≤ 9223372036854775807 := by
  unfold tick; split
  · exact ⟨h1, h2⟩
  · split <;> constructor <;> (first | omega | (simp only []; omega))
theorem prog_ok {f : Fl} (hf : f.Ok) (p : Int) (b : List UInt8) : (f.prog p b).Ok := by
  unfold prog
  split
  · rename_i h
    simp only [progs, Bool.and_eq_true, decide_eq_true_eq] at h
    obtain ⟨k, hk, hl⟩ := there_nat h.1.2
    obtain ⟨t1, t2, t3, t4, t5, t6, t7⟩ := f.tick_fields
    have ht := tick_left hf.f1 hf.f2
    refine ⟨by simp only [t1]; exact hf.s1, by simp only [t1]; exact hf.s2, by simp only [t2]; exact hf.z1, by simp only [t2]; exact hf.z2, by simp only [t3]; exact hf.l1, by simp only [t3]; exact hf.l2, ?_, by simp only [t5, t1]; exact hf.hc, by simp only [t5, t3]; exact hf.hn, ht.1, ht.2, by simp only [t6]; exact hf.k1, by simp only [t6]; exact hf.k2⟩
    simp only [t1, t2]
    rw [progB_length _ _ _ (by rw [hk]; simpa using hl), hf.hb]
  · exact hf
theorem erase_ok {f : Fl} (hf : f.Ok) (s : Int) : (f.erase s).Ok := by
  unfold erase
  split
  · rename_i h
    simp only [erases, Bool.and_eq_true, decide_eq_true_eq] at h
    obtain ⟨⟨_, hs0, hs1⟩, hc⟩ := h
    obtain ⟨t1, t2, t3, t4, t5, t6, t7⟩ := f.tick_fields
    have ht := tick_left hf.f1 hf.f2
    refine ⟨by simp only [t1]; exact hf.s1, by simp only [t1]; exact hf.s2, by simp only [t2]; exact hf.z1, by simp only [t2]; exact hf.z2, by simp only [t3]; exact hf.l1, by simp only [t3]; exact hf.l2, ?_, by simp only [List.length_set, t1]; exact hf.hc, ?_, ht.1, ht.2, by simp only [t6]; exact hf.k1, by simp only [t6]; exact hf.k2⟩
    · simp only [t1, t2]
      rw [eraseB_length hf _ (by omega), hf.hb]
    · intro i
      simp only [t3]
      have hi := hf.hn i
      simp only [List.getD, List.getElem?_set] at hi hc ⊢
      split
      · rename_i e
        subst e
        split
        · simp; omega
        · simp
      · exact hi
  · exact hf
theorem fuse_ok {f : Fl} (hf : f.Ok) (n keep : Int) (mask : UInt8) (h2 : n ≤ 9223372036854775807) (h3 : -9223372036854775808 ≤ keep) (h4 : keep ≤ 9223372036854775807) : (f.fuse n keep mask).Ok :=
  ⟨hf.s1, hf.s2, hf.z1, hf.z2, hf.l1, hf.l2, hf.hb, hf.hc, hf.hn, by show -1 ≤ max n (-1); omega, by show max n (-1) ≤ _; omega, h3, h4⟩
theorem reset_ok {f : Fl} (hf : f.Ok) : f.reset.Ok :=
  ⟨hf.s1, hf.s2, hf.z1, hf.z2, hf.l1, hf.l2, hf.hb, hf.hc, hf.hn, by simp [reset], by simp [reset], hf.k1, hf.k2⟩
end Fl
end Go.Proofs.Ytdnnodpchjnleaa
