/- nor: what the statements ask of a flash. Plain. No condition. -/
import Derived.Test.YtdnnodpchjnleaaNorPlain
namespace Go.Proofs.Ytdnnodpchjnleaa
namespace Fl
theorem read_down {f : Fl} (h : f.down = true) (p n : Int) : f.readE p n = 5 := by unfold readE; rw [if_pos h]
theorem prog_down {f : Fl} (h : f.down = true) (p : Int) (b : List UInt8) : f.progE p b = 5 ∧ f.prog p b = f := by
  unfold progE prog progs
  rw [if_pos h, h]
  exact ⟨rfl, rfl⟩
theorem erase_down {f : Fl} (h : f.down = true) (s : Int) : f.eraseE s = 5 ∧ f.erase s = f := by
  unfold eraseE erase erases
  rw [if_pos h, h]
  exact ⟨rfl, rfl⟩
theorem progs_true {f : Fl} {p : Int} {b : List UInt8} (hd : f.down = false) (ht : f.there p b.length) (hf : f.fits p.toNat b = true) : f.progs p b = true := by
  unfold progs; rw [hd, hf]; simp [ht]
theorem prog_whole {f : Fl} {p : Int} {b : List UInt8} (hd : f.down = false) (ht : f.there p b.length) (hf : f.fits p.toNat b = true) (hw : f.left ≠ 0) :
    f.progE p b = 0 ∧ f.prog p b = { f.tick with bs := lay f.bs p.toNat b } := by
  have hw' : f.whole = true := by unfold whole; simpa using hw
  unfold progE prog
  rw [if_neg (by rw [hd]; decide), if_pos ht, if_pos hf, if_pos hw', if_pos (progs_true hd ht hf)]
  refine ⟨rfl, ?_⟩
  unfold progB
  rw [if_pos hw']
theorem prog_torn {f : Fl} {p : Int} {b : List UInt8} (hd : f.down = false) (ht : f.there p b.length) (hf : f.fits p.toNat b = true) (hw : f.left = 0) :
    f.progE p b = 5 ∧ f.prog p b = { f with down := true, bs := f.progB p.toNat b } := by
  have hw' : ¬ f.whole = true := by unfold whole; simpa using hw
  unfold progE prog
  rw [if_neg (by rw [hd]; decide), if_pos ht, if_pos hf, if_neg hw', if_pos (progs_true hd ht hf)]
  refine ⟨rfl, ?_⟩
  unfold tick
  rw [if_pos hw]
theorem fits_zero (f : Fl) (p n : Nat) : f.fits p (List.replicate n 0) = true := by
  unfold fits
  rw [List.all_eq_true]
  intro i _
  by_cases h : i < n <;> simp [List.getD, List.getElem?_replicate, h]
theorem lay_take {xs : List UInt8} {p k : Nat} {b : List UInt8} (h : k ≤ p) (hp : p ≤ xs.length) : (lay xs p b).take k = xs.take k := by
  unfold lay
  rw [List.append_assoc, List.take_append_of_le_length (by simp; omega), List.take_take, Nat.min_eq_left h]
theorem progB_take {f : Fl} {p k : Nat} {b : List UInt8} (h : k ≤ p) (hp : p ≤ f.bs.length) : (f.progB p b).take k = f.bs.take k := by
  unfold progB
  split
  · exact lay_take h hp
  · simp only
    split
    · rw [List.take_set_of_le (by omega)]; exact lay_take h hp
    · exact lay_take h hp
/-- A flash of two sectors with i bytes done out of k. -/
def fused (k i : Nat) (keep : Int) (mask : UInt8) : Fl := { S := 2, Z := 64, L := 100, bs := List.replicate i 0 ++ List.replicate (128 - i) 255, cnt := [0, 0], down := false, left := (k : Int) - i, keep := keep, mask := mask }
theorem fused_0 (k : Nat) (keep : Int) (mask : UInt8) : (mk0 2 64 100).fuse k keep mask = fused k 0 keep mask := by
  unfold fuse fused mk0
  simp
  omega
theorem fused_step (k i : Nat) (keep : Int) (mask : UInt8) (hi : i < k) (hk : k ≤ 29) : (fused k i keep mask).progE i [0] = 0 ∧ (fused k i keep mask).prog i [0] = fused k (i + 1) keep mask := by
  have h := prog_whole (f := fused k i keep mask) (p := i) (b := [0]) rfl (by unfold there fused; simp; omega) (fits_zero _ _ 1) (by show (k : Int) - i ≠ 0; omega)
  refine ⟨h.1, ?_⟩
  rw [h.2]
  unfold tick
  rw [if_neg (by show ¬ (k : Int) - i = 0; omega), if_pos (by show 0 < (k : Int) - i; omega)]
  have e1 : lay (List.replicate i (0 : UInt8) ++ List.replicate (128 - i) 255) i [0] = List.replicate (i + 1) 0 ++ List.replicate (128 - (i + 1)) 255 := by
    unfold lay
    rw [List.take_left' (by simp)]
    rw [show i + ([0] : List UInt8).length = i + 1 from rfl, List.drop_append, List.drop_of_length_le (by simp), List.nil_append]
    simp [List.replicate_succ', Nat.sub_sub]
  unfold fused
  simp only [Int.toNat_natCast, e1]
  congr 1
  omega
theorem fused_torn (k : Nat) (keep : Int) (mask : UInt8) (hk : k ≤ 29) : (fused k k keep mask).progE 100 [0] = 5 ∧
    ((fused k k keep mask).prog 100 [0]).down = true ∧ ((fused k k keep mask).prog 100 [0]).bs.length = 128 ∧ ((fused k k keep mask).prog 100 [0]).bs.take k = List.replicate k 0 := by
  have hl : (fused k k keep mask).bs.length = 128 := by unfold fused; simp; omega
  have h := prog_torn (f := fused k k keep mask) (p := 100) (b := [0]) rfl (by unfold there; rw [hl]; simp) (fits_zero _ _ 1) (by show (k : Int) - k = 0; omega)
  refine ⟨h.1, by rw [h.2], ?_, ?_⟩
  · rw [h.2]
    show ((fused k k keep mask).progB (100 : Int).toNat [0]).length = 128
    rw [progB_length _ _ _ (by rw [hl]; decide), hl]
  · rw [h.2]
    show ((fused k k keep mask).progB (100 : Int).toNat [0]).take k = _
    rw [progB_take (by show k ≤ 100; omega) (by rw [hl]; decide)]
    show (List.replicate k (0 : UInt8) ++ _).take k = _
    exact List.take_left' (by simp)
theorem fused_end {f : Fl} (k : Nat) (hk : k ≤ 29) (hl : f.bs.length = 128) (ht : f.bs.take k = List.replicate k 0) : f.reset.readE 0 k = 0 ∧ f.reset.readB 0 k = List.replicate k 0 ∧ f.reset.progE 127 [0] = 0 := by
  have h1 : f.reset.readE 0 k = 0 := by
    unfold readE
    rw [if_neg (by simp [reset]), if_pos (by unfold there; simp [reset, hl]; omega)]
  refine ⟨h1, ?_, (prog_whole (f := f.reset) (p := 127) (b := [0]) rfl (by unfold there; simp [reset, hl]) (fits_zero _ _ 1) (by simp [reset])).1⟩
  unfold readB
  rw [if_pos h1]
  exact ht
end Fl
end Go.Proofs.Ytdnnodpchjnleaa
