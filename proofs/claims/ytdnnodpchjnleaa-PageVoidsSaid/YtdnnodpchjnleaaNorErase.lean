/- nor: what an erase leaves. Plain. No condition. -/
import Derived.Test.YtdnnodpchjnleaaNorFn7
namespace Go.Proofs.Ytdnnodpchjnleaa
open Go.ChangeShapes Go.WideShapes Go.ChangeAt Go.RowKit
namespace Fl
theorem lay_snoc {xs : List UInt8} {p j : Nat} (x : UInt8) (h : p + j < xs.length) : lay xs p (List.replicate (j + 1) x) = (lay xs p (List.replicate j x)).set (p + j) x := by
  apply List.ext_getElem?
  intro i
  rw [List.getElem?_set, lay_length _ _ _ (by simp; omega), lay_get (by simp; omega), lay_get (by simp; omega)]
  simp only [List.length_replicate, List.getElem?_replicate]
  by_cases h1 : i < p
  · rw [if_pos h1, if_neg (by omega), if_pos h1]
  · rw [if_neg h1, if_neg h1]
    by_cases h2 : p + j = i
    · subst h2
      rw [if_pos (by omega), if_pos (by omega), if_pos rfl, if_pos h]
    · rw [if_neg h2]
      by_cases h3 : i < p + j
      · rw [if_pos (by omega), if_pos (by omega), if_pos h3, if_pos (by omega)]
      · rw [if_neg (by omega), if_neg h3]
theorem lay_nil (xs : List UInt8) (p : Nat) : lay xs p [] = xs := by
  unfold lay; simp
theorem erase_no {f : Fl} {s : Int} (h : f.erases s = false) : f.erase s = f := by
  unfold erase; rw [if_neg (by rw [h]; decide)]
theorem erase_whole {f : Fl} {s : Int} (hd : f.down = false) (hs : 0 ≤ s ∧ s < f.S) (hc : f.cnt.getD s.toNat 0 < f.L) (hw : f.left ≠ 0) :
    f.eraseE s = 0 ∧ f.erase s = { f.tick with bs := lay f.bs (s.toNat * f.Z) (List.replicate f.Z 255), cnt := f.cnt.set s.toNat (f.cnt.getD s.toNat 0 + 1) } := by
  have hw' : f.whole = true := by unfold whole; simpa using hw
  have he : f.erases s = true := by unfold erases; rw [hd]; simp only [Bool.not_false, Bool.true_and, Bool.and_eq_true, decide_eq_true_eq]; exact ⟨hs, hc⟩
  unfold eraseE erase
  rw [if_neg (by rw [hd]; decide), if_pos hs, if_pos hc, if_pos hw', if_pos he]
  refine ⟨rfl, ?_⟩
  unfold eraseB
  simp only
  rw [if_pos hw', if_neg (by omega)]
theorem erase_torn {f : Fl} {s : Int} (hd : f.down = false) (hs : 0 ≤ s ∧ s < f.S) (hc : f.cnt.getD s.toNat 0 < f.L) (hw : f.left = 0) :
    f.eraseE s = 5 ∧ f.erase s = { f with down := true, bs := f.eraseB s.toNat, cnt := f.cnt.set s.toNat (f.cnt.getD s.toNat 0 + 1) } := by
  have hw' : ¬ f.whole = true := by unfold whole; simpa using hw
  have he : f.erases s = true := by unfold erases; rw [hd]; simp only [Bool.not_false, Bool.true_and, Bool.and_eq_true, decide_eq_true_eq]; exact ⟨hs, hc⟩
  unfold eraseE erase
  rw [if_neg (by rw [hd]; decide), if_pos hs, if_pos hc, if_neg hw', if_pos he]
  refine ⟨rfl, ?_⟩
  unfold tick
  rw [if_pos hw]
/-- The bytes behind an erase that is torn behind k. -/
theorem eraseB_torn {f : Fl} {s : Nat} (hw : f.left = 0) : f.eraseB s = (if f.part f.Z < f.Z then (lay f.bs (s * f.Z) (List.replicate (f.part f.Z) 255)).set (s * f.Z + f.part f.Z) ((lay f.bs (s * f.Z) (List.replicate (f.part f.Z) 255)).getD (s * f.Z + f.part f.Z) 0 ||| f.mask)
    else lay f.bs (s * f.Z) (List.replicate (f.part f.Z) 255)) := by
  have hw' : ¬ f.whole = true := by unfold whole; simpa using hw
  unfold eraseB
  simp only
  rw [if_neg hw']
theorem erase_done {f f1 : Fl} {s : Nat} (h : f.erases s = true) (hf1 : { f with cnt := f.cnt.set s (f.cnt.getD s 0 + 1) } = f1) :
    (f.whole = true → f.eraseE s = 0 ∧ f.erase s = { f1.tick with bs := lay f1.tick.bs (s * f.Z) (List.replicate f.Z 255) }) ∧
    (f.whole = false → f.eraseE s = 5 ∧
      (f.part f.Z < f.Z → f.erase s = { f1.tick with bs := (lay f1.tick.bs (s * f.Z) (List.replicate (f.part f.Z) 255)).set (s * f.Z + f.part f.Z) ((lay f1.tick.bs (s * f.Z) (List.replicate (f.part f.Z) 255)).getD (s * f.Z + f.part f.Z) 0 ||| f1.tick.mask) }) ∧
      (¬ f.part f.Z < f.Z → f.erase s = { f1.tick with bs := lay f1.tick.bs (s * f.Z) (List.replicate (f.part f.Z) 255) })) := by
  unfold Fl.erases at h
  simp only [Bool.and_eq_true, decide_eq_true_eq, Bool.not_eq_true'] at h
  obtain ⟨⟨hd, hs⟩, hc⟩ := h
  have ht : f1.tick = { f.tick with cnt := f.cnt.set s (f.cnt.getD s 0 + 1) } := by
    rw [← hf1]; unfold Fl.tick; simp only []; split <;> (try split) <;> rfl
  have hb : f1.tick.bs = f.bs := by rw [ht]; exact f.tick_fields.2.2.2.1
  have hm : f1.tick.mask = f.mask := by rw [ht]; exact f.tick_fields.2.2.2.2.2.2
  rw [hb, hm, ht]
  refine ⟨fun hw => ?_, fun hw => ?_⟩
  · have hw0 : f.left ≠ 0 := by intro e; unfold Fl.whole at hw; rw [e] at hw; cases hw
    exact erase_whole hd hs hc hw0
  · have hw0 : f.left = 0 := by unfold Fl.whole at hw; simpa using hw
    obtain ⟨e1, e2⟩ := erase_torn hd hs hc hw0
    have htk : f.tick = { f with down := true } := by unfold Fl.tick; rw [if_pos hw0]
    refine ⟨e1, fun h => ?_, fun h => ?_⟩
    · rw [e2, eraseB_torn hw0, Int.toNat_natCast, if_pos h, htk]
    · rw [e2, eraseB_torn hw0, Int.toNat_natCast, if_neg h, htk]
theorem Ok.withCnt {f : Fl} (h : f.Ok) {s : Nat} (hs : f.cnt.getD s 0 < f.L) : ({ f with cnt := f.cnt.set s (f.cnt.getD s 0 + 1) } : Fl).Ok := by
  refine ⟨h.s1, h.s2, h.z1, h.z2, h.l1, h.l2, h.hb, by simpa using h.hc, fun i => ?_, h.f1, h.f2, h.k1, h.k2⟩
  have hi := h.hn i
  simp only [List.getD, List.getElem?_set] at hi hs ⊢
  split
  · rename_i e
    subst e
    split
    · simp; omega
    · simp
  · exact hi
end Fl
theorem IsFl.byte {tF eb ec : TypeId} {w : World} {g gb gc cb cc : Nat} {f : Fl} (h : IsFl tF eb ec w g gb gc cb cc f) (i : Nat) (hi : i < f.bs.length) :
    w.cell? ⟨gb, i, none⟩ = some (.int .u8 ((f.bs.getD i 0).toNat : Int)) ∧ w.frozen? ⟨gb, i, none⟩ = false := by
  have hc := h.rb.cell i (by rw [← h.ok.hb]; exact hi)
  refine ⟨?_, hc.2⟩
  rw [hc.1]
  simp [List.getD, hi, encB]
theorem IsFl.setCnt {tF eb ec : TypeId} {w : World} {g gb gc cb cc : Nat} {f : Fl} (h : IsFl tF eb ec w g gb gc cb cc f) {s : Nat} (hs : f.cnt.getD s 0 < f.L) :
    IsFl tF eb ec (w.setCell ⟨gc, s, none⟩ (encI (f.cnt.getD s 0 + 1))) g gb gc cb cc { f with cnt := f.cnt.set s (f.cnt.getD s 0 + 1) } := by
  refine ⟨by rw [heap_setO h.n2]; exact h.st, h.rb.eq (heap_setO h.n3 _ _), ?_, h.n1, h.n2, h.n3, h.ok.withCnt hs⟩
  have := h.rc.set s (encI (f.cnt.getD s 0 + 1))
  rw [← List.map_set] at this
  exact this
end Go.Proofs.Ytdnnodpchjnleaa
