/- utf: the reference's Plain, Same, Decode. No condition. -/
import Derived.Test.YtlfoedagcagpgaaUtfFn2
namespace Go.Proofs.Ytlfoedagcagpgaa
open Go.ChangeShapes Go.WideShapes Go.ChangeAt Go.RowKit
attribute [local go_sem ↓] Go.wp_at_zero Go.wp_at_succ

theorem any_take {p : UInt8 → Bool} {bs : List UInt8} (h : ∀ j (h' : j < bs.length), p bs[j] = false) : bs.any p = false := by
  rw [List.any_eq_false]
  intro x hx
  obtain ⟨j, hj, rfl⟩ := List.mem_iff_getElem.1 hx
  simp [h j hj]

theorem same_list {us vs : List UInt16} (hl : us.length = vs.length) (h : ∀ j (h1 : j < us.length) (h2 : j < vs.length), us[j] = vs[j]) : decide (us = vs) = true := by
  simp only [decide_eq_true_eq]
  exact List.ext_getElem hl (fun i h1 h2 => h i h1 h2)

end Go.Proofs.Ytlfoedagcagpgaa
