/- nor: the reference's Program. No condition. -/
import Derived.Test.YtdnnodpchjnleaaNorFn9
namespace Go.Proofs.Ytdnnodpchjnleaa
open Go.ChangeShapes Go.WideShapes Go.ChangeAt Go.RowKit
theorem IsFl.laid' {tF eb ec : TypeId} {w w2 : World} {g gb gc cb cc p : Nat} {f : Fl} (h : IsFl tF eb ec w g gb gc cb cc f) {cur : Array Value} (hg : w.heap[gb]? = some (.cells cur eb)) (c : List UInt8) (hp : p + c.length ≤ f.bs.length)
    (hg2 : w2.heap[gb]? = some (.cells (splice cur.toList p (c.map encB)).toArray eb)) (ho : OnlyAt gb w w2) (bs' : List UInt8) (hb : bs' = Fl.lay f.bs p c) : IsFl tF eb ec w2 g gb gc cb cc { f with bs := bs' } := by
  subst hb; exact h.laid hg c hp hg2 ho
/-- What a copy of b's first q bytes is told. -/
theorem copy_src {w : World} {gb o p n q : Nat} {a : Option Addr} {bs : List UInt8} (hs : Sl encB w a n bs) (hop : 0 < n → o = p) (hq : q ≤ n) :
    0 < ((bs.take q).map encB).length → (some (⟨gb, o, none⟩ : Addr)) = some ⟨gb, p, none⟩ ∧ ∃ ad, a = some ad ∧ ∀ j v, ((bs.take q).map encB)[j]? = some v → w.cell? (ad.add j) = some v := by
  intro h0
  have hbl := hs.1
  have htl : (bs.take q).length = q := by simp; omega
  have hq1 : 0 < q := by rw [List.length_map, htl] at h0; exact h0
  obtain ⟨bx, ox, rfl, hbx, hcx⟩ := (hs.take hq).2 hq1
  refine ⟨by rw [hop (by omega)], _, rfl, fun j v hv => ?_⟩
  rw [List.getElem?_map] at hv
  have hj : j < (bs.take q).length := by
    rcases Nat.lt_or_ge j (bs.take q).length with h | h
    · exact h
    · rw [List.getElem?_eq_none h] at hv; cases hv
  rw [List.getElem?_eq_getElem hj] at hv
  cases hv
  have hadd : (⟨bx, ox, none⟩ : Addr).add j = ⟨bx, ox + j, none⟩ := by unfold Addr.add; split <;> simp_all
  rw [hadd]
  exact hcx j hj
end Go.Proofs.Ytdnnodpchjnleaa
