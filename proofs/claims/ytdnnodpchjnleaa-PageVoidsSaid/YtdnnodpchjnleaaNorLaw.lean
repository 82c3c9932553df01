/- nor: the walk of NorFuse. No condition. -/
import Derived.Test.YtdnnodpchjnleaaNorFix
namespace Go.Proofs.Ytdnnodpchjnleaa
open Go.ChangeShapes Go.WideShapes Go.ChangeAt Go.RowKit
open Fl
theorem nil_own {w : World} (B : Nat) : Sl encB w none 0 [] := Sl.nil w none
theorem own_notIn {w : World} {B : Nat} {e : TypeId} {a : Option Addr} {n c g : Nat} {xs : List Value} (h : w.ownsRow B e 1 (.slice a n c) n xs) (hg : g < B) : NotIn a n g := by
  intro hn b off hx
  rcases h.2 with ⟨h2, _⟩ | ⟨g', cap', cur, hv, hb, _⟩
  · cases h2; cases hx
  · cases hv; cases hx; omega
/-- The flash is down, and holds k bytes 0. -/
def DownF (k : Nat) (f : Fl) : Prop := f.down = true ∧ f.bs.length = 128 ∧ f.bs.take k = List.replicate k 0
end Go.Proofs.Ytdnnodpchjnleaa
