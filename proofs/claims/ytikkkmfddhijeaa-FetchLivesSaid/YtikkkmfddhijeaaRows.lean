/-
  No cell of these rows narrows 'for every input' (looked for: loops, veiled, ifaces, maps, wideKeys, modest, calm, conditions, laid).
  DERIVED. THE GIVEN ROWS OF THIS SEAT. 5 by the template 'for every input the law returns true; each argument reads behind the call as it read before'; 0 by the template 'total and deterministic' (their statements: YtikkkmfddhijeaaTotals.lean).
  GIVEN WITH THE SEED: the statements are not yours to turn. If you find one false, say at which input.
  Laid BY PROGRAM, IN A SANDBOX (cutbox-rows.mjs): the forced cells as the released guide's own fill.sh prints them over the translation e659e42238106276… (all of the seat's roots in one cut). By AI agents, Wed Nov 11 2026. No macro, syntax, notation, axiom, sorry.
-/
import Derived.Test.YtikkkmfddhijeaaChecked
import GoSem.Claim
import GoSem.ClaimJoined
import GoSem.ClaimMapViews
import Derived.JoinedTies
import Derived.KernelRfl
namespace Go.Proofs.Ytikkkmfddhijeaa
/- THE CELL 'sum', in the pinned program and in every row, IS THE sha256 OF THE DUMP (.gsa) THAT YtikkkmfddhijeaaProg.lean LOADS. Nothing in Lean hashes anything: it is a label: what it is worth is what the hold of that sum in a sandbox is worth. -/
noncomputable def Try.pinned : Pinned := { name := "ytikkkmfddhijeaa", sum := "e659e422381062764bd296c9b7c741cb27cea1790d57814846ab491d0d6a35a5", checked := Try.checked }
namespace Rows
def none {H : Type} : Left H := { results := [], args := [] }

/-- 'carpetbaglaw30.FetchTakes': WHATEVER THE INPUT: true; the input reads as it did. -/
def fetchTakesSpec : ChangeSpec := { name := "fetchTakes", fn := fun _ => fun
  | [d1, d2] => { results := [.lit (.bool true)], args := [d1, d2] }
  | _ => none }
def fetchTakesRow : OpenClaim := { program := "ytikkkmfddhijeaa", sum := "e659e422381062764bd296c9b7c741cb27cea1790d57814846ab491d0d6a35a5", func := "carpetbag/carpetbaglaw30.FetchTakes", spec := "fetchTakes", apart := false }
def FetchTakesSaid : Prop := fetchTakesRow.holds Try.pinned (OpenSpec.ofChange fetchTakesSpec)

/-- ITS FALSE NEIGHBOUR: 'it returns false'. Refute it at one input. -/
def fetchTakesWrong : ChangeSpec := { name := "fetchTakes", fn := fun _ => fun
  | [d1, d2] => { results := [.lit (.bool false)], args := [d1, d2] }
  | _ => none }
def FetchTakesWrongFalsely : Prop := fetchTakesRow.holds Try.pinned (OpenSpec.ofChange fetchTakesWrong)

/-- 'carpetbaglaw30.FetchServes': WHATEVER THE INPUT: true; the input reads as it did. -/
def fetchServesSpec : ChangeSpec := { name := "fetchServes", fn := fun _ => fun
  | [d1, d2, d3] => { results := [.lit (.bool true)], args := [d1, d2, d3] }
  | _ => none }
def fetchServesRow : OpenClaim := { program := "ytikkkmfddhijeaa", sum := "e659e422381062764bd296c9b7c741cb27cea1790d57814846ab491d0d6a35a5", func := "carpetbag/carpetbaglaw30.FetchServes", spec := "fetchServes", apart := false }
def FetchServesSaid : Prop := fetchServesRow.holds Try.pinned (OpenSpec.ofChange fetchServesSpec)

/-- ITS FALSE NEIGHBOUR: 'it returns false'. Refute it at one input. -/
def fetchServesWrong : ChangeSpec := { name := "fetchServes", fn := fun _ => fun
  | [d1, d2, d3] => { results := [.lit (.bool false)], args := [d1, d2, d3] }
  | _ => none }
def FetchServesWrongFalsely : Prop := fetchServesRow.holds Try.pinned (OpenSpec.ofChange fetchServesWrong)

/-- 'carpetbaglaw30.FetchGrows': WHATEVER THE INPUT: true; the input reads as it did. -/
def fetchGrowsSpec : ChangeSpec := { name := "fetchGrows", fn := fun _ => fun
  | [d1, d2, d3] => { results := [.lit (.bool true)], args := [d1, d2, d3] }
  | _ => none }
def fetchGrowsRow : OpenClaim := { program := "ytikkkmfddhijeaa", sum := "e659e422381062764bd296c9b7c741cb27cea1790d57814846ab491d0d6a35a5", func := "carpetbag/carpetbaglaw30.FetchGrows", spec := "fetchGrows", apart := false }
def FetchGrowsSaid : Prop := fetchGrowsRow.holds Try.pinned (OpenSpec.ofChange fetchGrowsSpec)

/-- ITS FALSE NEIGHBOUR: 'it returns false'. Refute it at one input. -/
def fetchGrowsWrong : ChangeSpec := { name := "fetchGrows", fn := fun _ => fun
  | [d1, d2, d3] => { results := [.lit (.bool false)], args := [d1, d2, d3] }
  | _ => none }
def FetchGrowsWrongFalsely : Prop := fetchGrowsRow.holds Try.pinned (OpenSpec.ofChange fetchGrowsWrong)

/-- 'carpetbaglaw30.FetchLives': WHATEVER THE INPUT: true; the input reads as it did. -/
def fetchLivesSpec : ChangeSpec := { name := "fetchLives", fn := fun _ => fun
  | [d1, d2, d3, d4] => { results := [.lit (.bool true)], args := [d1, d2, d3, d4] }
  | _ => none }
def fetchLivesRow : OpenClaim := { program := "ytikkkmfddhijeaa", sum := "e659e422381062764bd296c9b7c741cb27cea1790d57814846ab491d0d6a35a5", func := "carpetbag/carpetbaglaw30.FetchLives", spec := "fetchLives", apart := false }
def FetchLivesSaid : Prop := fetchLivesRow.holds Try.pinned (OpenSpec.ofChange fetchLivesSpec)

/-- ITS FALSE NEIGHBOUR: 'it returns false'. Refute it at one input. -/
def fetchLivesWrong : ChangeSpec := { name := "fetchLives", fn := fun _ => fun
  | [d1, d2, d3, d4] => { results := [.lit (.bool false)], args := [d1, d2, d3, d4] }
  | _ => none }
def FetchLivesWrongFalsely : Prop := fetchLivesRow.holds Try.pinned (OpenSpec.ofChange fetchLivesWrong)

/-- 'carpetbaglaw30.FetchTurned': WHATEVER THE INPUT: true; the input reads as it did. -/
def fetchTurnedSpec : ChangeSpec := { name := "fetchTurned", fn := fun _ => fun
  | [d1, d2, d3] => { results := [.lit (.bool true)], args := [d1, d2, d3] }
  | _ => none }
def fetchTurnedRow : OpenClaim := { program := "ytikkkmfddhijeaa", sum := "e659e422381062764bd296c9b7c741cb27cea1790d57814846ab491d0d6a35a5", func := "carpetbag/carpetbaglaw30.FetchTurned", spec := "fetchTurned", apart := false }
def FetchTurnedSaid : Prop := fetchTurnedRow.holds Try.pinned (OpenSpec.ofChange fetchTurnedSpec)

/-- ITS FALSE NEIGHBOUR: 'it returns false'. Refute it at one input. -/
def fetchTurnedWrong : ChangeSpec := { name := "fetchTurned", fn := fun _ => fun
  | [d1, d2, d3] => { results := [.lit (.bool false)], args := [d1, d2, d3] }
  | _ => none }
def FetchTurnedWrongFalsely : Prop := fetchTurnedRow.holds Try.pinned (OpenSpec.ofChange fetchTurnedWrong)

/- THE SECOND FORM. 'bulk': how many values and letters a reading holds, each counted each time it is reached (what is shared counts as often as it is met; a slice's spare places count too). A statement '..UptoSaid' is the law's where the arguments, and the package variables that the reading takes, are together of bulk at most 1048576: NARROWER than '..Said'. Prove '..Said' where nothing that the law and all that it calls make is longer than what came in: it says more and counts as full. Else prove '..UptoSaid'. A law counts once. -/
mutual
def uptoBulk {H : Type} : DataW H → Nat
  | .lit (.string bytes) => bytes.length + 1
  | .lit _ => 1
  | .nil => 1
  | .ptr d => uptoBulk d + 1
  | .slice elems spare => uptoBulkAll elems + uptoBulkAll spare + 1
  | .agg parts => uptoBulkAll parts + 1
  | .iface _ d => uptoBulk d + 1
  | .map entries => uptoBulkEntries entries + 1
  | .held _ => 1
def uptoBulkAll {H : Type} : List (DataW H) → Nat
  | [] => 0
  | d :: r => uptoBulk d + uptoBulkAll r
def uptoBulkEntries {H : Type} : List (Lit × DataW H) → Nat
  | [] => 0
  | x :: r => uptoBulkEntry x + uptoBulkEntries r
def uptoBulkEntry {H : Type} : Lit × DataW H → Nat
  | (.string bytes, d) => bytes.length + uptoBulk d + 1
  | (_, d) => uptoBulk d + 1
 end
def uptoSmall : (H : Type) → List (DataW H) → Bool := fun _ ds => decide (uptoBulkAll ds ≤ 1048576)
def OpenSpec.upto (s : _root_.Go.ChangeSpec) : _root_.Go.OpenSpec := { _root_.Go.OpenSpec.ofChange s with cond := some uptoSmall }

/-- 'carpetbaglaw30.FetchTakes', WHERE WHAT IT READS IS OF BULK AT MOST 1048576: true; the input reads as it did. -/
def fetchTakesUptoRow : OpenClaim := { program := "ytikkkmfddhijeaa", sum := "e659e422381062764bd296c9b7c741cb27cea1790d57814846ab491d0d6a35a5", func := "carpetbag/carpetbaglaw30.FetchTakes", spec := "fetchTakes", apart := false, narrowed := true }
def FetchTakesUptoSaid : Prop := fetchTakesUptoRow.holds Try.pinned (OpenSpec.upto fetchTakesSpec)

/-- 'carpetbaglaw30.FetchServes', WHERE WHAT IT READS IS OF BULK AT MOST 1048576: true; the input reads as it did. -/
def fetchServesUptoRow : OpenClaim := { program := "ytikkkmfddhijeaa", sum := "e659e422381062764bd296c9b7c741cb27cea1790d57814846ab491d0d6a35a5", func := "carpetbag/carpetbaglaw30.FetchServes", spec := "fetchServes", apart := false, narrowed := true }
def FetchServesUptoSaid : Prop := fetchServesUptoRow.holds Try.pinned (OpenSpec.upto fetchServesSpec)

/-- 'carpetbaglaw30.FetchGrows', WHERE WHAT IT READS IS OF BULK AT MOST 1048576: true; the input reads as it did. -/
def fetchGrowsUptoRow : OpenClaim := { program := "ytikkkmfddhijeaa", sum := "e659e422381062764bd296c9b7c741cb27cea1790d57814846ab491d0d6a35a5", func := "carpetbag/carpetbaglaw30.FetchGrows", spec := "fetchGrows", apart := false, narrowed := true }
def FetchGrowsUptoSaid : Prop := fetchGrowsUptoRow.holds Try.pinned (OpenSpec.upto fetchGrowsSpec)

/-- 'carpetbaglaw30.FetchLives', WHERE WHAT IT READS IS OF BULK AT MOST 1048576: true; the input reads as it did. -/
def fetchLivesUptoRow : OpenClaim := { program := "ytikkkmfddhijeaa", sum := "e659e422381062764bd296c9b7c741cb27cea1790d57814846ab491d0d6a35a5", func := "carpetbag/carpetbaglaw30.FetchLives", spec := "fetchLives", apart := false, narrowed := true }
def FetchLivesUptoSaid : Prop := fetchLivesUptoRow.holds Try.pinned (OpenSpec.upto fetchLivesSpec)

/-- 'carpetbaglaw30.FetchTurned', WHERE WHAT IT READS IS OF BULK AT MOST 1048576: true; the input reads as it did. -/
def fetchTurnedUptoRow : OpenClaim := { program := "ytikkkmfddhijeaa", sum := "e659e422381062764bd296c9b7c741cb27cea1790d57814846ab491d0d6a35a5", func := "carpetbag/carpetbaglaw30.FetchTurned", spec := "fetchTurned", apart := false, narrowed := true }
def FetchTurnedUptoSaid : Prop := fetchTurnedUptoRow.holds Try.pinned (OpenSpec.upto fetchTurnedSpec)

end Rows
end Go.Proofs.Ytikkkmfddhijeaa
