/-
  No cell of these rows narrows 'for every input' (looked for: loops, veiled, ifaces, maps, wideKeys, modest, calm, conditions, laid).
  DERIVED. THE GIVEN ROWS OF THIS SEAT. 2 by the template 'for every input the law returns true; each argument reads behind the call as it read before'; 0 by the template 'total and deterministic' (their statements: YtechkdnoekffmaaTotals.lean).
  GIVEN WITH THE SEED: the statements are not yours to turn. If you find one false, say at which input.
  Laid BY PROGRAM, IN A SANDBOX (cutbox-rows.mjs): the forced cells as the released guide's own fill.sh prints them over the translation e5e3696a9f300318… (all of the seat's roots in one cut). By AI agents, Wed Nov 11 2026. No macro, syntax, notation, axiom, sorry.
-/
import Derived.Test.YtechkdnoekffmaaChecked
import GoSem.Claim
import GoSem.ClaimJoined
import GoSem.ClaimMapViews
import Derived.JoinedTies
import Derived.KernelRfl
namespace Go.Proofs.Ytechkdnoekffmaa
/- THE CELL 'sum', in the pinned program and in every row, IS THE sha256 OF THE DUMP (.gsa) THAT YtechkdnoekffmaaProg.lean LOADS. Nothing in Lean hashes anything: it is a label: what it is worth is what the hold of that sum in a sandbox is worth. -/
noncomputable def Try.pinned : Pinned := { name := "ytechkdnoekffmaa", sum := "e5e3696a9f3003189dc7060b70a2d704720e0875d2aaf323a18d4d13e067e49d", checked := Try.checked }
namespace Rows
def none {H : Type} : Left H := { results := [], args := [] }

/-- 'carpetbaglaw06.ScanWhole': WHATEVER THE INPUT: true; the input reads as it did. -/
def scanWholeSpec : ChangeSpec := { name := "scanWhole", fn := fun _ => fun
  | [d1, d2] => { results := [.lit (.bool true)], args := [d1, d2] }
  | _ => none }
def scanWholeRow : OpenClaim := { program := "ytechkdnoekffmaa", sum := "e5e3696a9f3003189dc7060b70a2d704720e0875d2aaf323a18d4d13e067e49d", func := "carpetbag/carpetbaglaw06.ScanWhole", spec := "scanWhole", apart := false }
def ScanWholeSaid : Prop := scanWholeRow.holds Try.pinned (OpenSpec.ofChange scanWholeSpec)

/-- ITS FALSE NEIGHBOUR: 'it returns false'. Refute it at one input. -/
def scanWholeWrong : ChangeSpec := { name := "scanWhole", fn := fun _ => fun
  | [d1, d2] => { results := [.lit (.bool false)], args := [d1, d2] }
  | _ => none }
def ScanWholeWrongFalsely : Prop := scanWholeRow.holds Try.pinned (OpenSpec.ofChange scanWholeWrong)

/-- 'carpetbaglaw06.ScanTorn': WHATEVER THE INPUT: true; the input reads as it did. -/
def scanTornSpec : ChangeSpec := { name := "scanTorn", fn := fun _ => fun
  | [d1, d2, d3] => { results := [.lit (.bool true)], args := [d1, d2, d3] }
  | _ => none }
def scanTornRow : OpenClaim := { program := "ytechkdnoekffmaa", sum := "e5e3696a9f3003189dc7060b70a2d704720e0875d2aaf323a18d4d13e067e49d", func := "carpetbag/carpetbaglaw06.ScanTorn", spec := "scanTorn", unfollowed := true, recurses := true, apart := false }
def ScanTornSaid : Prop := scanTornRow.holds Try.pinned (OpenSpec.ofChange scanTornSpec)

/-- ITS FALSE NEIGHBOUR: 'it returns false'. Refute it at one input. -/
def scanTornWrong : ChangeSpec := { name := "scanTorn", fn := fun _ => fun
  | [d1, d2, d3] => { results := [.lit (.bool false)], args := [d1, d2, d3] }
  | _ => none }
def ScanTornWrongFalsely : Prop := scanTornRow.holds Try.pinned (OpenSpec.ofChange scanTornWrong)

/- THE SECOND FORM. 'bulk': how many values and letters a reading holds, each counted each time it is reached (what is shared counts as often as it is met; a slice's spare places count too). A statement '..UptoSaid' is the law's where the arguments, and the package variables that the reading takes, are together of bulk at most 1048576: NARROWER than '..Said'. Prove '..Said' where nothing that the law and all that it calls make is longer than what came in: it says more and counts as full. Else prove '..UptoSaid'. A law counts once. -/
mutual
def uptoBulk {H : Type} : DataW H → Nat
  | .lit (.string bytes) => bytes.length + 1
  | .lit _ => 1
  | .nil => 1
  | .ptr d => uptoBulk d + 1
  | .slice elems spare => uptoBulkAll elems + uptoBulkAll spare + 1
  | .agg parts => uptoBulkAll parts + 1
  | .iface _ d => uptoBulk d + 1
  | .map entries => uptoBulkEntries entries + 1
  | .held _ => 1
def uptoBulkAll {H : Type} : List (DataW H) → Nat
  | [] => 0
  | d :: r => uptoBulk d + uptoBulkAll r
def uptoBulkEntries {H : Type} : List (Lit × DataW H) → Nat
  | [] => 0
  | x :: r => uptoBulkEntry x + uptoBulkEntries r
def uptoBulkEntry {H : Type} : Lit × DataW H → Nat
  | (.string bytes, d) => bytes.length + uptoBulk d + 1
  | (_, d) => uptoBulk d + 1
 end
def uptoSmall : (H : Type) → List (DataW H) → Bool := fun _ ds => decide (uptoBulkAll ds ≤ 1048576)
def OpenSpec.upto (s : _root_.Go.ChangeSpec) : _root_.Go.OpenSpec := { _root_.Go.OpenSpec.ofChange s with cond := some uptoSmall }

/-- 'carpetbaglaw06.ScanWhole', WHERE WHAT IT READS IS OF BULK AT MOST 1048576: true; the input reads as it did. -/
def scanWholeUptoRow : OpenClaim := { program := "ytechkdnoekffmaa", sum := "e5e3696a9f3003189dc7060b70a2d704720e0875d2aaf323a18d4d13e067e49d", func := "carpetbag/carpetbaglaw06.ScanWhole", spec := "scanWhole", apart := false, narrowed := true }
def ScanWholeUptoSaid : Prop := scanWholeUptoRow.holds Try.pinned (OpenSpec.upto scanWholeSpec)

/-- 'carpetbaglaw06.ScanTorn', WHERE WHAT IT READS IS OF BULK AT MOST 1048576: true; the input reads as it did. -/
def scanTornUptoRow : OpenClaim := { program := "ytechkdnoekffmaa", sum := "e5e3696a9f3003189dc7060b70a2d704720e0875d2aaf323a18d4d13e067e49d", func := "carpetbag/carpetbaglaw06.ScanTorn", spec := "scanTorn", unfollowed := true, recurses := true, apart := false, narrowed := true }
def ScanTornUptoSaid : Prop := scanTornUptoRow.holds Try.pinned (OpenSpec.upto scanTornSpec)

end Rows
end Go.Proofs.Ytechkdnoekffmaa
