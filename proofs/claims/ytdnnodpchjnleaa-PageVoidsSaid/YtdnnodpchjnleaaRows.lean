/-
  No cell of these rows narrows 'for every input' (looked for: loops, veiled, ifaces, maps, wideKeys, modest, calm, conditions, laid).
  DERIVED. THE GIVEN ROWS OF THIS SEAT. 3 by the template 'for every input the law returns true; each argument reads behind the call as it read before'; 0 by the template 'total and deterministic' (their statements: YtdnnodpchjnleaaTotals.lean).
  GIVEN WITH THE SEED: the statements are not yours to turn. If you find one false, say at which input.
  Laid BY PROGRAM, IN A SANDBOX (cutbox-rows.mjs): the forced cells as the released guide's own fill.sh prints them over the translation 89bde7b660530a28… (all of the seat's roots in one cut). By AI agents, Wed Nov 11 2026. No macro, syntax, notation, axiom, sorry.
-/
import Derived.Test.YtdnnodpchjnleaaChecked
import GoSem.Claim
import GoSem.ClaimJoined
import GoSem.ClaimMapViews
import Derived.JoinedTies
import Derived.KernelRfl
namespace Go.Proofs.Ytdnnodpchjnleaa
/- THE CELL 'sum', in the pinned program and in every row, IS THE sha256 OF THE DUMP (.gsa) THAT YtdnnodpchjnleaaProg.lean LOADS. Nothing in Lean hashes anything: it is a label: what it is worth is what the hold of that sum in a sandbox is worth. -/
noncomputable def Try.pinned : Pinned := { name := "ytdnnodpchjnleaa", sum := "89bde7b660530a28d602ed9c67f155519909a4ea4a63b832a21dcfbe32ce2197", checked := Try.checked }
namespace Rows
def none {H : Type} : Left H := { results := [], args := [] }

/-- 'carpetbaglaw04.PageHeads': WHATEVER THE INPUT: true; the input reads as it did. -/
def pageHeadsSpec : ChangeSpec := { name := "pageHeads", fn := fun _ => fun
  | [d1, d2] => { results := [.lit (.bool true)], args := [d1, d2] }
  | _ => none }
def pageHeadsRow : OpenClaim := { program := "ytdnnodpchjnleaa", sum := "89bde7b660530a28d602ed9c67f155519909a4ea4a63b832a21dcfbe32ce2197", func := "carpetbag/carpetbaglaw04.PageHeads", spec := "pageHeads", apart := false }
def PageHeadsSaid : Prop := pageHeadsRow.holds Try.pinned (OpenSpec.ofChange pageHeadsSpec)

/-- ITS FALSE NEIGHBOUR: 'it returns false'. Refute it at one input. -/
def pageHeadsWrong : ChangeSpec := { name := "pageHeads", fn := fun _ => fun
  | [d1, d2] => { results := [.lit (.bool false)], args := [d1, d2] }
  | _ => none }
def PageHeadsWrongFalsely : Prop := pageHeadsRow.holds Try.pinned (OpenSpec.ofChange pageHeadsWrong)

/-- 'carpetbaglaw04.PageNil': WHATEVER THE INPUT: true; the input reads as it did. -/
def pageNilSpec : ChangeSpec := { name := "pageNil", fn := fun _ => fun
  | [d1, d2] => { results := [.lit (.bool true)], args := [d1, d2] }
  | _ => none }
def pageNilRow : OpenClaim := { program := "ytdnnodpchjnleaa", sum := "89bde7b660530a28d602ed9c67f155519909a4ea4a63b832a21dcfbe32ce2197", func := "carpetbag/carpetbaglaw04.PageNil", spec := "pageNil", unfollowed := true, recurses := true, apart := false }
def PageNilSaid : Prop := pageNilRow.holds Try.pinned (OpenSpec.ofChange pageNilSpec)

/-- ITS FALSE NEIGHBOUR: 'it returns false'. Refute it at one input. -/
def pageNilWrong : ChangeSpec := { name := "pageNil", fn := fun _ => fun
  | [d1, d2] => { results := [.lit (.bool false)], args := [d1, d2] }
  | _ => none }
def PageNilWrongFalsely : Prop := pageNilRow.holds Try.pinned (OpenSpec.ofChange pageNilWrong)

/-- 'carpetbaglaw04.PageVoids': WHATEVER THE INPUT: true; the input reads as it did. -/
def pageVoidsSpec : ChangeSpec := { name := "pageVoids", fn := fun _ => fun
  | [d1, d2, d3] => { results := [.lit (.bool true)], args := [d1, d2, d3] }
  | _ => none }
def pageVoidsRow : OpenClaim := { program := "ytdnnodpchjnleaa", sum := "89bde7b660530a28d602ed9c67f155519909a4ea4a63b832a21dcfbe32ce2197", func := "carpetbag/carpetbaglaw04.PageVoids", spec := "pageVoids", inPlace := ["internal/bytealg.MakeNoZero"], unfollowed := true, recurses := true, apart := false }
def PageVoidsSaid : Prop := pageVoidsRow.holds Try.pinned (OpenSpec.ofChange pageVoidsSpec)

/-- ITS FALSE NEIGHBOUR: 'it returns false'. Refute it at one input. -/
def pageVoidsWrong : ChangeSpec := { name := "pageVoids", fn := fun _ => fun
  | [d1, d2, d3] => { results := [.lit (.bool false)], args := [d1, d2, d3] }
  | _ => none }
def PageVoidsWrongFalsely : Prop := pageVoidsRow.holds Try.pinned (OpenSpec.ofChange pageVoidsWrong)

/- THE SECOND FORM. 'bulk': how many values and letters a reading holds, each counted each time it is reached (what is shared counts as often as it is met; a slice's spare places count too). A statement '..UptoSaid' is the law's where the arguments, and the package variables that the reading takes, are together of bulk at most 1048576: NARROWER than '..Said'. Prove '..Said' where nothing that the law and all that it calls make is longer than what came in: it says more and counts as full. Else prove '..UptoSaid'. A law counts once. -/
mutual
def uptoBulk {H : Type} : DataW H → Nat
  | .lit (.string bytes) => bytes.length + 1
  | .lit _ => 1
  | .nil => 1
  | .ptr d => uptoBulk d + 1
  | .slice elems spare => uptoBulkAll elems + uptoBulkAll spare + 1
  | .agg parts => uptoBulkAll parts + 1
  | .iface _ d => uptoBulk d + 1
  | .map entries => uptoBulkEntries entries + 1
  | .held _ => 1
def uptoBulkAll {H : Type} : List (DataW H) → Nat
  | [] => 0
  | d :: r => uptoBulk d + uptoBulkAll r
def uptoBulkEntries {H : Type} : List (Lit × DataW H) → Nat
  | [] => 0
  | x :: r => uptoBulkEntry x + uptoBulkEntries r
def uptoBulkEntry {H : Type} : Lit × DataW H → Nat
  | (.string bytes, d) => bytes.length + uptoBulk d + 1
  | (_, d) => uptoBulk d + 1
 end
def uptoSmall : (H : Type) → List (DataW H) → Bool := fun _ ds => decide (uptoBulkAll ds ≤ 1048576)
def OpenSpec.upto (s : _root_.Go.ChangeSpec) : _root_.Go.OpenSpec := { _root_.Go.OpenSpec.ofChange s with cond := some uptoSmall }

/-- 'carpetbaglaw04.PageHeads', WHERE WHAT IT READS IS OF BULK AT MOST 1048576: true; the input reads as it did. -/
def pageHeadsUptoRow : OpenClaim := { program := "ytdnnodpchjnleaa", sum := "89bde7b660530a28d602ed9c67f155519909a4ea4a63b832a21dcfbe32ce2197", func := "carpetbag/carpetbaglaw04.PageHeads", spec := "pageHeads", apart := false, narrowed := true }
def PageHeadsUptoSaid : Prop := pageHeadsUptoRow.holds Try.pinned (OpenSpec.upto pageHeadsSpec)

/-- 'carpetbaglaw04.PageNil', WHERE WHAT IT READS IS OF BULK AT MOST 1048576: true; the input reads as it did. -/
def pageNilUptoRow : OpenClaim := { program := "ytdnnodpchjnleaa", sum := "89bde7b660530a28d602ed9c67f155519909a4ea4a63b832a21dcfbe32ce2197", func := "carpetbag/carpetbaglaw04.PageNil", spec := "pageNil", unfollowed := true, recurses := true, apart := false, narrowed := true }
def PageNilUptoSaid : Prop := pageNilUptoRow.holds Try.pinned (OpenSpec.upto pageNilSpec)

/-- 'carpetbaglaw04.PageVoids', WHERE WHAT IT READS IS OF BULK AT MOST 1048576: true; the input reads as it did. -/
def pageVoidsUptoRow : OpenClaim := { program := "ytdnnodpchjnleaa", sum := "89bde7b660530a28d602ed9c67f155519909a4ea4a63b832a21dcfbe32ce2197", func := "carpetbag/carpetbaglaw04.PageVoids", spec := "pageVoids", inPlace := ["internal/bytealg.MakeNoZero"], unfollowed := true, recurses := true, apart := false, narrowed := true }
def PageVoidsUptoSaid : Prop := pageVoidsUptoRow.holds Try.pinned (OpenSpec.upto pageVoidsSpec)

end Rows
end Go.Proofs.Ytdnnodpchjnleaa
