/-
  No cell of these rows narrows 'for every input' (looked for: loops, veiled, ifaces, maps, wideKeys, modest, calm, conditions, laid).
  DERIVED. THE GIVEN ROWS OF THIS SEAT. 4 by the template 'for every input the law returns true; each argument reads behind the call as it read before'; 0 by the template 'total and deterministic' (their statements: YtfhajbfgdbcpeaaTotals.lean).
  GIVEN WITH THE SEED: the statements are not yours to turn. If you find one false, say at which input.
  Laid BY PROGRAM, IN A SANDBOX (cutbox-rows.mjs): the forced cells as the released guide's own fill.sh prints them over the translation 658f764ad48f7ed1… (all of the seat's roots in one cut). By AI agents, Wed Nov 11 2026. No macro, syntax, notation, axiom, sorry.
-/
import Derived.Test.YtfhajbfgdbcpeaaChecked
import GoSem.Claim
import GoSem.ClaimJoined
import GoSem.ClaimMapViews
import Derived.JoinedTies
import Derived.KernelRfl
namespace Go.Proofs.Ytfhajbfgdbcpeaa
/- THE CELL 'sum', in the pinned program and in every row, IS THE sha256 OF THE DUMP (.gsa) THAT YtfhajbfgdbcpeaaProg.lean LOADS. Nothing in Lean hashes anything: it is a label: what it is worth is what the hold of that sum in a sandbox is worth. -/
noncomputable def Try.pinned : Pinned := { name := "ytfhajbfgdbcpeaa", sum := "658f764ad48f7ed1886e2ad2d82ccf9e3356b98e9bfe25fad4465f403fc27c77", checked := Try.checked }
namespace Rows
def none {H : Type} : Left H := { results := [], args := [] }

/-- 'carpetbaglaw13.OpsForms': WHATEVER THE INPUT: true; the input reads as it did. -/
def opsFormsSpec : ChangeSpec := { name := "opsForms", fn := fun _ => fun
  | [d] => { results := [.lit (.bool true)], args := [d] }
  | _ => none }
def opsFormsRow : OpenClaim := { program := "ytfhajbfgdbcpeaa", sum := "658f764ad48f7ed1886e2ad2d82ccf9e3356b98e9bfe25fad4465f403fc27c77", func := "carpetbag/carpetbaglaw13.OpsForms", spec := "opsForms", apart := false }
def OpsFormsSaid : Prop := opsFormsRow.holds Try.pinned (OpenSpec.ofChange opsFormsSpec)

/-- ITS FALSE NEIGHBOUR: 'it returns false'. Refute it at one input. -/
def opsFormsWrong : ChangeSpec := { name := "opsForms", fn := fun _ => fun
  | [d] => { results := [.lit (.bool false)], args := [d] }
  | _ => none }
def OpsFormsWrongFalsely : Prop := opsFormsRow.holds Try.pinned (OpenSpec.ofChange opsFormsWrong)

/-- 'carpetbaglaw13.OpsDecodes': WHATEVER THE INPUT: true; the input reads as it did. -/
def opsDecodesSpec : ChangeSpec := { name := "opsDecodes", fn := fun _ => fun
  | [d] => { results := [.lit (.bool true)], args := [d] }
  | _ => none }
def opsDecodesRow : OpenClaim := { program := "ytfhajbfgdbcpeaa", sum := "658f764ad48f7ed1886e2ad2d82ccf9e3356b98e9bfe25fad4465f403fc27c77", func := "carpetbag/carpetbaglaw13.OpsDecodes", spec := "opsDecodes", apart := false }
def OpsDecodesSaid : Prop := opsDecodesRow.holds Try.pinned (OpenSpec.ofChange opsDecodesSpec)

/-- ITS FALSE NEIGHBOUR: 'it returns false'. Refute it at one input. -/
def opsDecodesWrong : ChangeSpec := { name := "opsDecodes", fn := fun _ => fun
  | [d] => { results := [.lit (.bool false)], args := [d] }
  | _ => none }
def OpsDecodesWrongFalsely : Prop := opsDecodesRow.holds Try.pinned (OpenSpec.ofChange opsDecodesWrong)

/-- 'carpetbaglaw13.OpsEncodes': WHATEVER THE INPUT: true; the input reads as it did. -/
def opsEncodesSpec : ChangeSpec := { name := "opsEncodes", fn := fun _ => fun
  | [d] => { results := [.lit (.bool true)], args := [d] }
  | _ => none }
def opsEncodesRow : OpenClaim := { program := "ytfhajbfgdbcpeaa", sum := "658f764ad48f7ed1886e2ad2d82ccf9e3356b98e9bfe25fad4465f403fc27c77", func := "carpetbag/carpetbaglaw13.OpsEncodes", spec := "opsEncodes", apart := false }
def OpsEncodesSaid : Prop := opsEncodesRow.holds Try.pinned (OpenSpec.ofChange opsEncodesSpec)

/-- ITS FALSE NEIGHBOUR: 'it returns false'. Refute it at one input. -/
def opsEncodesWrong : ChangeSpec := { name := "opsEncodes", fn := fun _ => fun
  | [d] => { results := [.lit (.bool false)], args := [d] }
  | _ => none }
def OpsEncodesWrongFalsely : Prop := opsEncodesRow.holds Try.pinned (OpenSpec.ofChange opsEncodesWrong)

/-- 'carpetbaglaw13.OpsLong': WHATEVER THE INPUT: true; the input reads as it did. -/
def opsLongSpec : ChangeSpec := { name := "opsLong", fn := fun _ => fun
  | [d] => { results := [.lit (.bool true)], args := [d] }
  | _ => none }
def opsLongRow : OpenClaim := { program := "ytfhajbfgdbcpeaa", sum := "658f764ad48f7ed1886e2ad2d82ccf9e3356b98e9bfe25fad4465f403fc27c77", func := "carpetbag/carpetbaglaw13.OpsLong", spec := "opsLong", apart := false }
def OpsLongSaid : Prop := opsLongRow.holds Try.pinned (OpenSpec.ofChange opsLongSpec)

/-- ITS FALSE NEIGHBOUR: 'it returns false'. Refute it at one input. -/
def opsLongWrong : ChangeSpec := { name := "opsLong", fn := fun _ => fun
  | [d] => { results := [.lit (.bool false)], args := [d] }
  | _ => none }
def OpsLongWrongFalsely : Prop := opsLongRow.holds Try.pinned (OpenSpec.ofChange opsLongWrong)

/- THE SECOND FORM. 'bulk': how many values and letters a reading holds, each counted each time it is reached (what is shared counts as often as it is met; a slice's spare places count too). A statement '..UptoSaid' is the law's where the arguments, and the package variables that the reading takes, are together of bulk at most 1048576: NARROWER than '..Said'. Prove '..Said' where nothing that the law and all that it calls make is longer than what came in: it says more and counts as full. Else prove '..UptoSaid'. A law counts once. -/
mutual
def uptoBulk {H : Type} : DataW H → Nat
  | .lit (.string bytes) => bytes.length + 1
  | .lit _ => 1
  | .nil => 1
  | .ptr d => uptoBulk d + 1
  | .slice elems spare => uptoBulkAll elems + uptoBulkAll spare + 1
  | .agg parts => uptoBulkAll parts + 1
  | .iface _ d => uptoBulk d + 1
  | .map entries => uptoBulkEntries entries + 1
  | .held _ => 1
def uptoBulkAll {H : Type} : List (DataW H) → Nat
  | [] => 0
  | d :: r => uptoBulk d + uptoBulkAll r
def uptoBulkEntries {H : Type} : List (Lit × DataW H) → Nat
  | [] => 0
  | x :: r => uptoBulkEntry x + uptoBulkEntries r
def uptoBulkEntry {H : Type} : Lit × DataW H → Nat
  | (.string bytes, d) => bytes.length + uptoBulk d + 1
  | (_, d) => uptoBulk d + 1
 end
def uptoSmall : (H : Type) → List (DataW H) → Bool := fun _ ds => decide (uptoBulkAll ds ≤ 1048576)
def OpenSpec.upto (s : _root_.Go.ChangeSpec) : _root_.Go.OpenSpec := { _root_.Go.OpenSpec.ofChange s with cond := some uptoSmall }

/-- 'carpetbaglaw13.OpsForms', WHERE WHAT IT READS IS OF BULK AT MOST 1048576: true; the input reads as it did. -/
def opsFormsUptoRow : OpenClaim := { program := "ytfhajbfgdbcpeaa", sum := "658f764ad48f7ed1886e2ad2d82ccf9e3356b98e9bfe25fad4465f403fc27c77", func := "carpetbag/carpetbaglaw13.OpsForms", spec := "opsForms", apart := false, narrowed := true }
def OpsFormsUptoSaid : Prop := opsFormsUptoRow.holds Try.pinned (OpenSpec.upto opsFormsSpec)

/-- 'carpetbaglaw13.OpsDecodes', WHERE WHAT IT READS IS OF BULK AT MOST 1048576: true; the input reads as it did. -/
def opsDecodesUptoRow : OpenClaim := { program := "ytfhajbfgdbcpeaa", sum := "658f764ad48f7ed1886e2ad2d82ccf9e3356b98e9bfe25fad4465f403fc27c77", func := "carpetbag/carpetbaglaw13.OpsDecodes", spec := "opsDecodes", apart := false, narrowed := true }
def OpsDecodesUptoSaid : Prop := opsDecodesUptoRow.holds Try.pinned (OpenSpec.upto opsDecodesSpec)

/-- 'carpetbaglaw13.OpsEncodes', WHERE WHAT IT READS IS OF BULK AT MOST 1048576: true; the input reads as it did. -/
def opsEncodesUptoRow : OpenClaim := { program := "ytfhajbfgdbcpeaa", sum := "658f764ad48f7ed1886e2ad2d82ccf9e3356b98e9bfe25fad4465f403fc27c77", func := "carpetbag/carpetbaglaw13.OpsEncodes", spec := "opsEncodes", apart := false, narrowed := true }
def OpsEncodesUptoSaid : Prop := opsEncodesUptoRow.holds Try.pinned (OpenSpec.upto opsEncodesSpec)

/-- 'carpetbaglaw13.OpsLong', WHERE WHAT IT READS IS OF BULK AT MOST 1048576: true; the input reads as it did. -/
def opsLongUptoRow : OpenClaim := { program := "ytfhajbfgdbcpeaa", sum := "658f764ad48f7ed1886e2ad2d82ccf9e3356b98e9bfe25fad4465f403fc27c77", func := "carpetbag/carpetbaglaw13.OpsLong", spec := "opsLong", apart := false, narrowed := true }
def OpsLongUptoSaid : Prop := opsLongUptoRow.holds Try.pinned (OpenSpec.upto opsLongSpec)

end Rows
end Go.Proofs.Ytfhajbfgdbcpeaa
