/-
  No cell of these rows narrows 'for every input' (looked for: loops, veiled, ifaces, maps, wideKeys, modest, calm, conditions, laid).
  DERIVED. THE GIVEN ROWS OF THIS SEAT. 4 by the template 'for every input the law returns true; each argument reads behind the call as it read before'; 0 by the template 'total and deterministic' (their statements: YtbcldlbmbdfejaaTotals.lean).
  GIVEN WITH THE SEED: the statements are not yours to turn. If you find one false, say at which input.
  Laid BY PROGRAM, IN A SANDBOX (cutbox-rows.mjs): the forced cells as the released guide's own fill.sh prints them over the translation c100af02140d9c0b… (all of the seat's roots in one cut). By AI agents, Wed Nov 11 2026. No macro, syntax, notation, axiom, sorry.
-/
import Derived.Test.YtbcldlbmbdfejaaChecked
import GoSem.Claim
import GoSem.ClaimJoined
import GoSem.ClaimMapViews
import Derived.JoinedTies
import Derived.KernelRfl
namespace Go.Proofs.Ytbcldlbmbdfejaa
/- THE CELL 'sum', in the pinned program and in every row, IS THE sha256 OF THE DUMP (.gsa) THAT YtbcldlbmbdfejaaProg.lean LOADS. Nothing in Lean hashes anything: it is a label: what it is worth is what the hold of that sum in a sandbox is worth. -/
noncomputable def Try.pinned : Pinned := { name := "ytbcldlbmbdfejaa", sum := "c100af02140d9c0b62b0a172814216ff4609e2b31a0b091348b4da73be2341a8", checked := Try.checked }
namespace Rows
def none {H : Type} : Left H := { results := [], args := [] }

/-- 'carpetbaglaw25.ImageBytes': WHATEVER THE INPUT: true; the input reads as it did. -/
def imageBytesSpec : ChangeSpec := { name := "imageBytes", fn := fun _ => fun
  | [d1, d2] => { results := [.lit (.bool true)], args := [d1, d2] }
  | _ => none }
def imageBytesRow : OpenClaim := { program := "ytbcldlbmbdfejaa", sum := "c100af02140d9c0b62b0a172814216ff4609e2b31a0b091348b4da73be2341a8", func := "carpetbag/carpetbaglaw25.ImageBytes", spec := "imageBytes", unfollowed := true, recurses := true, apart := false }
def ImageBytesSaid : Prop := imageBytesRow.holds Try.pinned (OpenSpec.ofChange imageBytesSpec)

/-- ITS FALSE NEIGHBOUR: 'it returns false'. Refute it at one input. -/
def imageBytesWrong : ChangeSpec := { name := "imageBytes", fn := fun _ => fun
  | [d1, d2] => { results := [.lit (.bool false)], args := [d1, d2] }
  | _ => none }
def ImageBytesWrongFalsely : Prop := imageBytesRow.holds Try.pinned (OpenSpec.ofChange imageBytesWrong)

/-- 'carpetbaglaw25.ImageCuts': WHATEVER THE INPUT: true; the input reads as it did. -/
def imageCutsSpec : ChangeSpec := { name := "imageCuts", fn := fun _ => fun
  | [d1, d2, d3, d4] => { results := [.lit (.bool true)], args := [d1, d2, d3, d4] }
  | _ => none }
def imageCutsRow : OpenClaim := { program := "ytbcldlbmbdfejaa", sum := "c100af02140d9c0b62b0a172814216ff4609e2b31a0b091348b4da73be2341a8", func := "carpetbag/carpetbaglaw25.ImageCuts", spec := "imageCuts", unfollowed := true, recurses := true, apart := false }
def ImageCutsSaid : Prop := imageCutsRow.holds Try.pinned (OpenSpec.ofChange imageCutsSpec)

/-- ITS FALSE NEIGHBOUR: 'it returns false'. Refute it at one input. -/
def imageCutsWrong : ChangeSpec := { name := "imageCuts", fn := fun _ => fun
  | [d1, d2, d3, d4] => { results := [.lit (.bool false)], args := [d1, d2, d3, d4] }
  | _ => none }
def ImageCutsWrongFalsely : Prop := imageCutsRow.holds Try.pinned (OpenSpec.ofChange imageCutsWrong)

/-- 'carpetbaglaw25.ImageLinks': WHATEVER THE INPUT: true; the input reads as it did. -/
def imageLinksSpec : ChangeSpec := { name := "imageLinks", fn := fun _ => fun
  | [d] => { results := [.lit (.bool true)], args := [d] }
  | _ => none }
def imageLinksRow : OpenClaim := { program := "ytbcldlbmbdfejaa", sum := "c100af02140d9c0b62b0a172814216ff4609e2b31a0b091348b4da73be2341a8", func := "carpetbag/carpetbaglaw25.ImageLinks", spec := "imageLinks", unfollowed := true, recurses := true, apart := false }
def ImageLinksSaid : Prop := imageLinksRow.holds Try.pinned (OpenSpec.ofChange imageLinksSpec)

/-- ITS FALSE NEIGHBOUR: 'it returns false'. Refute it at one input. -/
def imageLinksWrong : ChangeSpec := { name := "imageLinks", fn := fun _ => fun
  | [d] => { results := [.lit (.bool false)], args := [d] }
  | _ => none }
def ImageLinksWrongFalsely : Prop := imageLinksRow.holds Try.pinned (OpenSpec.ofChange imageLinksWrong)

/-- 'carpetbaglaw25.ImageNext': WHATEVER THE INPUT: true; the input reads as it did. -/
def imageNextSpec : ChangeSpec := { name := "imageNext", fn := fun _ => fun
  | [d1, d2] => { results := [.lit (.bool true)], args := [d1, d2] }
  | _ => none }
def imageNextRow : OpenClaim := { program := "ytbcldlbmbdfejaa", sum := "c100af02140d9c0b62b0a172814216ff4609e2b31a0b091348b4da73be2341a8", func := "carpetbag/carpetbaglaw25.ImageNext", spec := "imageNext", unfollowed := true, recurses := true, apart := false }
def ImageNextSaid : Prop := imageNextRow.holds Try.pinned (OpenSpec.ofChange imageNextSpec)

/-- ITS FALSE NEIGHBOUR: 'it returns false'. Refute it at one input. -/
def imageNextWrong : ChangeSpec := { name := "imageNext", fn := fun _ => fun
  | [d1, d2] => { results := [.lit (.bool false)], args := [d1, d2] }
  | _ => none }
def ImageNextWrongFalsely : Prop := imageNextRow.holds Try.pinned (OpenSpec.ofChange imageNextWrong)

/- THE SECOND FORM. 'bulk': how many values and letters a reading holds, each counted each time it is reached (what is shared counts as often as it is met; a slice's spare places count too). A statement '..UptoSaid' is the law's where the arguments, and the package variables that the reading takes, are together of bulk at most 1048576: NARROWER than '..Said'. Prove '..Said' where nothing that the law and all that it calls make is longer than what came in: it says more and counts as full. Else prove '..UptoSaid'. A law counts once. -/
mutual
def uptoBulk {H : Type} : DataW H → Nat
  | .lit (.string bytes) => bytes.length + 1
  | .lit _ => 1
  | .nil => 1
  | .ptr d => uptoBulk d + 1
  | .slice elems spare => uptoBulkAll elems + uptoBulkAll spare + 1
  | .agg parts => uptoBulkAll parts + 1
  | .iface _ d => uptoBulk d + 1
  | .map entries => uptoBulkEntries entries + 1
  | .held _ => 1
def uptoBulkAll {H : Type} : List (DataW H) → Nat
  | [] => 0
  | d :: r => uptoBulk d + uptoBulkAll r
def uptoBulkEntries {H : Type} : List (Lit × DataW H) → Nat
  | [] => 0
  | x :: r => uptoBulkEntry x + uptoBulkEntries r
def uptoBulkEntry {H : Type} : Lit × DataW H → Nat
  | (.string bytes, d) => bytes.length + uptoBulk d + 1
  | (_, d) => uptoBulk d + 1
 end
def uptoSmall : (H : Type) → List (DataW H) → Bool := fun _ ds => decide (uptoBulkAll ds ≤ 1048576)
def OpenSpec.upto (s : _root_.Go.ChangeSpec) : _root_.Go.OpenSpec := { _root_.Go.OpenSpec.ofChange s with cond := some uptoSmall }

/-- 'carpetbaglaw25.ImageBytes', WHERE WHAT IT READS IS OF BULK AT MOST 1048576: true; the input reads as it did. -/
def imageBytesUptoRow : OpenClaim := { program := "ytbcldlbmbdfejaa", sum := "c100af02140d9c0b62b0a172814216ff4609e2b31a0b091348b4da73be2341a8", func := "carpetbag/carpetbaglaw25.ImageBytes", spec := "imageBytes", unfollowed := true, recurses := true, apart := false, narrowed := true }
def ImageBytesUptoSaid : Prop := imageBytesUptoRow.holds Try.pinned (OpenSpec.upto imageBytesSpec)

/-- 'carpetbaglaw25.ImageCuts', WHERE WHAT IT READS IS OF BULK AT MOST 1048576: true; the input reads as it did. -/
def imageCutsUptoRow : OpenClaim := { program := "ytbcldlbmbdfejaa", sum := "c100af02140d9c0b62b0a172814216ff4609e2b31a0b091348b4da73be2341a8", func := "carpetbag/carpetbaglaw25.ImageCuts", spec := "imageCuts", unfollowed := true, recurses := true, apart := false, narrowed := true }
def ImageCutsUptoSaid : Prop := imageCutsUptoRow.holds Try.pinned (OpenSpec.upto imageCutsSpec)

/-- 'carpetbaglaw25.ImageLinks', WHERE WHAT IT READS IS OF BULK AT MOST 1048576: true; the input reads as it did. -/
def imageLinksUptoRow : OpenClaim := { program := "ytbcldlbmbdfejaa", sum := "c100af02140d9c0b62b0a172814216ff4609e2b31a0b091348b4da73be2341a8", func := "carpetbag/carpetbaglaw25.ImageLinks", spec := "imageLinks", unfollowed := true, recurses := true, apart := false, narrowed := true }
def ImageLinksUptoSaid : Prop := imageLinksUptoRow.holds Try.pinned (OpenSpec.upto imageLinksSpec)

/-- 'carpetbaglaw25.ImageNext', WHERE WHAT IT READS IS OF BULK AT MOST 1048576: true; the input reads as it did. -/
def imageNextUptoRow : OpenClaim := { program := "ytbcldlbmbdfejaa", sum := "c100af02140d9c0b62b0a172814216ff4609e2b31a0b091348b4da73be2341a8", func := "carpetbag/carpetbaglaw25.ImageNext", spec := "imageNext", unfollowed := true, recurses := true, apart := false, narrowed := true }
def ImageNextUptoSaid : Prop := imageNextUptoRow.holds Try.pinned (OpenSpec.upto imageNextSpec)

end Rows
end Go.Proofs.Ytbcldlbmbdfejaa
