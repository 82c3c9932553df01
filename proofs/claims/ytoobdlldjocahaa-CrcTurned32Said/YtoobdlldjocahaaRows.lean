/-
  No cell of these rows narrows 'for every input' (looked for: loops, veiled, ifaces, maps, wideKeys, modest, calm, conditions, laid).
  DERIVED. THE GIVEN ROWS OF THIS SEAT. 4 by the template 'for every input the law returns true; each argument reads behind the call as it read before'; 0 by the template 'total and deterministic' (their statements: YtoobdlldjocahaaTotals.lean).
  GIVEN WITH THE SEED: the statements are not yours to turn. If you find one false, say at which input.
  Laid BY PROGRAM, IN A SANDBOX (cutbox-rows.mjs): the forced cells as the released guide's own fill.sh prints them over the translation 66df7c77e0c32af5… (all of the seat's roots in one cut). By AI agents, Wed Nov 11 2026. No macro, syntax, notation, axiom, sorry.
-/
import Derived.Test.YtoobdlldjocahaaChecked
import GoSem.Claim
import GoSem.ClaimJoined
import GoSem.ClaimMapViews
import Derived.JoinedTies
import Derived.KernelRfl
namespace Go.Proofs.Ytoobdlldjocahaa
/- THE CELL 'sum', in the pinned program and in every row, IS THE sha256 OF THE DUMP (.gsa) THAT YtoobdlldjocahaaProg.lean LOADS. Nothing in Lean hashes anything: it is a label: what it is worth is what the hold of that sum in a sandbox is worth. -/
noncomputable def Try.pinned : Pinned := { name := "ytoobdlldjocahaa", sum := "66df7c77e0c32af5a2bcb7836f3da49d23a651502078ac70fc245fc80ec58305", checked := Try.checked }
namespace Rows
def none {H : Type} : Left H := { results := [], args := [] }

/-- 'carpetbaglaw03.CrcSums': WHATEVER THE INPUT: true; the input reads as it did. -/
def crcSumsSpec : ChangeSpec := { name := "crcSums", fn := fun _ => fun
  | [d] => { results := [.lit (.bool true)], args := [d] }
  | _ => none }
def crcSumsRow : OpenClaim := { program := "ytoobdlldjocahaa", sum := "66df7c77e0c32af5a2bcb7836f3da49d23a651502078ac70fc245fc80ec58305", func := "carpetbag/carpetbaglaw03.CrcSums", spec := "crcSums", apart := false }
def CrcSumsSaid : Prop := crcSumsRow.holds Try.pinned (OpenSpec.ofChange crcSumsSpec)

/-- ITS FALSE NEIGHBOUR: 'it returns false'. Refute it at one input. -/
def crcSumsWrong : ChangeSpec := { name := "crcSums", fn := fun _ => fun
  | [d] => { results := [.lit (.bool false)], args := [d] }
  | _ => none }
def CrcSumsWrongFalsely : Prop := crcSumsRow.holds Try.pinned (OpenSpec.ofChange crcSumsWrong)

/-- 'carpetbaglaw03.CrcMore': WHATEVER THE INPUT: true; the input reads as it did. -/
def crcMoreSpec : ChangeSpec := { name := "crcMore", fn := fun _ => fun
  | [d1, d2, d3] => { results := [.lit (.bool true)], args := [d1, d2, d3] }
  | _ => none }
def crcMoreRow : OpenClaim := { program := "ytoobdlldjocahaa", sum := "66df7c77e0c32af5a2bcb7836f3da49d23a651502078ac70fc245fc80ec58305", func := "carpetbag/carpetbaglaw03.CrcMore", spec := "crcMore", apart := false }
def CrcMoreSaid : Prop := crcMoreRow.holds Try.pinned (OpenSpec.ofChange crcMoreSpec)

/-- ITS FALSE NEIGHBOUR: 'it returns false'. Refute it at one input. -/
def crcMoreWrong : ChangeSpec := { name := "crcMore", fn := fun _ => fun
  | [d1, d2, d3] => { results := [.lit (.bool false)], args := [d1, d2, d3] }
  | _ => none }
def CrcMoreWrongFalsely : Prop := crcMoreRow.holds Try.pinned (OpenSpec.ofChange crcMoreWrong)

/-- 'carpetbaglaw03.CrcTurned16': WHATEVER THE INPUT: true; the input reads as it did. -/
def crcTurned16Spec : ChangeSpec := { name := "crcTurned16", fn := fun _ => fun
  | [d1, d2, d3] => { results := [.lit (.bool true)], args := [d1, d2, d3] }
  | _ => none }
def crcTurned16Row : OpenClaim := { program := "ytoobdlldjocahaa", sum := "66df7c77e0c32af5a2bcb7836f3da49d23a651502078ac70fc245fc80ec58305", func := "carpetbag/carpetbaglaw03.CrcTurned16", spec := "crcTurned16", apart := false }
def CrcTurned16Said : Prop := crcTurned16Row.holds Try.pinned (OpenSpec.ofChange crcTurned16Spec)

/-- ITS FALSE NEIGHBOUR: 'it returns false'. Refute it at one input. -/
def crcTurned16Wrong : ChangeSpec := { name := "crcTurned16", fn := fun _ => fun
  | [d1, d2, d3] => { results := [.lit (.bool false)], args := [d1, d2, d3] }
  | _ => none }
def CrcTurned16WrongFalsely : Prop := crcTurned16Row.holds Try.pinned (OpenSpec.ofChange crcTurned16Wrong)

/-- 'carpetbaglaw03.CrcTurned32': WHATEVER THE INPUT: true; the input reads as it did. -/
def crcTurned32Spec : ChangeSpec := { name := "crcTurned32", fn := fun _ => fun
  | [d1, d2, d3] => { results := [.lit (.bool true)], args := [d1, d2, d3] }
  | _ => none }
def crcTurned32Row : OpenClaim := { program := "ytoobdlldjocahaa", sum := "66df7c77e0c32af5a2bcb7836f3da49d23a651502078ac70fc245fc80ec58305", func := "carpetbag/carpetbaglaw03.CrcTurned32", spec := "crcTurned32", apart := false }
def CrcTurned32Said : Prop := crcTurned32Row.holds Try.pinned (OpenSpec.ofChange crcTurned32Spec)

/-- ITS FALSE NEIGHBOUR: 'it returns false'. Refute it at one input. -/
def crcTurned32Wrong : ChangeSpec := { name := "crcTurned32", fn := fun _ => fun
  | [d1, d2, d3] => { results := [.lit (.bool false)], args := [d1, d2, d3] }
  | _ => none }
def CrcTurned32WrongFalsely : Prop := crcTurned32Row.holds Try.pinned (OpenSpec.ofChange crcTurned32Wrong)

/- THE SECOND FORM. 'bulk': how many values and letters a reading holds, each counted each time it is reached (what is shared counts as often as it is met; a slice's spare places count too). A statement '..UptoSaid' is the law's where the arguments, and the package variables that the reading takes, are together of bulk at most 1048576: NARROWER than '..Said'. Prove '..Said' where nothing that the law and all that it calls make is longer than what came in: it says more and counts as full. Else prove '..UptoSaid'. A law counts once. -/
mutual
def uptoBulk {H : Type} : DataW H → Nat
  | .lit (.string bytes) => bytes.length + 1
  | .lit _ => 1
  | .nil => 1
  | .ptr d => uptoBulk d + 1
  | .slice elems spare => uptoBulkAll elems + uptoBulkAll spare + 1
  | .agg parts => uptoBulkAll parts + 1
  | .iface _ d => uptoBulk d + 1
  | .map entries => uptoBulkEntries entries + 1
  | .held _ => 1
def uptoBulkAll {H : Type} : List (DataW H) → Nat
  | [] => 0
  | d :: r => uptoBulk d + uptoBulkAll r
def uptoBulkEntries {H : Type} : List (Lit × DataW H) → Nat
  | [] => 0
  | x :: r => uptoBulkEntry x + uptoBulkEntries r
def uptoBulkEntry {H : Type} : Lit × DataW H → Nat
  | (.string bytes, d) => bytes.length + uptoBulk d + 1
  | (_, d) => uptoBulk d + 1
 end
def uptoSmall : (H : Type) → List (DataW H) → Bool := fun _ ds => decide (uptoBulkAll ds ≤ 1048576)
def OpenSpec.upto (s : _root_.Go.ChangeSpec) : _root_.Go.OpenSpec := { _root_.Go.OpenSpec.ofChange s with cond := some uptoSmall }

/-- 'carpetbaglaw03.CrcSums', WHERE WHAT IT READS IS OF BULK AT MOST 1048576: true; the input reads as it did. -/
def crcSumsUptoRow : OpenClaim := { program := "ytoobdlldjocahaa", sum := "66df7c77e0c32af5a2bcb7836f3da49d23a651502078ac70fc245fc80ec58305", func := "carpetbag/carpetbaglaw03.CrcSums", spec := "crcSums", apart := false, narrowed := true }
def CrcSumsUptoSaid : Prop := crcSumsUptoRow.holds Try.pinned (OpenSpec.upto crcSumsSpec)

/-- 'carpetbaglaw03.CrcMore', WHERE WHAT IT READS IS OF BULK AT MOST 1048576: true; the input reads as it did. -/
def crcMoreUptoRow : OpenClaim := { program := "ytoobdlldjocahaa", sum := "66df7c77e0c32af5a2bcb7836f3da49d23a651502078ac70fc245fc80ec58305", func := "carpetbag/carpetbaglaw03.CrcMore", spec := "crcMore", apart := false, narrowed := true }
def CrcMoreUptoSaid : Prop := crcMoreUptoRow.holds Try.pinned (OpenSpec.upto crcMoreSpec)

/-- 'carpetbaglaw03.CrcTurned16', WHERE WHAT IT READS IS OF BULK AT MOST 1048576: true; the input reads as it did. -/
def crcTurned16UptoRow : OpenClaim := { program := "ytoobdlldjocahaa", sum := "66df7c77e0c32af5a2bcb7836f3da49d23a651502078ac70fc245fc80ec58305", func := "carpetbag/carpetbaglaw03.CrcTurned16", spec := "crcTurned16", apart := false, narrowed := true }
def CrcTurned16UptoSaid : Prop := crcTurned16UptoRow.holds Try.pinned (OpenSpec.upto crcTurned16Spec)

/-- 'carpetbaglaw03.CrcTurned32', WHERE WHAT IT READS IS OF BULK AT MOST 1048576: true; the input reads as it did. -/
def crcTurned32UptoRow : OpenClaim := { program := "ytoobdlldjocahaa", sum := "66df7c77e0c32af5a2bcb7836f3da49d23a651502078ac70fc245fc80ec58305", func := "carpetbag/carpetbaglaw03.CrcTurned32", spec := "crcTurned32", apart := false, narrowed := true }
def CrcTurned32UptoSaid : Prop := crcTurned32UptoRow.holds Try.pinned (OpenSpec.upto crcTurned32Spec)

end Rows
end Go.Proofs.Ytoobdlldjocahaa
