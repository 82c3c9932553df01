/-
  No cell of these rows narrows 'for every input' (looked for: loops, veiled, ifaces, maps, wideKeys, modest, calm, conditions, laid).
  DERIVED. THE GIVEN ROWS OF THIS SEAT. 3 by the template 'for every input the law returns true; each argument reads behind the call as it read before'; 0 by the template 'total and deterministic' (their statements: YtkcpblfdmfkppaaTotals.lean).
  GIVEN WITH THE SEED: the statements are not yours to turn. If you find one false, say at which input.
  Laid BY PROGRAM, IN A SANDBOX (cutbox-rows.mjs): the forced cells as the released guide's own fill.sh prints them over the translation 150cb12883e26ae8… (all of the seat's roots in one cut). By AI agents, Wed Nov 11 2026. No macro, syntax, notation, axiom, sorry.
-/
import Derived.Test.YtkcpblfdmfkppaaChecked
import GoSem.Claim
import GoSem.ClaimJoined
import GoSem.ClaimMapViews
import Derived.JoinedTies
import Derived.KernelRfl
namespace Go.Proofs.Ytkcpblfdmfkppaa
/- THE CELL 'sum', in the pinned program and in every row, IS THE sha256 OF THE DUMP (.gsa) THAT YtkcpblfdmfkppaaProg.lean LOADS. Nothing in Lean hashes anything: it is a label: what it is worth is what the hold of that sum in a sandbox is worth. -/
noncomputable def Try.pinned : Pinned := { name := "ytkcpblfdmfkppaa", sum := "150cb12883e26ae8a714ec4c646781099c499309a0496a77e749357541984186", checked := Try.checked }
namespace Rows
def none {H : Type} : Left H := { results := [], args := [] }

/-- 'carpetbaglaw21.ShaSums': WHATEVER THE INPUT: true; the input reads as it did. -/
def shaSumsSpec : ChangeSpec := { name := "shaSums", fn := fun _ => fun
  | [d] => { results := [.lit (.bool true)], args := [d] }
  | _ => none }
def shaSumsRow : OpenClaim := { program := "ytkcpblfdmfkppaa", sum := "150cb12883e26ae8a714ec4c646781099c499309a0496a77e749357541984186", func := "carpetbag/carpetbaglaw21.ShaSums", spec := "shaSums", inPlace := ["internal/bytealg.IndexByteString", "internal/abi.NoEscape"], apart := false }
def ShaSumsSaid : Prop := shaSumsRow.holds Try.pinned (OpenSpec.ofChange shaSumsSpec)

/-- ITS FALSE NEIGHBOUR: 'it returns false'. Refute it at one input. -/
def shaSumsWrong : ChangeSpec := { name := "shaSums", fn := fun _ => fun
  | [d] => { results := [.lit (.bool false)], args := [d] }
  | _ => none }
def ShaSumsWrongFalsely : Prop := shaSumsRow.holds Try.pinned (OpenSpec.ofChange shaSumsWrong)

/-- 'carpetbaglaw21.ShaParts': WHATEVER THE INPUT: true; the input reads as it did. -/
def shaPartsSpec : ChangeSpec := { name := "shaParts", fn := fun _ => fun
  | [d] => { results := [.lit (.bool true)], args := [d] }
  | _ => none }
def shaPartsRow : OpenClaim := { program := "ytkcpblfdmfkppaa", sum := "150cb12883e26ae8a714ec4c646781099c499309a0496a77e749357541984186", func := "carpetbag/carpetbaglaw21.ShaParts", spec := "shaParts", inPlace := ["internal/bytealg.IndexByteString", "internal/abi.NoEscape"], apart := false }
def ShaPartsSaid : Prop := shaPartsRow.holds Try.pinned (OpenSpec.ofChange shaPartsSpec)

/-- ITS FALSE NEIGHBOUR: 'it returns false'. Refute it at one input. -/
def shaPartsWrong : ChangeSpec := { name := "shaParts", fn := fun _ => fun
  | [d] => { results := [.lit (.bool false)], args := [d] }
  | _ => none }
def ShaPartsWrongFalsely : Prop := shaPartsRow.holds Try.pinned (OpenSpec.ofChange shaPartsWrong)

/-- 'carpetbaglaw21.ShaHex': WHATEVER THE INPUT: true; the input reads as it did. -/
def shaHexSpec : ChangeSpec := { name := "shaHex", fn := fun _ => fun
  | [d1, d2] => { results := [.lit (.bool true)], args := [d1, d2] }
  | _ => none }
def shaHexRow : OpenClaim := { program := "ytkcpblfdmfkppaa", sum := "150cb12883e26ae8a714ec4c646781099c499309a0496a77e749357541984186", func := "carpetbag/carpetbaglaw21.ShaHex", spec := "shaHex", inPlace := ["internal/bytealg.IndexByteString", "internal/abi.NoEscape"], apart := false }
def ShaHexSaid : Prop := shaHexRow.holds Try.pinned (OpenSpec.ofChange shaHexSpec)

/-- ITS FALSE NEIGHBOUR: 'it returns false'. Refute it at one input. -/
def shaHexWrong : ChangeSpec := { name := "shaHex", fn := fun _ => fun
  | [d1, d2] => { results := [.lit (.bool false)], args := [d1, d2] }
  | _ => none }
def ShaHexWrongFalsely : Prop := shaHexRow.holds Try.pinned (OpenSpec.ofChange shaHexWrong)

/- THE SECOND FORM. 'bulk': how many values and letters a reading holds, each counted each time it is reached (what is shared counts as often as it is met; a slice's spare places count too). A statement '..UptoSaid' is the law's where the arguments, and the package variables that the reading takes, are together of bulk at most 1048576: NARROWER than '..Said'. Prove '..Said' where nothing that the law and all that it calls make is longer than what came in: it says more and counts as full. Else prove '..UptoSaid'. A law counts once. -/
mutual
def uptoBulk {H : Type} : DataW H → Nat
  | .lit (.string bytes) => bytes.length + 1
  | .lit _ => 1
  | .nil => 1
  | .ptr d => uptoBulk d + 1
  | .slice elems spare => uptoBulkAll elems + uptoBulkAll spare + 1
  | .agg parts => uptoBulkAll parts + 1
  | .iface _ d => uptoBulk d + 1
  | .map entries => uptoBulkEntries entries + 1
  | .held _ => 1
def uptoBulkAll {H : Type} : List (DataW H) → Nat
  | [] => 0
  | d :: r => uptoBulk d + uptoBulkAll r
def uptoBulkEntries {H : Type} : List (Lit × DataW H) → Nat
  | [] => 0
  | x :: r => uptoBulkEntry x + uptoBulkEntries r
def uptoBulkEntry {H : Type} : Lit × DataW H → Nat
  | (.string bytes, d) => bytes.length + uptoBulk d + 1
  | (_, d) => uptoBulk d + 1
 end
def uptoSmall : (H : Type) → List (DataW H) → Bool := fun _ ds => decide (uptoBulkAll ds ≤ 1048576)
def OpenSpec.upto (s : _root_.Go.ChangeSpec) : _root_.Go.OpenSpec := { _root_.Go.OpenSpec.ofChange s with cond := some uptoSmall }

/-- 'carpetbaglaw21.ShaSums', WHERE WHAT IT READS IS OF BULK AT MOST 1048576: true; the input reads as it did. -/
def shaSumsUptoRow : OpenClaim := { program := "ytkcpblfdmfkppaa", sum := "150cb12883e26ae8a714ec4c646781099c499309a0496a77e749357541984186", func := "carpetbag/carpetbaglaw21.ShaSums", spec := "shaSums", inPlace := ["internal/bytealg.IndexByteString", "internal/abi.NoEscape"], apart := false, narrowed := true }
def ShaSumsUptoSaid : Prop := shaSumsUptoRow.holds Try.pinned (OpenSpec.upto shaSumsSpec)

/-- 'carpetbaglaw21.ShaParts', WHERE WHAT IT READS IS OF BULK AT MOST 1048576: true; the input reads as it did. -/
def shaPartsUptoRow : OpenClaim := { program := "ytkcpblfdmfkppaa", sum := "150cb12883e26ae8a714ec4c646781099c499309a0496a77e749357541984186", func := "carpetbag/carpetbaglaw21.ShaParts", spec := "shaParts", inPlace := ["internal/bytealg.IndexByteString", "internal/abi.NoEscape"], apart := false, narrowed := true }
def ShaPartsUptoSaid : Prop := shaPartsUptoRow.holds Try.pinned (OpenSpec.upto shaPartsSpec)

/-- 'carpetbaglaw21.ShaHex', WHERE WHAT IT READS IS OF BULK AT MOST 1048576: true; the input reads as it did. -/
def shaHexUptoRow : OpenClaim := { program := "ytkcpblfdmfkppaa", sum := "150cb12883e26ae8a714ec4c646781099c499309a0496a77e749357541984186", func := "carpetbag/carpetbaglaw21.ShaHex", spec := "shaHex", inPlace := ["internal/bytealg.IndexByteString", "internal/abi.NoEscape"], apart := false, narrowed := true }
def ShaHexUptoSaid : Prop := shaHexUptoRow.holds Try.pinned (OpenSpec.upto shaHexSpec)

end Rows
end Go.Proofs.Ytkcpblfdmfkppaa
