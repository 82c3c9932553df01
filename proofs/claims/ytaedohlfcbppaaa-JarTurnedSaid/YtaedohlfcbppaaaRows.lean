/-
  No cell of these rows narrows 'for every input' (looked for: loops, veiled, ifaces, maps, wideKeys, modest, calm, conditions, laid).
  DERIVED. THE GIVEN ROWS OF THIS SEAT. 4 by the template 'for every input the law returns true; each argument reads behind the call as it read before'; 0 by the template 'total and deterministic' (their statements: YtaedohlfcbppaaaTotals.lean).
  GIVEN WITH THE SEED: the statements are not yours to turn. If you find one false, say at which input.
  Laid BY PROGRAM, IN A SANDBOX (cutbox-rows.mjs): the forced cells as the released guide's own fill.sh prints them over the translation 54a9b4d388c894f2… (all of the seat's roots in one cut). By AI agents, Wed Nov 11 2026. No macro, syntax, notation, axiom, sorry.
-/
import Derived.Test.YtaedohlfcbppaaaChecked
import GoSem.Claim
import GoSem.ClaimJoined
import GoSem.ClaimMapViews
import Derived.JoinedTies
import Derived.KernelRfl
namespace Go.Proofs.Ytaedohlfcbppaaa
/- THE CELL 'sum', in the pinned program and in every row, IS THE sha256 OF THE DUMP (.gsa) THAT YtaedohlfcbppaaaProg.lean LOADS. Nothing in Lean hashes anything: it is a label: what it is worth is what the hold of that sum in a sandbox is worth. -/
noncomputable def Try.pinned : Pinned := { name := "ytaedohlfcbppaaa", sum := "54a9b4d388c894f23e8f4b01a63a6bf4a30c1d8f5a29309076eeec00b8c6e66a", checked := Try.checked }
namespace Rows
def none {H : Type} : Left H := { results := [], args := [] }

/-- 'carpetbaglaw20.JarReads': WHATEVER THE INPUT: true; the input reads as it did. -/
def jarReadsSpec : ChangeSpec := { name := "jarReads", fn := fun _ => fun
  | [d] => { results := [.lit (.bool true)], args := [d] }
  | _ => none }
def jarReadsRow : OpenClaim := { program := "ytaedohlfcbppaaa", sum := "54a9b4d388c894f23e8f4b01a63a6bf4a30c1d8f5a29309076eeec00b8c6e66a", func := "carpetbag/carpetbaglaw20.JarReads", spec := "jarReads", inPlace := ["internal/bytealg.IndexByteString"], unfollowed := true, recurses := true, apart := false }
def JarReadsSaid : Prop := jarReadsRow.holds Try.pinned (OpenSpec.ofChange jarReadsSpec)

/-- ITS FALSE NEIGHBOUR: 'it returns false'. Refute it at one input. -/
def jarReadsWrong : ChangeSpec := { name := "jarReads", fn := fun _ => fun
  | [d] => { results := [.lit (.bool false)], args := [d] }
  | _ => none }
def JarReadsWrongFalsely : Prop := jarReadsRow.holds Try.pinned (OpenSpec.ofChange jarReadsWrong)

/-- 'carpetbaglaw20.JarTurned': WHATEVER THE INPUT: true; the input reads as it did. -/
def jarTurnedSpec : ChangeSpec := { name := "jarTurned", fn := fun _ => fun
  | [d1, d2, d3, d4, d5] => { results := [.lit (.bool true)], args := [d1, d2, d3, d4, d5] }
  | _ => none }
def jarTurnedRow : OpenClaim := { program := "ytaedohlfcbppaaa", sum := "54a9b4d388c894f23e8f4b01a63a6bf4a30c1d8f5a29309076eeec00b8c6e66a", func := "carpetbag/carpetbaglaw20.JarTurned", spec := "jarTurned", inPlace := ["internal/bytealg.IndexByteString"], unfollowed := true, recurses := true, apart := false }
def JarTurnedSaid : Prop := jarTurnedRow.holds Try.pinned (OpenSpec.ofChange jarTurnedSpec)

/-- ITS FALSE NEIGHBOUR: 'it returns false'. Refute it at one input. -/
def jarTurnedWrong : ChangeSpec := { name := "jarTurned", fn := fun _ => fun
  | [d1, d2, d3, d4, d5] => { results := [.lit (.bool false)], args := [d1, d2, d3, d4, d5] }
  | _ => none }
def JarTurnedWrongFalsely : Prop := jarTurnedRow.holds Try.pinned (OpenSpec.ofChange jarTurnedWrong)

/-- 'carpetbaglaw20.JarCuts': WHATEVER THE INPUT: true; the input reads as it did. -/
def jarCutsSpec : ChangeSpec := { name := "jarCuts", fn := fun _ => fun
  | [d1, d2, d3] => { results := [.lit (.bool true)], args := [d1, d2, d3] }
  | _ => none }
def jarCutsRow : OpenClaim := { program := "ytaedohlfcbppaaa", sum := "54a9b4d388c894f23e8f4b01a63a6bf4a30c1d8f5a29309076eeec00b8c6e66a", func := "carpetbag/carpetbaglaw20.JarCuts", spec := "jarCuts", inPlace := ["internal/bytealg.IndexByteString"], unfollowed := true, recurses := true, apart := false }
def JarCutsSaid : Prop := jarCutsRow.holds Try.pinned (OpenSpec.ofChange jarCutsSpec)

/-- ITS FALSE NEIGHBOUR: 'it returns false'. Refute it at one input. -/
def jarCutsWrong : ChangeSpec := { name := "jarCuts", fn := fun _ => fun
  | [d1, d2, d3] => { results := [.lit (.bool false)], args := [d1, d2, d3] }
  | _ => none }
def JarCutsWrongFalsely : Prop := jarCutsRow.holds Try.pinned (OpenSpec.ofChange jarCutsWrong)

/-- 'carpetbaglaw20.JarPacks': WHATEVER THE INPUT: true; the input reads as it did. -/
def jarPacksSpec : ChangeSpec := { name := "jarPacks", fn := fun _ => fun
  | [d1, d2] => { results := [.lit (.bool true)], args := [d1, d2] }
  | _ => none }
def jarPacksRow : OpenClaim := { program := "ytaedohlfcbppaaa", sum := "54a9b4d388c894f23e8f4b01a63a6bf4a30c1d8f5a29309076eeec00b8c6e66a", func := "carpetbag/carpetbaglaw20.JarPacks", spec := "jarPacks", inPlace := ["internal/bytealg.IndexByteString"], unfollowed := true, recurses := true, apart := false }
def JarPacksSaid : Prop := jarPacksRow.holds Try.pinned (OpenSpec.ofChange jarPacksSpec)

/-- ITS FALSE NEIGHBOUR: 'it returns false'. Refute it at one input. -/
def jarPacksWrong : ChangeSpec := { name := "jarPacks", fn := fun _ => fun
  | [d1, d2] => { results := [.lit (.bool false)], args := [d1, d2] }
  | _ => none }
def JarPacksWrongFalsely : Prop := jarPacksRow.holds Try.pinned (OpenSpec.ofChange jarPacksWrong)

/- THE SECOND FORM. 'bulk': how many values and letters a reading holds, each counted each time it is reached (what is shared counts as often as it is met; a slice's spare places count too). A statement '..UptoSaid' is the law's where the arguments, and the package variables that the reading takes, are together of bulk at most 1048576: NARROWER than '..Said'. Prove '..Said' where nothing that the law and all that it calls make is longer than what came in: it says more and counts as full. Else prove '..UptoSaid'. A law counts once. -/
mutual
def uptoBulk {H : Type} : DataW H → Nat
  | .lit (.string bytes) => bytes.length + 1
  | .lit _ => 1
  | .nil => 1
  | .ptr d => uptoBulk d + 1
  | .slice elems spare => uptoBulkAll elems + uptoBulkAll spare + 1
  | .agg parts => uptoBulkAll parts + 1
  | .iface _ d => uptoBulk d + 1
  | .map entries => uptoBulkEntries entries + 1
  | .held _ => 1
def uptoBulkAll {H : Type} : List (DataW H) → Nat
  | [] => 0
  | d :: r => uptoBulk d + uptoBulkAll r
def uptoBulkEntries {H : Type} : List (Lit × DataW H) → Nat
  | [] => 0
  | x :: r => uptoBulkEntry x + uptoBulkEntries r
def uptoBulkEntry {H : Type} : Lit × DataW H → Nat
  | (.string bytes, d) => bytes.length + uptoBulk d + 1
  | (_, d) => uptoBulk d + 1
 end
def uptoSmall : (H : Type) → List (DataW H) → Bool := fun _ ds => decide (uptoBulkAll ds ≤ 1048576)
def OpenSpec.upto (s : _root_.Go.ChangeSpec) : _root_.Go.OpenSpec := { _root_.Go.OpenSpec.ofChange s with cond := some uptoSmall }

/-- 'carpetbaglaw20.JarReads', WHERE WHAT IT READS IS OF BULK AT MOST 1048576: true; the input reads as it did. -/
def jarReadsUptoRow : OpenClaim := { program := "ytaedohlfcbppaaa", sum := "54a9b4d388c894f23e8f4b01a63a6bf4a30c1d8f5a29309076eeec00b8c6e66a", func := "carpetbag/carpetbaglaw20.JarReads", spec := "jarReads", inPlace := ["internal/bytealg.IndexByteString"], unfollowed := true, recurses := true, apart := false, narrowed := true }
def JarReadsUptoSaid : Prop := jarReadsUptoRow.holds Try.pinned (OpenSpec.upto jarReadsSpec)

/-- 'carpetbaglaw20.JarTurned', WHERE WHAT IT READS IS OF BULK AT MOST 1048576: true; the input reads as it did. -/
def jarTurnedUptoRow : OpenClaim := { program := "ytaedohlfcbppaaa", sum := "54a9b4d388c894f23e8f4b01a63a6bf4a30c1d8f5a29309076eeec00b8c6e66a", func := "carpetbag/carpetbaglaw20.JarTurned", spec := "jarTurned", inPlace := ["internal/bytealg.IndexByteString"], unfollowed := true, recurses := true, apart := false, narrowed := true }
def JarTurnedUptoSaid : Prop := jarTurnedUptoRow.holds Try.pinned (OpenSpec.upto jarTurnedSpec)

/-- 'carpetbaglaw20.JarCuts', WHERE WHAT IT READS IS OF BULK AT MOST 1048576: true; the input reads as it did. -/
def jarCutsUptoRow : OpenClaim := { program := "ytaedohlfcbppaaa", sum := "54a9b4d388c894f23e8f4b01a63a6bf4a30c1d8f5a29309076eeec00b8c6e66a", func := "carpetbag/carpetbaglaw20.JarCuts", spec := "jarCuts", inPlace := ["internal/bytealg.IndexByteString"], unfollowed := true, recurses := true, apart := false, narrowed := true }
def JarCutsUptoSaid : Prop := jarCutsUptoRow.holds Try.pinned (OpenSpec.upto jarCutsSpec)

/-- 'carpetbaglaw20.JarPacks', WHERE WHAT IT READS IS OF BULK AT MOST 1048576: true; the input reads as it did. -/
def jarPacksUptoRow : OpenClaim := { program := "ytaedohlfcbppaaa", sum := "54a9b4d388c894f23e8f4b01a63a6bf4a30c1d8f5a29309076eeec00b8c6e66a", func := "carpetbag/carpetbaglaw20.JarPacks", spec := "jarPacks", inPlace := ["internal/bytealg.IndexByteString"], unfollowed := true, recurses := true, apart := false, narrowed := true }
def JarPacksUptoSaid : Prop := jarPacksUptoRow.holds Try.pinned (OpenSpec.upto jarPacksSpec)

end Rows
end Go.Proofs.Ytaedohlfcbppaaa
