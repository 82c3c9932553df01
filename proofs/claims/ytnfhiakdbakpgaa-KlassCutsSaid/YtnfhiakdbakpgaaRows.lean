/-
  No cell of these rows narrows 'for every input' (looked for: loops, veiled, ifaces, maps, wideKeys, modest, calm, conditions, laid).
  DERIVED. THE GIVEN ROWS OF THIS SEAT. 4 by the template 'for every input the law returns true; each argument reads behind the call as it read before'; 0 by the template 'total and deterministic' (their statements: YtnfhiakdbakpgaaTotals.lean).
  GIVEN WITH THE SEED: the statements are not yours to turn. If you find one false, say at which input.
  Laid BY PROGRAM, IN A SANDBOX (cutbox-rows.mjs): the forced cells as the released guide's own fill.sh prints them over the translation 29c7f4aa9ceda07f… (all of the seat's roots in one cut). By AI agents, Wed Nov 11 2026. No macro, syntax, notation, axiom, sorry.
-/
import Derived.Test.YtnfhiakdbakpgaaChecked
import GoSem.Claim
import GoSem.ClaimJoined
import GoSem.ClaimMapViews
import Derived.JoinedTies
import Derived.KernelRfl
namespace Go.Proofs.Ytnfhiakdbakpgaa
/- THE CELL 'sum', in the pinned program and in every row, IS THE sha256 OF THE DUMP (.gsa) THAT YtnfhiakdbakpgaaProg.lean LOADS. Nothing in Lean hashes anything: it is a label: what it is worth is what the hold of that sum in a sandbox is worth. -/
noncomputable def Try.pinned : Pinned := { name := "ytnfhiakdbakpgaa", sum := "29c7f4aa9ceda07f3beb9a240888ef41c03939b40430f1b59a0727b7225205f0", checked := Try.checked }
namespace Rows
def none {H : Type} : Left H := { results := [], args := [] }

/-- 'carpetbaglaw14.KlassBytes': WHATEVER THE INPUT: true; the input reads as it did. -/
def klassBytesSpec : ChangeSpec := { name := "klassBytes", fn := fun _ => fun
  | [d] => { results := [.lit (.bool true)], args := [d] }
  | _ => none }
def klassBytesRow : OpenClaim := { program := "ytnfhiakdbakpgaa", sum := "29c7f4aa9ceda07f3beb9a240888ef41c03939b40430f1b59a0727b7225205f0", func := "carpetbag/carpetbaglaw14.KlassBytes", spec := "klassBytes", unfollowed := true, recurses := true, apart := false }
def KlassBytesSaid : Prop := klassBytesRow.holds Try.pinned (OpenSpec.ofChange klassBytesSpec)

/-- ITS FALSE NEIGHBOUR: 'it returns false'. Refute it at one input. -/
def klassBytesWrong : ChangeSpec := { name := "klassBytes", fn := fun _ => fun
  | [d] => { results := [.lit (.bool false)], args := [d] }
  | _ => none }
def KlassBytesWrongFalsely : Prop := klassBytesRow.holds Try.pinned (OpenSpec.ofChange klassBytesWrong)

/-- 'carpetbaglaw14.KlassReads': WHATEVER THE INPUT: true; the input reads as it did. -/
def klassReadsSpec : ChangeSpec := { name := "klassReads", fn := fun _ => fun
  | [d] => { results := [.lit (.bool true)], args := [d] }
  | _ => none }
def klassReadsRow : OpenClaim := { program := "ytnfhiakdbakpgaa", sum := "29c7f4aa9ceda07f3beb9a240888ef41c03939b40430f1b59a0727b7225205f0", func := "carpetbag/carpetbaglaw14.KlassReads", spec := "klassReads", unfollowed := true, recurses := true, apart := false }
def KlassReadsSaid : Prop := klassReadsRow.holds Try.pinned (OpenSpec.ofChange klassReadsSpec)

/-- ITS FALSE NEIGHBOUR: 'it returns false'. Refute it at one input. -/
def klassReadsWrong : ChangeSpec := { name := "klassReads", fn := fun _ => fun
  | [d] => { results := [.lit (.bool false)], args := [d] }
  | _ => none }
def KlassReadsWrongFalsely : Prop := klassReadsRow.holds Try.pinned (OpenSpec.ofChange klassReadsWrong)

/-- 'carpetbaglaw14.KlassCuts': WHATEVER THE INPUT: true; the input reads as it did. -/
def klassCutsSpec : ChangeSpec := { name := "klassCuts", fn := fun _ => fun
  | [d1, d2, d3] => { results := [.lit (.bool true)], args := [d1, d2, d3] }
  | _ => none }
def klassCutsRow : OpenClaim := { program := "ytnfhiakdbakpgaa", sum := "29c7f4aa9ceda07f3beb9a240888ef41c03939b40430f1b59a0727b7225205f0", func := "carpetbag/carpetbaglaw14.KlassCuts", spec := "klassCuts", unfollowed := true, recurses := true, apart := false }
def KlassCutsSaid : Prop := klassCutsRow.holds Try.pinned (OpenSpec.ofChange klassCutsSpec)

/-- ITS FALSE NEIGHBOUR: 'it returns false'. Refute it at one input. -/
def klassCutsWrong : ChangeSpec := { name := "klassCuts", fn := fun _ => fun
  | [d1, d2, d3] => { results := [.lit (.bool false)], args := [d1, d2, d3] }
  | _ => none }
def KlassCutsWrongFalsely : Prop := klassCutsRow.holds Try.pinned (OpenSpec.ofChange klassCutsWrong)

/-- 'carpetbaglaw14.KlassMore': WHATEVER THE INPUT: true; the input reads as it did. -/
def klassMoreSpec : ChangeSpec := { name := "klassMore", fn := fun _ => fun
  | [d1, d2] => { results := [.lit (.bool true)], args := [d1, d2] }
  | _ => none }
def klassMoreRow : OpenClaim := { program := "ytnfhiakdbakpgaa", sum := "29c7f4aa9ceda07f3beb9a240888ef41c03939b40430f1b59a0727b7225205f0", func := "carpetbag/carpetbaglaw14.KlassMore", spec := "klassMore", unfollowed := true, recurses := true, apart := false }
def KlassMoreSaid : Prop := klassMoreRow.holds Try.pinned (OpenSpec.ofChange klassMoreSpec)

/-- ITS FALSE NEIGHBOUR: 'it returns false'. Refute it at one input. -/
def klassMoreWrong : ChangeSpec := { name := "klassMore", fn := fun _ => fun
  | [d1, d2] => { results := [.lit (.bool false)], args := [d1, d2] }
  | _ => none }
def KlassMoreWrongFalsely : Prop := klassMoreRow.holds Try.pinned (OpenSpec.ofChange klassMoreWrong)

/- THE SECOND FORM. 'bulk': how many values and letters a reading holds, each counted each time it is reached (what is shared counts as often as it is met; a slice's spare places count too). A statement '..UptoSaid' is the law's where the arguments, and the package variables that the reading takes, are together of bulk at most 1048576: NARROWER than '..Said'. Prove '..Said' where nothing that the law and all that it calls make is longer than what came in: it says more and counts as full. Else prove '..UptoSaid'. A law counts once. -/
mutual
def uptoBulk {H : Type} : DataW H → Nat
  | .lit (.string bytes) => bytes.length + 1
  | .lit _ => 1
  | .nil => 1
  | .ptr d => uptoBulk d + 1
  | .slice elems spare => uptoBulkAll elems + uptoBulkAll spare + 1
  | .agg parts => uptoBulkAll parts + 1
  | .iface _ d => uptoBulk d + 1
  | .map entries => uptoBulkEntries entries + 1
  | .held _ => 1
def uptoBulkAll {H : Type} : List (DataW H) → Nat
  | [] => 0
  | d :: r => uptoBulk d + uptoBulkAll r
def uptoBulkEntries {H : Type} : List (Lit × DataW H) → Nat
  | [] => 0
  | x :: r => uptoBulkEntry x + uptoBulkEntries r
def uptoBulkEntry {H : Type} : Lit × DataW H → Nat
  | (.string bytes, d) => bytes.length + uptoBulk d + 1
  | (_, d) => uptoBulk d + 1
 end
def uptoSmall : (H : Type) → List (DataW H) → Bool := fun _ ds => decide (uptoBulkAll ds ≤ 1048576)
def OpenSpec.upto (s : _root_.Go.ChangeSpec) : _root_.Go.OpenSpec := { _root_.Go.OpenSpec.ofChange s with cond := some uptoSmall }

/-- 'carpetbaglaw14.KlassBytes', WHERE WHAT IT READS IS OF BULK AT MOST 1048576: true; the input reads as it did. -/
def klassBytesUptoRow : OpenClaim := { program := "ytnfhiakdbakpgaa", sum := "29c7f4aa9ceda07f3beb9a240888ef41c03939b40430f1b59a0727b7225205f0", func := "carpetbag/carpetbaglaw14.KlassBytes", spec := "klassBytes", unfollowed := true, recurses := true, apart := false, narrowed := true }
def KlassBytesUptoSaid : Prop := klassBytesUptoRow.holds Try.pinned (OpenSpec.upto klassBytesSpec)

/-- 'carpetbaglaw14.KlassReads', WHERE WHAT IT READS IS OF BULK AT MOST 1048576: true; the input reads as it did. -/
def klassReadsUptoRow : OpenClaim := { program := "ytnfhiakdbakpgaa", sum := "29c7f4aa9ceda07f3beb9a240888ef41c03939b40430f1b59a0727b7225205f0", func := "carpetbag/carpetbaglaw14.KlassReads", spec := "klassReads", unfollowed := true, recurses := true, apart := false, narrowed := true }
def KlassReadsUptoSaid : Prop := klassReadsUptoRow.holds Try.pinned (OpenSpec.upto klassReadsSpec)

/-- 'carpetbaglaw14.KlassCuts', WHERE WHAT IT READS IS OF BULK AT MOST 1048576: true; the input reads as it did. -/
def klassCutsUptoRow : OpenClaim := { program := "ytnfhiakdbakpgaa", sum := "29c7f4aa9ceda07f3beb9a240888ef41c03939b40430f1b59a0727b7225205f0", func := "carpetbag/carpetbaglaw14.KlassCuts", spec := "klassCuts", unfollowed := true, recurses := true, apart := false, narrowed := true }
def KlassCutsUptoSaid : Prop := klassCutsUptoRow.holds Try.pinned (OpenSpec.upto klassCutsSpec)

/-- 'carpetbaglaw14.KlassMore', WHERE WHAT IT READS IS OF BULK AT MOST 1048576: true; the input reads as it did. -/
def klassMoreUptoRow : OpenClaim := { program := "ytnfhiakdbakpgaa", sum := "29c7f4aa9ceda07f3beb9a240888ef41c03939b40430f1b59a0727b7225205f0", func := "carpetbag/carpetbaglaw14.KlassMore", spec := "klassMore", unfollowed := true, recurses := true, apart := false, narrowed := true }
def KlassMoreUptoSaid : Prop := klassMoreUptoRow.holds Try.pinned (OpenSpec.upto klassMoreSpec)

end Rows
end Go.Proofs.Ytnfhiakdbakpgaa
