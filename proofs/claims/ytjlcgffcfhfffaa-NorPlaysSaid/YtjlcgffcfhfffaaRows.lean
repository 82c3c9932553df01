/-
  No cell of these rows narrows 'for every input' (looked for: loops, veiled, ifaces, maps, wideKeys, modest, calm, conditions, laid).
  DERIVED. THE GIVEN ROWS OF THIS SEAT. 5 by the template 'for every input the law returns true; each argument reads behind the call as it read before'; 0 by the template 'total and deterministic' (their statements: YtjlcgffcfhfffaaTotals.lean).
  GIVEN WITH THE SEED: the statements are not yours to turn. If you find one false, say at which input.
  Laid BY PROGRAM, IN A SANDBOX (cutbox-rows.mjs): the forced cells as the released guide's own fill.sh prints them over the translation b46582189a6242ab… (all of the seat's roots in one cut). By AI agents, Wed Nov 11 2026. No macro, syntax, notation, axiom, sorry.
-/
import Derived.Test.YtjlcgffcfhfffaaChecked
import GoSem.Claim
import GoSem.ClaimJoined
import GoSem.ClaimMapViews
import Derived.JoinedTies
import Derived.KernelRfl
namespace Go.Proofs.Ytjlcgffcfhfffaa
/- THE CELL 'sum', in the pinned program and in every row, IS THE sha256 OF THE DUMP (.gsa) THAT YtjlcgffcfhfffaaProg.lean LOADS. Nothing in Lean hashes anything: it is a label: what it is worth is what the hold of that sum in a sandbox is worth. -/
noncomputable def Try.pinned : Pinned := { name := "ytjlcgffcfhfffaa", sum := "b46582189a6242abc771f4c422758d7e963e32f17503dc168ef0c530aeced001", checked := Try.checked }
namespace Rows
def none {H : Type} : Left H := { results := [], args := [] }

/-- 'carpetbaglaw01.NorWears': WHATEVER THE INPUT: true; the input reads as it did. -/
def norWearsSpec : ChangeSpec := { name := "norWears", fn := fun _ => fun
  | [d1, d2, d3, d4, d5] => { results := [.lit (.bool true)], args := [d1, d2, d3, d4, d5] }
  | _ => none }
def norWearsRow : OpenClaim := { program := "ytjlcgffcfhfffaa", sum := "b46582189a6242abc771f4c422758d7e963e32f17503dc168ef0c530aeced001", func := "carpetbag/carpetbaglaw01.NorWears", spec := "norWears", inPlace := ["internal/bytealg.MakeNoZero"], apart := false }
def NorWearsSaid : Prop := norWearsRow.holds Try.pinned (OpenSpec.ofChange norWearsSpec)

/-- ITS FALSE NEIGHBOUR: 'it returns false'. Refute it at one input. -/
def norWearsWrong : ChangeSpec := { name := "norWears", fn := fun _ => fun
  | [d1, d2, d3, d4, d5] => { results := [.lit (.bool false)], args := [d1, d2, d3, d4, d5] }
  | _ => none }
def NorWearsWrongFalsely : Prop := norWearsRow.holds Try.pinned (OpenSpec.ofChange norWearsWrong)

/-- 'carpetbaglaw01.NorClears': WHATEVER THE INPUT: true; the input reads as it did. -/
def norClearsSpec : ChangeSpec := { name := "norClears", fn := fun _ => fun
  | [d1, d2, d3, d4, d5, d6, d7] => { results := [.lit (.bool true)], args := [d1, d2, d3, d4, d5, d6, d7] }
  | _ => none }
def norClearsRow : OpenClaim := { program := "ytjlcgffcfhfffaa", sum := "b46582189a6242abc771f4c422758d7e963e32f17503dc168ef0c530aeced001", func := "carpetbag/carpetbaglaw01.NorClears", spec := "norClears", inPlace := ["internal/bytealg.MakeNoZero"], apart := false }
def NorClearsSaid : Prop := norClearsRow.holds Try.pinned (OpenSpec.ofChange norClearsSpec)

/-- ITS FALSE NEIGHBOUR: 'it returns false'. Refute it at one input. -/
def norClearsWrong : ChangeSpec := { name := "norClears", fn := fun _ => fun
  | [d1, d2, d3, d4, d5, d6, d7] => { results := [.lit (.bool false)], args := [d1, d2, d3, d4, d5, d6, d7] }
  | _ => none }
def NorClearsWrongFalsely : Prop := norClearsRow.holds Try.pinned (OpenSpec.ofChange norClearsWrong)

/-- 'carpetbaglaw01.NorFuse': WHATEVER THE INPUT: true; the input reads as it did. -/
def norFuseSpec : ChangeSpec := { name := "norFuse", fn := fun _ => fun
  | [d1, d2, d3] => { results := [.lit (.bool true)], args := [d1, d2, d3] }
  | _ => none }
def norFuseRow : OpenClaim := { program := "ytjlcgffcfhfffaa", sum := "b46582189a6242abc771f4c422758d7e963e32f17503dc168ef0c530aeced001", func := "carpetbag/carpetbaglaw01.NorFuse", spec := "norFuse", inPlace := ["internal/bytealg.MakeNoZero"], apart := false }
def NorFuseSaid : Prop := norFuseRow.holds Try.pinned (OpenSpec.ofChange norFuseSpec)

/-- ITS FALSE NEIGHBOUR: 'it returns false'. Refute it at one input. -/
def norFuseWrong : ChangeSpec := { name := "norFuse", fn := fun _ => fun
  | [d1, d2, d3] => { results := [.lit (.bool false)], args := [d1, d2, d3] }
  | _ => none }
def NorFuseWrongFalsely : Prop := norFuseRow.holds Try.pinned (OpenSpec.ofChange norFuseWrong)

/-- 'carpetbaglaw01.NorPlays': WHATEVER THE INPUT: true; the input reads as it did. -/
def norPlaysSpec : ChangeSpec := { name := "norPlays", fn := fun _ => fun
  | [d1, d2] => { results := [.lit (.bool true)], args := [d1, d2] }
  | _ => none }
def norPlaysRow : OpenClaim := { program := "ytjlcgffcfhfffaa", sum := "b46582189a6242abc771f4c422758d7e963e32f17503dc168ef0c530aeced001", func := "carpetbag/carpetbaglaw01.NorPlays", spec := "norPlays", inPlace := ["internal/bytealg.MakeNoZero"], apart := false }
def NorPlaysSaid : Prop := norPlaysRow.holds Try.pinned (OpenSpec.ofChange norPlaysSpec)

/-- ITS FALSE NEIGHBOUR: 'it returns false'. Refute it at one input. -/
def norPlaysWrong : ChangeSpec := { name := "norPlays", fn := fun _ => fun
  | [d1, d2] => { results := [.lit (.bool false)], args := [d1, d2] }
  | _ => none }
def NorPlaysWrongFalsely : Prop := norPlaysRow.holds Try.pinned (OpenSpec.ofChange norPlaysWrong)

/-- 'carpetbaglaw01.NorNil': WHATEVER THE INPUT: true; the input reads as it did. -/
def norNilSpec : ChangeSpec := { name := "norNil", fn := fun _ => fun
  | [d1, d2, d3, d4] => { results := [.lit (.bool true)], args := [d1, d2, d3, d4] }
  | _ => none }
def norNilRow : OpenClaim := { program := "ytjlcgffcfhfffaa", sum := "b46582189a6242abc771f4c422758d7e963e32f17503dc168ef0c530aeced001", func := "carpetbag/carpetbaglaw01.NorNil", spec := "norNil", inPlace := ["internal/bytealg.MakeNoZero"], apart := false }
def NorNilSaid : Prop := norNilRow.holds Try.pinned (OpenSpec.ofChange norNilSpec)

/-- ITS FALSE NEIGHBOUR: 'it returns false'. Refute it at one input. -/
def norNilWrong : ChangeSpec := { name := "norNil", fn := fun _ => fun
  | [d1, d2, d3, d4] => { results := [.lit (.bool false)], args := [d1, d2, d3, d4] }
  | _ => none }
def NorNilWrongFalsely : Prop := norNilRow.holds Try.pinned (OpenSpec.ofChange norNilWrong)

/- THE SECOND FORM. 'bulk': how many values and letters a reading holds, each counted each time it is reached (what is shared counts as often as it is met; a slice's spare places count too). A statement '..UptoSaid' is the law's where the arguments, and the package variables that the reading takes, are together of bulk at most 1048576: NARROWER than '..Said'. Prove '..Said' where nothing that the law and all that it calls make is longer than what came in: it says more and counts as full. Else prove '..UptoSaid'. A law counts once. -/
mutual
def uptoBulk {H : Type} : DataW H → Nat
  | .lit (.string bytes) => bytes.length + 1
  | .lit _ => 1
  | .nil => 1
  | .ptr d => uptoBulk d + 1
  | .slice elems spare => uptoBulkAll elems + uptoBulkAll spare + 1
  | .agg parts => uptoBulkAll parts + 1
  | .iface _ d => uptoBulk d + 1
  | .map entries => uptoBulkEntries entries + 1
  | .held _ => 1
def uptoBulkAll {H : Type} : List (DataW H) → Nat
  | [] => 0
  | d :: r => uptoBulk d + uptoBulkAll r
def uptoBulkEntries {H : Type} : List (Lit × DataW H) → Nat
  | [] => 0
  | x :: r => uptoBulkEntry x + uptoBulkEntries r
def uptoBulkEntry {H : Type} : Lit × DataW H → Nat
  | (.string bytes, d) => bytes.length + uptoBulk d + 1
  | (_, d) => uptoBulk d + 1
 end
def uptoSmall : (H : Type) → List (DataW H) → Bool := fun _ ds => decide (uptoBulkAll ds ≤ 1048576)
def OpenSpec.upto (s : _root_.Go.ChangeSpec) : _root_.Go.OpenSpec := { _root_.Go.OpenSpec.ofChange s with cond := some uptoSmall }

/-- 'carpetbaglaw01.NorWears', WHERE WHAT IT READS IS OF BULK AT MOST 1048576: true; the input reads as it did. -/
def norWearsUptoRow : OpenClaim := { program := "ytjlcgffcfhfffaa", sum := "b46582189a6242abc771f4c422758d7e963e32f17503dc168ef0c530aeced001", func := "carpetbag/carpetbaglaw01.NorWears", spec := "norWears", inPlace := ["internal/bytealg.MakeNoZero"], apart := false, narrowed := true }
def NorWearsUptoSaid : Prop := norWearsUptoRow.holds Try.pinned (OpenSpec.upto norWearsSpec)

/-- 'carpetbaglaw01.NorClears', WHERE WHAT IT READS IS OF BULK AT MOST 1048576: true; the input reads as it did. -/
def norClearsUptoRow : OpenClaim := { program := "ytjlcgffcfhfffaa", sum := "b46582189a6242abc771f4c422758d7e963e32f17503dc168ef0c530aeced001", func := "carpetbag/carpetbaglaw01.NorClears", spec := "norClears", inPlace := ["internal/bytealg.MakeNoZero"], apart := false, narrowed := true }
def NorClearsUptoSaid : Prop := norClearsUptoRow.holds Try.pinned (OpenSpec.upto norClearsSpec)

/-- 'carpetbaglaw01.NorFuse', WHERE WHAT IT READS IS OF BULK AT MOST 1048576: true; the input reads as it did. -/
def norFuseUptoRow : OpenClaim := { program := "ytjlcgffcfhfffaa", sum := "b46582189a6242abc771f4c422758d7e963e32f17503dc168ef0c530aeced001", func := "carpetbag/carpetbaglaw01.NorFuse", spec := "norFuse", inPlace := ["internal/bytealg.MakeNoZero"], apart := false, narrowed := true }
def NorFuseUptoSaid : Prop := norFuseUptoRow.holds Try.pinned (OpenSpec.upto norFuseSpec)

/-- 'carpetbaglaw01.NorPlays', WHERE WHAT IT READS IS OF BULK AT MOST 1048576: true; the input reads as it did. -/
def norPlaysUptoRow : OpenClaim := { program := "ytjlcgffcfhfffaa", sum := "b46582189a6242abc771f4c422758d7e963e32f17503dc168ef0c530aeced001", func := "carpetbag/carpetbaglaw01.NorPlays", spec := "norPlays", inPlace := ["internal/bytealg.MakeNoZero"], apart := false, narrowed := true }
def NorPlaysUptoSaid : Prop := norPlaysUptoRow.holds Try.pinned (OpenSpec.upto norPlaysSpec)

/-- 'carpetbaglaw01.NorNil', WHERE WHAT IT READS IS OF BULK AT MOST 1048576: true; the input reads as it did. -/
def norNilUptoRow : OpenClaim := { program := "ytjlcgffcfhfffaa", sum := "b46582189a6242abc771f4c422758d7e963e32f17503dc168ef0c530aeced001", func := "carpetbag/carpetbaglaw01.NorNil", spec := "norNil", inPlace := ["internal/bytealg.MakeNoZero"], apart := false, narrowed := true }
def NorNilUptoSaid : Prop := norNilUptoRow.holds Try.pinned (OpenSpec.upto norNilSpec)

end Rows
end Go.Proofs.Ytjlcgffcfhfffaa
