/-
  NARROWER THAN 'FOR EVERY INPUT', by the rows' own cells (each row's printed sentence says how): AsmLifts: laid · AsmLowers: laid · AsmBack: laid · AsmMade: laid · AsmNames: laid.
  DERIVED. THE GIVEN ROWS OF THIS SEAT. 5 by the template 'for every input the law returns true; each argument reads behind the call as it read before'; 0 by the template 'total and deterministic' (their statements: YtclpkipaehpkdaaGreatDoorTotals.lean).
  GIVEN WITH THE SEED: the statements are not yours to turn. If you find one false, say at which input.
  Laid BY PROGRAM, IN A SANDBOX (cutbox-rows.mjs): the forced cells as the released guide's own fill.sh prints them over the translation efb3875dc4a7608b… (all of the seat's roots in one cut). By AI agents, Wed Nov 11 2026. No macro, syntax, notation, axiom, sorry.
-/
import Derived.Test.YtclpkipaehpkdaaGreatDoorChecked
import GoSem.PinnedTables
import GoSem.Claim
import GoSem.ClaimJoined
import GoSem.ClaimMapViews
import Derived.JoinedTies
import Derived.KernelRfl
namespace Go.Proofs.YtclpkipaehpkdaaGreatDoor
/- THE CELL 'sum', in the pinned program and in every row, IS THE sha256 OF THE DUMP (.gsa) THAT YtclpkipaehpkdaaGreatDoorProg.lean LOADS. Nothing in Lean hashes anything: it is a label: what it is worth is what the hold of that sum in a sandbox is worth. -/
noncomputable def Tryz.pinned : Pinned := { name := "ytclpkipaehpkdaagreatdoor", sum := "efb3875dc4a7608bfbe4c0f94d6d8531a0a72b84ce0d80a58fa479d6d75830ee", checked := Tryz.checked }
namespace Rows
def none {H : Type} : Left H := { results := [], args := [] }

/- WHAT THE LISTED PACKAGE-LEVEL VARIABLES READ AS WHEN THE CALL BEGINS. Each datum BY PROGRAM (the guide's laid-datum.mjs) off the statement by which the dump's own 'gosem.cut.vars' lays the variable. In a bare row this is a premise. The card (YtclpkipaehpkdaaGreatDoorCards.lean) ties it to the program's text. -/
def laid_unicode_utf8_acceptRanges {H : Type} : DataW H := .agg [.agg [.lit (.int .u8 128), .lit (.int .u8 191)], .agg [.lit (.int .u8 160), .lit (.int .u8 191)], .agg [.lit (.int .u8 128), .lit (.int .u8 159)], .agg [.lit (.int .u8 144), .lit (.int .u8 191)], .agg [.lit (.int .u8 128), .lit (.int .u8 143)], .agg [.lit (.int .u8 0), .lit (.int .u8 0)], .agg [.lit (.int .u8 0), .lit (.int .u8 0)], .agg [.lit (.int .u8 0), .lit (.int .u8 0)], .agg [.lit (.int .u8 0), .lit (.int .u8 0)], .agg [.lit (.int .u8 0), .lit (.int .u8 0)], .agg [.lit (.int .u8 0), .lit (.int .u8 0)], .agg [.lit (.int .u8 0), .lit (.int .u8 0)], .agg [.lit (.int .u8 0), .lit (.int .u8 0)], .agg [.lit (.int .u8 0), .lit (.int .u8 0)], .agg [.lit (.int .u8 0), .lit (.int .u8 0)], .agg [.lit (.int .u8 0), .lit (.int .u8 0)]]
/-- One of Go's own tables, pinned by name: the form's constant. -/
def laid_unicode_utf8_first : DataW Unit := Go.Pinned.utf8First

/-- 'carpetbaglaw15.AsmLifts': WHATEVER THE INPUT: true; the input reads as it did. -/
def asmLiftsSpec : ChangeSpec := { name := "asmLifts", fn := fun _ => fun
  | [d] => { results := [.lit (.bool true)], args := [d] }
  | _ => none }
def asmLiftsRow : OpenClaim := { program := "ytclpkipaehpkdaagreatdoor", sum := "efb3875dc4a7608bfbe4c0f94d6d8531a0a72b84ce0d80a58fa479d6d75830ee", func := "carpetbag/carpetbaglaw15.AsmLifts", spec := "asmLifts", inPlace := ["internal/bytealg.CountString", "internal/bytealg.IndexByteString", "internal/bytealg.IndexString"], unfollowed := true, recurses := true, named := ["unicode/utf8.first", "unicode/utf8.acceptRanges", "internal/bytealg.MaxLen"], plainKeys := false, apart := false, laid := [("unicode/utf8.acceptRanges", laid_unicode_utf8_acceptRanges), ("unicode/utf8.first", laid_unicode_utf8_first)] }
def AsmLiftsSaid : Prop := asmLiftsRow.holds Tryz.pinned (OpenSpec.ofChange asmLiftsSpec)

/-- ITS FALSE NEIGHBOUR: 'it returns false'. Refute it at one input. -/
def asmLiftsWrong : ChangeSpec := { name := "asmLifts", fn := fun _ => fun
  | [d] => { results := [.lit (.bool false)], args := [d] }
  | _ => none }
def AsmLiftsWrongFalsely : Prop := asmLiftsRow.holds Tryz.pinned (OpenSpec.ofChange asmLiftsWrong)

/-- 'carpetbaglaw15.AsmLowers': WHATEVER THE INPUT: true; the input reads as it did. -/
def asmLowersSpec : ChangeSpec := { name := "asmLowers", fn := fun _ => fun
  | [d] => { results := [.lit (.bool true)], args := [d] }
  | _ => none }
def asmLowersRow : OpenClaim := { program := "ytclpkipaehpkdaagreatdoor", sum := "efb3875dc4a7608bfbe4c0f94d6d8531a0a72b84ce0d80a58fa479d6d75830ee", func := "carpetbag/carpetbaglaw15.AsmLowers", spec := "asmLowers", inPlace := ["internal/bytealg.CountString", "internal/bytealg.IndexByteString", "internal/bytealg.IndexString"], unfollowed := true, recurses := true, named := ["unicode/utf8.first", "unicode/utf8.acceptRanges", "internal/bytealg.MaxLen"], plainKeys := false, apart := false, laid := [("unicode/utf8.acceptRanges", laid_unicode_utf8_acceptRanges), ("unicode/utf8.first", laid_unicode_utf8_first)] }
def AsmLowersSaid : Prop := asmLowersRow.holds Tryz.pinned (OpenSpec.ofChange asmLowersSpec)

/-- ITS FALSE NEIGHBOUR: 'it returns false'. Refute it at one input. -/
def asmLowersWrong : ChangeSpec := { name := "asmLowers", fn := fun _ => fun
  | [d] => { results := [.lit (.bool false)], args := [d] }
  | _ => none }
def AsmLowersWrongFalsely : Prop := asmLowersRow.holds Tryz.pinned (OpenSpec.ofChange asmLowersWrong)

/-- 'carpetbaglaw15.AsmBack': WHATEVER THE INPUT: true; the input reads as it did. -/
def asmBackSpec : ChangeSpec := { name := "asmBack", fn := fun _ => fun
  | [d] => { results := [.lit (.bool true)], args := [d] }
  | _ => none }
def asmBackRow : OpenClaim := { program := "ytclpkipaehpkdaagreatdoor", sum := "efb3875dc4a7608bfbe4c0f94d6d8531a0a72b84ce0d80a58fa479d6d75830ee", func := "carpetbag/carpetbaglaw15.AsmBack", spec := "asmBack", inPlace := ["internal/bytealg.CountString", "internal/bytealg.IndexByteString", "internal/bytealg.IndexString"], unfollowed := true, recurses := true, named := ["unicode/utf8.first", "unicode/utf8.acceptRanges", "internal/bytealg.MaxLen"], plainKeys := false, apart := false, laid := [("unicode/utf8.acceptRanges", laid_unicode_utf8_acceptRanges), ("unicode/utf8.first", laid_unicode_utf8_first)] }
def AsmBackSaid : Prop := asmBackRow.holds Tryz.pinned (OpenSpec.ofChange asmBackSpec)

/-- ITS FALSE NEIGHBOUR: 'it returns false'. Refute it at one input. -/
def asmBackWrong : ChangeSpec := { name := "asmBack", fn := fun _ => fun
  | [d] => { results := [.lit (.bool false)], args := [d] }
  | _ => none }
def AsmBackWrongFalsely : Prop := asmBackRow.holds Tryz.pinned (OpenSpec.ofChange asmBackWrong)

/-- 'carpetbaglaw15.AsmMade': WHATEVER THE INPUT: true; the input reads as it did. -/
def asmMadeSpec : ChangeSpec := { name := "asmMade", fn := fun _ => fun
  | [d] => { results := [.lit (.bool true)], args := [d] }
  | _ => none }
def asmMadeRow : OpenClaim := { program := "ytclpkipaehpkdaagreatdoor", sum := "efb3875dc4a7608bfbe4c0f94d6d8531a0a72b84ce0d80a58fa479d6d75830ee", func := "carpetbag/carpetbaglaw15.AsmMade", spec := "asmMade", inPlace := ["internal/bytealg.CountString", "internal/bytealg.IndexByteString", "internal/bytealg.IndexString"], unfollowed := true, recurses := true, named := ["unicode/utf8.first", "unicode/utf8.acceptRanges", "internal/bytealg.MaxLen"], plainKeys := false, apart := false, laid := [("unicode/utf8.acceptRanges", laid_unicode_utf8_acceptRanges), ("unicode/utf8.first", laid_unicode_utf8_first)] }
def AsmMadeSaid : Prop := asmMadeRow.holds Tryz.pinned (OpenSpec.ofChange asmMadeSpec)

/-- ITS FALSE NEIGHBOUR: 'it returns false'. Refute it at one input. -/
def asmMadeWrong : ChangeSpec := { name := "asmMade", fn := fun _ => fun
  | [d] => { results := [.lit (.bool false)], args := [d] }
  | _ => none }
def AsmMadeWrongFalsely : Prop := asmMadeRow.holds Tryz.pinned (OpenSpec.ofChange asmMadeWrong)

/-- 'carpetbaglaw15.AsmNames': WHATEVER THE INPUT: true; the input reads as it did. -/
def asmNamesSpec : ChangeSpec := { name := "asmNames", fn := fun _ => fun
  | [d] => { results := [.lit (.bool true)], args := [d] }
  | _ => none }
def asmNamesRow : OpenClaim := { program := "ytclpkipaehpkdaagreatdoor", sum := "efb3875dc4a7608bfbe4c0f94d6d8531a0a72b84ce0d80a58fa479d6d75830ee", func := "carpetbag/carpetbaglaw15.AsmNames", spec := "asmNames", inPlace := ["internal/bytealg.CountString", "internal/bytealg.IndexByteString", "internal/bytealg.IndexString"], unfollowed := true, recurses := true, named := ["unicode/utf8.first", "unicode/utf8.acceptRanges", "internal/bytealg.MaxLen"], plainKeys := false, apart := false, laid := [("unicode/utf8.acceptRanges", laid_unicode_utf8_acceptRanges), ("unicode/utf8.first", laid_unicode_utf8_first)] }
def AsmNamesSaid : Prop := asmNamesRow.holds Tryz.pinned (OpenSpec.ofChange asmNamesSpec)

/-- ITS FALSE NEIGHBOUR: 'it returns false'. Refute it at one input. -/
def asmNamesWrong : ChangeSpec := { name := "asmNames", fn := fun _ => fun
  | [d] => { results := [.lit (.bool false)], args := [d] }
  | _ => none }
def AsmNamesWrongFalsely : Prop := asmNamesRow.holds Tryz.pinned (OpenSpec.ofChange asmNamesWrong)

/- THE SECOND FORM. 'bulk': how many values and letters a reading holds, each counted each time it is reached (what is shared counts as often as it is met; a slice's spare places count too). A statement '..UptoSaid' is the law's where the arguments, and the package variables that the reading takes, are together of bulk at most 1048576: NARROWER than '..Said'. Prove '..Said' where nothing that the law and all that it calls make is longer than what came in: it says more and counts as full. Else prove '..UptoSaid'. A law counts once. -/
mutual
def uptoBulk {H : Type} : DataW H → Nat
  | .lit (.string bytes) => bytes.length + 1
  | .lit _ => 1
  | .nil => 1
  | .ptr d => uptoBulk d + 1
  | .slice elems spare => uptoBulkAll elems + uptoBulkAll spare + 1
  | .agg parts => uptoBulkAll parts + 1
  | .iface _ d => uptoBulk d + 1
  | .map entries => uptoBulkEntries entries + 1
  | .held _ => 1
def uptoBulkAll {H : Type} : List (DataW H) → Nat
  | [] => 0
  | d :: r => uptoBulk d + uptoBulkAll r
def uptoBulkEntries {H : Type} : List (Lit × DataW H) → Nat
  | [] => 0
  | x :: r => uptoBulkEntry x + uptoBulkEntries r
def uptoBulkEntry {H : Type} : Lit × DataW H → Nat
  | (.string bytes, d) => bytes.length + uptoBulk d + 1
  | (_, d) => uptoBulk d + 1
 end
def uptoSmall : (H : Type) → List (DataW H) → Bool := fun _ ds => decide (uptoBulkAll ds ≤ 1048576)
def OpenSpec.upto (s : _root_.Go.ChangeSpec) : _root_.Go.OpenSpec := { _root_.Go.OpenSpec.ofChange s with cond := some uptoSmall }

/-- 'carpetbaglaw15.AsmLifts', WHERE WHAT IT READS IS OF BULK AT MOST 1048576: true; the input reads as it did. -/
def asmLiftsUptoRow : OpenClaim := { program := "ytclpkipaehpkdaagreatdoor", sum := "efb3875dc4a7608bfbe4c0f94d6d8531a0a72b84ce0d80a58fa479d6d75830ee", func := "carpetbag/carpetbaglaw15.AsmLifts", spec := "asmLifts", inPlace := ["internal/bytealg.CountString", "internal/bytealg.IndexByteString", "internal/bytealg.IndexString"], unfollowed := true, recurses := true, named := ["unicode/utf8.first", "unicode/utf8.acceptRanges", "internal/bytealg.MaxLen"], plainKeys := false, apart := false, laid := [("unicode/utf8.acceptRanges", laid_unicode_utf8_acceptRanges), ("unicode/utf8.first", laid_unicode_utf8_first)], narrowed := true }
def AsmLiftsUptoSaid : Prop := asmLiftsUptoRow.holds Tryz.pinned (OpenSpec.upto asmLiftsSpec)

/-- 'carpetbaglaw15.AsmLowers', WHERE WHAT IT READS IS OF BULK AT MOST 1048576: true; the input reads as it did. -/
def asmLowersUptoRow : OpenClaim := { program := "ytclpkipaehpkdaagreatdoor", sum := "efb3875dc4a7608bfbe4c0f94d6d8531a0a72b84ce0d80a58fa479d6d75830ee", func := "carpetbag/carpetbaglaw15.AsmLowers", spec := "asmLowers", inPlace := ["internal/bytealg.CountString", "internal/bytealg.IndexByteString", "internal/bytealg.IndexString"], unfollowed := true, recurses := true, named := ["unicode/utf8.first", "unicode/utf8.acceptRanges", "internal/bytealg.MaxLen"], plainKeys := false, apart := false, laid := [("unicode/utf8.acceptRanges", laid_unicode_utf8_acceptRanges), ("unicode/utf8.first", laid_unicode_utf8_first)], narrowed := true }
def AsmLowersUptoSaid : Prop := asmLowersUptoRow.holds Tryz.pinned (OpenSpec.upto asmLowersSpec)

/-- 'carpetbaglaw15.AsmBack', WHERE WHAT IT READS IS OF BULK AT MOST 1048576: true; the input reads as it did. -/
def asmBackUptoRow : OpenClaim := { program := "ytclpkipaehpkdaagreatdoor", sum := "efb3875dc4a7608bfbe4c0f94d6d8531a0a72b84ce0d80a58fa479d6d75830ee", func := "carpetbag/carpetbaglaw15.AsmBack", spec := "asmBack", inPlace := ["internal/bytealg.CountString", "internal/bytealg.IndexByteString", "internal/bytealg.IndexString"], unfollowed := true, recurses := true, named := ["unicode/utf8.first", "unicode/utf8.acceptRanges", "internal/bytealg.MaxLen"], plainKeys := false, apart := false, laid := [("unicode/utf8.acceptRanges", laid_unicode_utf8_acceptRanges), ("unicode/utf8.first", laid_unicode_utf8_first)], narrowed := true }
def AsmBackUptoSaid : Prop := asmBackUptoRow.holds Tryz.pinned (OpenSpec.upto asmBackSpec)

/-- 'carpetbaglaw15.AsmMade', WHERE WHAT IT READS IS OF BULK AT MOST 1048576: true; the input reads as it did. -/
def asmMadeUptoRow : OpenClaim := { program := "ytclpkipaehpkdaagreatdoor", sum := "efb3875dc4a7608bfbe4c0f94d6d8531a0a72b84ce0d80a58fa479d6d75830ee", func := "carpetbag/carpetbaglaw15.AsmMade", spec := "asmMade", inPlace := ["internal/bytealg.CountString", "internal/bytealg.IndexByteString", "internal/bytealg.IndexString"], unfollowed := true, recurses := true, named := ["unicode/utf8.first", "unicode/utf8.acceptRanges", "internal/bytealg.MaxLen"], plainKeys := false, apart := false, laid := [("unicode/utf8.acceptRanges", laid_unicode_utf8_acceptRanges), ("unicode/utf8.first", laid_unicode_utf8_first)], narrowed := true }
def AsmMadeUptoSaid : Prop := asmMadeUptoRow.holds Tryz.pinned (OpenSpec.upto asmMadeSpec)

/-- 'carpetbaglaw15.AsmNames', WHERE WHAT IT READS IS OF BULK AT MOST 1048576: true; the input reads as it did. -/
def asmNamesUptoRow : OpenClaim := { program := "ytclpkipaehpkdaagreatdoor", sum := "efb3875dc4a7608bfbe4c0f94d6d8531a0a72b84ce0d80a58fa479d6d75830ee", func := "carpetbag/carpetbaglaw15.AsmNames", spec := "asmNames", inPlace := ["internal/bytealg.CountString", "internal/bytealg.IndexByteString", "internal/bytealg.IndexString"], unfollowed := true, recurses := true, named := ["unicode/utf8.first", "unicode/utf8.acceptRanges", "internal/bytealg.MaxLen"], plainKeys := false, apart := false, laid := [("unicode/utf8.acceptRanges", laid_unicode_utf8_acceptRanges), ("unicode/utf8.first", laid_unicode_utf8_first)], narrowed := true }
def AsmNamesUptoSaid : Prop := asmNamesUptoRow.holds Tryz.pinned (OpenSpec.upto asmNamesSpec)

end Rows
end Go.Proofs.YtclpkipaehpkdaaGreatDoor
