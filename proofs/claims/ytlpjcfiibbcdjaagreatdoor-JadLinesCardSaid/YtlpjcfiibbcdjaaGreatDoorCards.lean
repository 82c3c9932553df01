/-
  DERIVED. GIVEN WITH THE SEED: THE CARDS: each row of YtlpjcfiibbcdjaaGreatDoorRows.lean that lists a variable, with what it lists TIED to the program's text (the seventh form; the later family's looks); each row that meets fmt, with fmt's text TOLD by the authors' own Lean function (tested against real Go, not proved from fmt's source: count such statements apart). THE CARD IS WHAT COUNTS. Prove the row's statement (the work); the ties are given (YtlpjcfiibbcdjaaGreatDoorTie.lean); close each card by the builder's one call (the guide's Derived/Test/ToyasCard.lean, 'card_holds'). Laid BY PROGRAM, IN A SANDBOX (cutbox-door.mjs). By AI agents, Wed Nov 11 2026. No macro, syntax, notation, axiom, sorry.
-/
import Derived.Test.YtlpjcfiibbcdjaaGreatDoorRows
import GoSem.ClaimSeven
namespace Go.Proofs.YtlpjcfiibbcdjaaGreatDoor
namespace Rows

/-- THE TIED CARD OF 'carpetbaglaw22.JadPrints'. -/
def jadPrintsCard : Claim7 := { stood := { row := jadPrintsRow, standIns := [], harness := (true, "819aae2d27d7a919e8ab964f25fc050188d81ddbeccff0a1e85f549da7c09413"), looks := true }, kinds := [], alts := [], laidByText := true, laidKinds := [.data, .data, .data, .data, .sentinel, .sentinel, .pinned], laidTests := true, laidLooks := .later }
def JadPrintsCardSaid : Prop := Claim7.holds Tryz.pinned (.plain (OpenSpec.ofChange jadPrintsSpec)) jadPrintsCard

/-- THE TIED CARD OF 'carpetbaglaw22.JadVersions'. -/
def jadVersionsCard : Claim7 := { stood := { row := jadVersionsRow, standIns := [], harness := (true, "819aae2d27d7a919e8ab964f25fc050188d81ddbeccff0a1e85f549da7c09413"), looks := true }, kinds := [], alts := [], laidByText := true, laidKinds := [.data, .data, .data, .data, .sentinel, .sentinel, .pinned], laidTests := true, laidLooks := .later }
def JadVersionsCardSaid : Prop := Claim7.holds Tryz.pinned (.plain (OpenSpec.ofChange jadVersionsSpec)) jadVersionsCard

/-- THE TIED CARD OF 'carpetbaglaw22.JadLines'. -/
def jadLinesCard : Claim7 := { stood := { row := jadLinesRow, standIns := [], harness := (true, "819aae2d27d7a919e8ab964f25fc050188d81ddbeccff0a1e85f549da7c09413"), looks := true }, kinds := [], alts := [], laidByText := true, laidKinds := [.data, .data, .data, .data, .sentinel, .sentinel, .pinned], laidTests := true, laidLooks := .later }
def JadLinesCardSaid : Prop := Claim7.holds Tryz.pinned (.plain (OpenSpec.ofChange jadLinesSpec)) jadLinesCard

/-- THE SECOND FORM's CARD OF 'carpetbaglaw22.JadPrints'. -/
def jadPrintsUptoCard : Claim7 := { stood := { row := jadPrintsUptoRow, standIns := [], harness := (true, "819aae2d27d7a919e8ab964f25fc050188d81ddbeccff0a1e85f549da7c09413"), looks := true }, kinds := [], alts := [], laidByText := true, laidKinds := [.data, .data, .data, .data, .sentinel, .sentinel, .pinned], laidTests := true, laidLooks := .later }
def JadPrintsUptoCardSaid : Prop := Claim7.holds Tryz.pinned (.plain (OpenSpec.upto jadPrintsSpec)) jadPrintsUptoCard

/-- THE SECOND FORM's CARD OF 'carpetbaglaw22.JadVersions'. -/
def jadVersionsUptoCard : Claim7 := { stood := { row := jadVersionsUptoRow, standIns := [], harness := (true, "819aae2d27d7a919e8ab964f25fc050188d81ddbeccff0a1e85f549da7c09413"), looks := true }, kinds := [], alts := [], laidByText := true, laidKinds := [.data, .data, .data, .data, .sentinel, .sentinel, .pinned], laidTests := true, laidLooks := .later }
def JadVersionsUptoCardSaid : Prop := Claim7.holds Tryz.pinned (.plain (OpenSpec.upto jadVersionsSpec)) jadVersionsUptoCard

/-- THE SECOND FORM's CARD OF 'carpetbaglaw22.JadLines'. -/
def jadLinesUptoCard : Claim7 := { stood := { row := jadLinesUptoRow, standIns := [], harness := (true, "819aae2d27d7a919e8ab964f25fc050188d81ddbeccff0a1e85f549da7c09413"), looks := true }, kinds := [], alts := [], laidByText := true, laidKinds := [.data, .data, .data, .data, .sentinel, .sentinel, .pinned], laidTests := true, laidLooks := .later }
def JadLinesUptoCardSaid : Prop := Claim7.holds Tryz.pinned (.plain (OpenSpec.upto jadLinesSpec)) jadLinesUptoCard
end Rows
end Go.Proofs.YtlpjcfiibbcdjaaGreatDoor
