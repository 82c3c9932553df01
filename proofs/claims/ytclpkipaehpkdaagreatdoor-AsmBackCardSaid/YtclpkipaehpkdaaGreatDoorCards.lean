/-
  DERIVED. GIVEN WITH THE SEED: THE CARDS: each row of YtclpkipaehpkdaaGreatDoorRows.lean that lists a variable, with what it lists TIED to the program's text (the seventh form; the later family's looks); each row that meets fmt, with fmt's text TOLD by the authors' own Lean function (tested against real Go, not proved from fmt's source: count such statements apart). THE CARD IS WHAT COUNTS. Prove the row's statement (the work); the ties are given (YtclpkipaehpkdaaGreatDoorTie.lean); close each card by the builder's one call (the guide's Derived/Test/ToyasCard.lean, 'card_holds'). Laid BY PROGRAM, IN A SANDBOX (cutbox-door.mjs). By AI agents, Wed Nov 11 2026. No macro, syntax, notation, axiom, sorry.
-/
import Derived.Test.YtclpkipaehpkdaaGreatDoorRows
import GoSem.ClaimSeven
namespace Go.Proofs.YtclpkipaehpkdaaGreatDoor
namespace Rows

/-- THE TIED CARD OF 'carpetbaglaw15.AsmLifts'. -/
def asmLiftsCard : Claim7 := { stood := { row := asmLiftsRow, standIns := [], harness := (true, "4c6502e88c24e4b4b4470cc826bbdb94ea6d0009e931858b7bee9ec7d2aadacf"), looks := false }, kinds := [], alts := [], laidByText := true, laidKinds := [.data, .pinned], laidTests := true, laidLooks := .later }
def AsmLiftsCardSaid : Prop := Claim7.holds Tryz.pinned (.plain (OpenSpec.ofChange asmLiftsSpec)) asmLiftsCard

/-- THE TIED CARD OF 'carpetbaglaw15.AsmLowers'. -/
def asmLowersCard : Claim7 := { stood := { row := asmLowersRow, standIns := [], harness := (true, "4c6502e88c24e4b4b4470cc826bbdb94ea6d0009e931858b7bee9ec7d2aadacf"), looks := false }, kinds := [], alts := [], laidByText := true, laidKinds := [.data, .pinned], laidTests := true, laidLooks := .later }
def AsmLowersCardSaid : Prop := Claim7.holds Tryz.pinned (.plain (OpenSpec.ofChange asmLowersSpec)) asmLowersCard

/-- THE TIED CARD OF 'carpetbaglaw15.AsmBack'. -/
def asmBackCard : Claim7 := { stood := { row := asmBackRow, standIns := [], harness := (true, "4c6502e88c24e4b4b4470cc826bbdb94ea6d0009e931858b7bee9ec7d2aadacf"), looks := false }, kinds := [], alts := [], laidByText := true, laidKinds := [.data, .pinned], laidTests := true, laidLooks := .later }
def AsmBackCardSaid : Prop := Claim7.holds Tryz.pinned (.plain (OpenSpec.ofChange asmBackSpec)) asmBackCard

/-- THE TIED CARD OF 'carpetbaglaw15.AsmMade'. -/
def asmMadeCard : Claim7 := { stood := { row := asmMadeRow, standIns := [], harness := (true, "4c6502e88c24e4b4b4470cc826bbdb94ea6d0009e931858b7bee9ec7d2aadacf"), looks := false }, kinds := [], alts := [], laidByText := true, laidKinds := [.data, .pinned], laidTests := true, laidLooks := .later }
def AsmMadeCardSaid : Prop := Claim7.holds Tryz.pinned (.plain (OpenSpec.ofChange asmMadeSpec)) asmMadeCard

/-- THE TIED CARD OF 'carpetbaglaw15.AsmNames'. -/
def asmNamesCard : Claim7 := { stood := { row := asmNamesRow, standIns := [], harness := (true, "4c6502e88c24e4b4b4470cc826bbdb94ea6d0009e931858b7bee9ec7d2aadacf"), looks := false }, kinds := [], alts := [], laidByText := true, laidKinds := [.data, .pinned], laidTests := true, laidLooks := .later }
def AsmNamesCardSaid : Prop := Claim7.holds Tryz.pinned (.plain (OpenSpec.ofChange asmNamesSpec)) asmNamesCard

/-- THE SECOND FORM's CARD OF 'carpetbaglaw15.AsmLifts'. -/
def asmLiftsUptoCard : Claim7 := { stood := { row := asmLiftsUptoRow, standIns := [], harness := (true, "4c6502e88c24e4b4b4470cc826bbdb94ea6d0009e931858b7bee9ec7d2aadacf"), looks := false }, kinds := [], alts := [], laidByText := true, laidKinds := [.data, .pinned], laidTests := true, laidLooks := .later }
def AsmLiftsUptoCardSaid : Prop := Claim7.holds Tryz.pinned (.plain (OpenSpec.upto asmLiftsSpec)) asmLiftsUptoCard

/-- THE SECOND FORM's CARD OF 'carpetbaglaw15.AsmLowers'. -/
def asmLowersUptoCard : Claim7 := { stood := { row := asmLowersUptoRow, standIns := [], harness := (true, "4c6502e88c24e4b4b4470cc826bbdb94ea6d0009e931858b7bee9ec7d2aadacf"), looks := false }, kinds := [], alts := [], laidByText := true, laidKinds := [.data, .pinned], laidTests := true, laidLooks := .later }
def AsmLowersUptoCardSaid : Prop := Claim7.holds Tryz.pinned (.plain (OpenSpec.upto asmLowersSpec)) asmLowersUptoCard

/-- THE SECOND FORM's CARD OF 'carpetbaglaw15.AsmBack'. -/
def asmBackUptoCard : Claim7 := { stood := { row := asmBackUptoRow, standIns := [], harness := (true, "4c6502e88c24e4b4b4470cc826bbdb94ea6d0009e931858b7bee9ec7d2aadacf"), looks := false }, kinds := [], alts := [], laidByText := true, laidKinds := [.data, .pinned], laidTests := true, laidLooks := .later }
def AsmBackUptoCardSaid : Prop := Claim7.holds Tryz.pinned (.plain (OpenSpec.upto asmBackSpec)) asmBackUptoCard

/-- THE SECOND FORM's CARD OF 'carpetbaglaw15.AsmMade'. -/
def asmMadeUptoCard : Claim7 := { stood := { row := asmMadeUptoRow, standIns := [], harness := (true, "4c6502e88c24e4b4b4470cc826bbdb94ea6d0009e931858b7bee9ec7d2aadacf"), looks := false }, kinds := [], alts := [], laidByText := true, laidKinds := [.data, .pinned], laidTests := true, laidLooks := .later }
def AsmMadeUptoCardSaid : Prop := Claim7.holds Tryz.pinned (.plain (OpenSpec.upto asmMadeSpec)) asmMadeUptoCard

/-- THE SECOND FORM's CARD OF 'carpetbaglaw15.AsmNames'. -/
def asmNamesUptoCard : Claim7 := { stood := { row := asmNamesUptoRow, standIns := [], harness := (true, "4c6502e88c24e4b4b4470cc826bbdb94ea6d0009e931858b7bee9ec7d2aadacf"), looks := false }, kinds := [], alts := [], laidByText := true, laidKinds := [.data, .pinned], laidTests := true, laidLooks := .later }
def AsmNamesUptoCardSaid : Prop := Claim7.holds Tryz.pinned (.plain (OpenSpec.upto asmNamesSpec)) asmNamesUptoCard
end Rows
end Go.Proofs.YtclpkipaehpkdaaGreatDoor
