/-
  DERIVED. GIVEN WITH THE SEED: THE CARDS: each row of YtnijmegalgoipaaDoorRows.lean that lists a variable, with what it lists TIED to the program's text (the seventh form; the later family's looks); each row that meets fmt, with fmt's text TOLD by the authors' own Lean function (tested against real Go, not proved from fmt's source: count such statements apart). THE CARD IS WHAT COUNTS. Prove the row's statement (the work); the ties are given (YtnijmegalgoipaaDoorTie.lean); close each card by the builder's one call (the guide's Derived/Test/ToyasCard.lean, 'card_holds'). Laid BY PROGRAM, IN A SANDBOX (cutbox-door.mjs). By AI agents, Wed Nov 11 2026. No macro, syntax, notation, axiom, sorry.
-/
import Derived.Test.YtnijmegalgoipaaDoorRows
import GoSem.ClaimSeven
namespace Go.Proofs.YtnijmegalgoipaaDoor
namespace Rows

/-- THE TIED CARD OF 'armariumlaw16.JournalScans'. -/
def journalScansCard : Claim7 := { stood := { row := journalScansRow, standIns := [], harness := (true, "77e1aeb664995fd3dcae04d442196edfe63704158fbf95e0ab679c0b05b2ddd2"), looks := false }, kinds := [], alts := [], laidByText := true, laidKinds := [.data, .pinned], laidTests := true, laidLooks := .later }
def JournalScansCardSaid : Prop := Claim7.holds Tryd.pinned (.plain (OpenSpec.ofChange journalScansSpec)) journalScansCard

/-- THE TIED CARD OF 'armariumlaw16.JournalNil'. -/
def journalNilCard : Claim7 := { stood := { row := journalNilRow, standIns := [], harness := (true, "77e1aeb664995fd3dcae04d442196edfe63704158fbf95e0ab679c0b05b2ddd2"), looks := false }, kinds := [], alts := [], laidByText := true, laidKinds := [.data, .pinned], laidTests := true, laidLooks := .later }
def JournalNilCardSaid : Prop := Claim7.holds Tryd.pinned (.plain (OpenSpec.ofChange journalNilSpec)) journalNilCard

/-- THE TIED CARD OF 'armariumlaw01.DiskLasts'. -/
def diskLastsCard : Claim7 := { stood := { row := diskLastsRow, standIns := [], harness := (true, "77e1aeb664995fd3dcae04d442196edfe63704158fbf95e0ab679c0b05b2ddd2"), looks := false }, kinds := [], alts := [], laidByText := true, laidKinds := [.data, .pinned], laidTests := true, laidLooks := .later }
def DiskLastsCardSaid : Prop := Claim7.holds Tryd.pinned (.plain (OpenSpec.ofChange diskLastsSpec)) diskLastsCard

/-- THE TIED CARD OF 'armariumlaw01.DiskNames'. -/
def diskNamesCard : Claim7 := { stood := { row := diskNamesRow, standIns := [], harness := (true, "77e1aeb664995fd3dcae04d442196edfe63704158fbf95e0ab679c0b05b2ddd2"), looks := false }, kinds := [], alts := [], laidByText := true, laidKinds := [.data, .pinned], laidTests := true, laidLooks := .later }
def DiskNamesCardSaid : Prop := Claim7.holds Tryd.pinned (.plain (OpenSpec.ofChange diskNamesSpec)) diskNamesCard

/-- THE TIED CARD OF 'armariumlaw01.DiskApart'. -/
def diskApartCard : Claim7 := { stood := { row := diskApartRow, standIns := [], harness := (true, "77e1aeb664995fd3dcae04d442196edfe63704158fbf95e0ab679c0b05b2ddd2"), looks := false }, kinds := [], alts := [], laidByText := true, laidKinds := [.data, .pinned], laidTests := true, laidLooks := .later }
def DiskApartCardSaid : Prop := Claim7.holds Tryd.pinned (.plain (OpenSpec.ofChange diskApartSpec)) diskApartCard

/-- THE TIED CARD OF 'armariumlaw01.DiskStops'. -/
def diskStopsCard : Claim7 := { stood := { row := diskStopsRow, standIns := [], harness := (true, "77e1aeb664995fd3dcae04d442196edfe63704158fbf95e0ab679c0b05b2ddd2"), looks := false }, kinds := [], alts := [], laidByText := true, laidKinds := [.data, .pinned], laidTests := true, laidLooks := .later }
def DiskStopsCardSaid : Prop := Claim7.holds Tryd.pinned (.plain (OpenSpec.ofChange diskStopsSpec)) diskStopsCard

/-- THE TIED CARD OF 'armariumlaw01.DiskRoom'. -/
def diskRoomCard : Claim7 := { stood := { row := diskRoomRow, standIns := [], harness := (true, "77e1aeb664995fd3dcae04d442196edfe63704158fbf95e0ab679c0b05b2ddd2"), looks := false }, kinds := [], alts := [], laidByText := true, laidKinds := [.data, .pinned], laidTests := true, laidLooks := .later }
def DiskRoomCardSaid : Prop := Claim7.holds Tryd.pinned (.plain (OpenSpec.ofChange diskRoomSpec)) diskRoomCard

/-- THE TIED CARD OF 'armariumlaw01.DiskNil'. -/
def diskNilCard : Claim7 := { stood := { row := diskNilRow, standIns := [], harness := (true, "77e1aeb664995fd3dcae04d442196edfe63704158fbf95e0ab679c0b05b2ddd2"), looks := false }, kinds := [], alts := [], laidByText := true, laidKinds := [.data, .pinned], laidTests := true, laidLooks := .later }
def DiskNilCardSaid : Prop := Claim7.holds Tryd.pinned (.plain (OpenSpec.ofChange diskNilSpec)) diskNilCard

/-- THE SECOND FORM's CARD OF 'armariumlaw16.JournalScans'. -/
def journalScansUptoCard : Claim7 := { stood := { row := journalScansUptoRow, standIns := [], harness := (true, "77e1aeb664995fd3dcae04d442196edfe63704158fbf95e0ab679c0b05b2ddd2"), looks := false }, kinds := [], alts := [], laidByText := true, laidKinds := [.data, .pinned], laidTests := true, laidLooks := .later }
def JournalScansUptoCardSaid : Prop := Claim7.holds Tryd.pinned (.plain (OpenSpec.upto journalScansSpec)) journalScansUptoCard

/-- THE SECOND FORM's CARD OF 'armariumlaw16.JournalNil'. -/
def journalNilUptoCard : Claim7 := { stood := { row := journalNilUptoRow, standIns := [], harness := (true, "77e1aeb664995fd3dcae04d442196edfe63704158fbf95e0ab679c0b05b2ddd2"), looks := false }, kinds := [], alts := [], laidByText := true, laidKinds := [.data, .pinned], laidTests := true, laidLooks := .later }
def JournalNilUptoCardSaid : Prop := Claim7.holds Tryd.pinned (.plain (OpenSpec.upto journalNilSpec)) journalNilUptoCard

/-- THE SECOND FORM's CARD OF 'armariumlaw01.DiskLasts'. -/
def diskLastsUptoCard : Claim7 := { stood := { row := diskLastsUptoRow, standIns := [], harness := (true, "77e1aeb664995fd3dcae04d442196edfe63704158fbf95e0ab679c0b05b2ddd2"), looks := false }, kinds := [], alts := [], laidByText := true, laidKinds := [.data, .pinned], laidTests := true, laidLooks := .later }
def DiskLastsUptoCardSaid : Prop := Claim7.holds Tryd.pinned (.plain (OpenSpec.upto diskLastsSpec)) diskLastsUptoCard

/-- THE SECOND FORM's CARD OF 'armariumlaw01.DiskNames'. -/
def diskNamesUptoCard : Claim7 := { stood := { row := diskNamesUptoRow, standIns := [], harness := (true, "77e1aeb664995fd3dcae04d442196edfe63704158fbf95e0ab679c0b05b2ddd2"), looks := false }, kinds := [], alts := [], laidByText := true, laidKinds := [.data, .pinned], laidTests := true, laidLooks := .later }
def DiskNamesUptoCardSaid : Prop := Claim7.holds Tryd.pinned (.plain (OpenSpec.upto diskNamesSpec)) diskNamesUptoCard

/-- THE SECOND FORM's CARD OF 'armariumlaw01.DiskApart'. -/
def diskApartUptoCard : Claim7 := { stood := { row := diskApartUptoRow, standIns := [], harness := (true, "77e1aeb664995fd3dcae04d442196edfe63704158fbf95e0ab679c0b05b2ddd2"), looks := false }, kinds := [], alts := [], laidByText := true, laidKinds := [.data, .pinned], laidTests := true, laidLooks := .later }
def DiskApartUptoCardSaid : Prop := Claim7.holds Tryd.pinned (.plain (OpenSpec.upto diskApartSpec)) diskApartUptoCard

/-- THE SECOND FORM's CARD OF 'armariumlaw01.DiskStops'. -/
def diskStopsUptoCard : Claim7 := { stood := { row := diskStopsUptoRow, standIns := [], harness := (true, "77e1aeb664995fd3dcae04d442196edfe63704158fbf95e0ab679c0b05b2ddd2"), looks := false }, kinds := [], alts := [], laidByText := true, laidKinds := [.data, .pinned], laidTests := true, laidLooks := .later }
def DiskStopsUptoCardSaid : Prop := Claim7.holds Tryd.pinned (.plain (OpenSpec.upto diskStopsSpec)) diskStopsUptoCard

/-- THE SECOND FORM's CARD OF 'armariumlaw01.DiskRoom'. -/
def diskRoomUptoCard : Claim7 := { stood := { row := diskRoomUptoRow, standIns := [], harness := (true, "77e1aeb664995fd3dcae04d442196edfe63704158fbf95e0ab679c0b05b2ddd2"), looks := false }, kinds := [], alts := [], laidByText := true, laidKinds := [.data, .pinned], laidTests := true, laidLooks := .later }
def DiskRoomUptoCardSaid : Prop := Claim7.holds Tryd.pinned (.plain (OpenSpec.upto diskRoomSpec)) diskRoomUptoCard

/-- THE SECOND FORM's CARD OF 'armariumlaw01.DiskNil'. -/
def diskNilUptoCard : Claim7 := { stood := { row := diskNilUptoRow, standIns := [], harness := (true, "77e1aeb664995fd3dcae04d442196edfe63704158fbf95e0ab679c0b05b2ddd2"), looks := false }, kinds := [], alts := [], laidByText := true, laidKinds := [.data, .pinned], laidTests := true, laidLooks := .later }
def DiskNilUptoCardSaid : Prop := Claim7.holds Tryd.pinned (.plain (OpenSpec.upto diskNilSpec)) diskNilUptoCard
end Rows
end Go.Proofs.YtnijmegalgoipaaDoor
