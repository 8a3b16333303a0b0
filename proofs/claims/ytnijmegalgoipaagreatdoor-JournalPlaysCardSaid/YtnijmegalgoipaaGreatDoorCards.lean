/-
  DERIVED. GIVEN WITH THE SEED: THE CARDS: each row of YtnijmegalgoipaaGreatDoorRows.lean that lists a variable, with what it lists TIED to the program's text (the seventh form; the later family's looks); each row that meets fmt, with fmt's text TOLD by the authors' own Lean function (tested against real Go, not proved from fmt's source: count such statements apart). THE CARD IS WHAT COUNTS. Prove the row's statement (the work); the ties are given (YtnijmegalgoipaaGreatDoorTie.lean); close each card by the builder's one call (the guide's Derived/Test/ToyasCard.lean, 'card_holds'). Laid BY PROGRAM, IN A SANDBOX (cutbox-door.mjs). By AI agents, Wed Nov 11 2026. No macro, syntax, notation, axiom, sorry.
-/
import Derived.Test.YtnijmegalgoipaaGreatDoorRows
import GoSem.ClaimSeven
namespace Go.Proofs.YtnijmegalgoipaaGreatDoor
namespace Rows

/-- THE TIED CARD OF 'armariumlaw01.DiskPlays'. -/
def diskPlaysCard : Claim7 := { stood := { row := diskPlaysRow, standIns := [], harness := (true, "e5be6c76d28a73c17eb70d61bcba5ac688d7c70e59593fb6f04decaec3c05b7f"), looks := false }, kinds := [], alts := [], laidByText := true, laidKinds := [.data, .pinned], laidTests := true, laidLooks := .later }
def DiskPlaysCardSaid : Prop := Claim7.holds Tryz.pinned (.plain (OpenSpec.ofChange diskPlaysSpec)) diskPlaysCard

/-- THE TIED CARD OF 'armariumlaw01.DiskCopies'. -/
def diskCopiesCard : Claim7 := { stood := { row := diskCopiesRow, standIns := [], harness := (true, "e5be6c76d28a73c17eb70d61bcba5ac688d7c70e59593fb6f04decaec3c05b7f"), looks := false }, kinds := [], alts := [], laidByText := true, laidKinds := [.data, .pinned], laidTests := true, laidLooks := .later }
def DiskCopiesCardSaid : Prop := Claim7.holds Tryz.pinned (.plain (OpenSpec.ofChange diskCopiesSpec)) diskCopiesCard

/-- THE TIED CARD OF 'armariumlaw16.JournalChecks'. -/
def journalChecksCard : Claim7 := { stood := { row := journalChecksRow, standIns := [], harness := (true, "e5be6c76d28a73c17eb70d61bcba5ac688d7c70e59593fb6f04decaec3c05b7f"), looks := false }, kinds := [], alts := [], laidByText := true, laidKinds := [.data, .pinned], laidTests := true, laidLooks := .later }
def JournalChecksCardSaid : Prop := Claim7.holds Tryz.pinned (.plain (OpenSpec.ofChange journalChecksSpec)) journalChecksCard

/-- THE TIED CARD OF 'armariumlaw16.JournalOrder'. -/
def journalOrderCard : Claim7 := { stood := { row := journalOrderRow, standIns := [], harness := (true, "e5be6c76d28a73c17eb70d61bcba5ac688d7c70e59593fb6f04decaec3c05b7f"), looks := false }, kinds := [], alts := [], laidByText := true, laidKinds := [.data, .pinned], laidTests := true, laidLooks := .later }
def JournalOrderCardSaid : Prop := Claim7.holds Tryz.pinned (.plain (OpenSpec.ofChange journalOrderSpec)) journalOrderCard

/-- THE TIED CARD OF 'armariumlaw16.JournalLasts'. -/
def journalLastsCard : Claim7 := { stood := { row := journalLastsRow, standIns := [], harness := (true, "e5be6c76d28a73c17eb70d61bcba5ac688d7c70e59593fb6f04decaec3c05b7f"), looks := false }, kinds := [], alts := [], laidByText := true, laidKinds := [.data, .pinned], laidTests := true, laidLooks := .later }
def JournalLastsCardSaid : Prop := Claim7.holds Tryz.pinned (.plain (OpenSpec.ofChange journalLastsSpec)) journalLastsCard

/-- THE TIED CARD OF 'armariumlaw16.JournalPlays'. -/
def journalPlaysCard : Claim7 := { stood := { row := journalPlaysRow, standIns := [], harness := (true, "e5be6c76d28a73c17eb70d61bcba5ac688d7c70e59593fb6f04decaec3c05b7f"), looks := false }, kinds := [], alts := [], laidByText := true, laidKinds := [.data, .pinned], laidTests := true, laidLooks := .later }
def JournalPlaysCardSaid : Prop := Claim7.holds Tryz.pinned (.plain (OpenSpec.ofChange journalPlaysSpec)) journalPlaysCard

/-- THE SECOND FORM's CARD OF 'armariumlaw01.DiskPlays'. -/
def diskPlaysUptoCard : Claim7 := { stood := { row := diskPlaysUptoRow, standIns := [], harness := (true, "e5be6c76d28a73c17eb70d61bcba5ac688d7c70e59593fb6f04decaec3c05b7f"), looks := false }, kinds := [], alts := [], laidByText := true, laidKinds := [.data, .pinned], laidTests := true, laidLooks := .later }
def DiskPlaysUptoCardSaid : Prop := Claim7.holds Tryz.pinned (.plain (OpenSpec.upto diskPlaysSpec)) diskPlaysUptoCard

/-- THE SECOND FORM's CARD OF 'armariumlaw01.DiskCopies'. -/
def diskCopiesUptoCard : Claim7 := { stood := { row := diskCopiesUptoRow, standIns := [], harness := (true, "e5be6c76d28a73c17eb70d61bcba5ac688d7c70e59593fb6f04decaec3c05b7f"), looks := false }, kinds := [], alts := [], laidByText := true, laidKinds := [.data, .pinned], laidTests := true, laidLooks := .later }
def DiskCopiesUptoCardSaid : Prop := Claim7.holds Tryz.pinned (.plain (OpenSpec.upto diskCopiesSpec)) diskCopiesUptoCard

/-- THE SECOND FORM's CARD OF 'armariumlaw16.JournalChecks'. -/
def journalChecksUptoCard : Claim7 := { stood := { row := journalChecksUptoRow, standIns := [], harness := (true, "e5be6c76d28a73c17eb70d61bcba5ac688d7c70e59593fb6f04decaec3c05b7f"), looks := false }, kinds := [], alts := [], laidByText := true, laidKinds := [.data, .pinned], laidTests := true, laidLooks := .later }
def JournalChecksUptoCardSaid : Prop := Claim7.holds Tryz.pinned (.plain (OpenSpec.upto journalChecksSpec)) journalChecksUptoCard

/-- THE SECOND FORM's CARD OF 'armariumlaw16.JournalOrder'. -/
def journalOrderUptoCard : Claim7 := { stood := { row := journalOrderUptoRow, standIns := [], harness := (true, "e5be6c76d28a73c17eb70d61bcba5ac688d7c70e59593fb6f04decaec3c05b7f"), looks := false }, kinds := [], alts := [], laidByText := true, laidKinds := [.data, .pinned], laidTests := true, laidLooks := .later }
def JournalOrderUptoCardSaid : Prop := Claim7.holds Tryz.pinned (.plain (OpenSpec.upto journalOrderSpec)) journalOrderUptoCard

/-- THE SECOND FORM's CARD OF 'armariumlaw16.JournalLasts'. -/
def journalLastsUptoCard : Claim7 := { stood := { row := journalLastsUptoRow, standIns := [], harness := (true, "e5be6c76d28a73c17eb70d61bcba5ac688d7c70e59593fb6f04decaec3c05b7f"), looks := false }, kinds := [], alts := [], laidByText := true, laidKinds := [.data, .pinned], laidTests := true, laidLooks := .later }
def JournalLastsUptoCardSaid : Prop := Claim7.holds Tryz.pinned (.plain (OpenSpec.upto journalLastsSpec)) journalLastsUptoCard

/-- THE SECOND FORM's CARD OF 'armariumlaw16.JournalPlays'. -/
def journalPlaysUptoCard : Claim7 := { stood := { row := journalPlaysUptoRow, standIns := [], harness := (true, "e5be6c76d28a73c17eb70d61bcba5ac688d7c70e59593fb6f04decaec3c05b7f"), looks := false }, kinds := [], alts := [], laidByText := true, laidKinds := [.data, .pinned], laidTests := true, laidLooks := .later }
def JournalPlaysUptoCardSaid : Prop := Claim7.holds Tryz.pinned (.plain (OpenSpec.upto journalPlaysSpec)) journalPlaysUptoCard
end Rows
end Go.Proofs.YtnijmegalgoipaaGreatDoor
