/-
  DERIVED. GIVEN WITH THE SEED: THE CARDS: each row of YtgiccohjijhfkaaGreatDoorRows.lean that lists a variable, with what it lists TIED to the program's text (the seventh form; the later family's looks); each row that meets fmt, with fmt's text TOLD by the authors' own Lean function (tested against real Go, not proved from fmt's source: count such statements apart). THE CARD IS WHAT COUNTS. Prove the row's statement (the work); the ties are given (YtgiccohjijhfkaaGreatDoorTie.lean); close each card by the builder's one call (the guide's Derived/Test/ToyasCard.lean, 'card_holds'). Laid BY PROGRAM, IN A SANDBOX (cutbox-door.mjs). By AI agents, Wed Nov 11 2026. No macro, syntax, notation, axiom, sorry.
-/
import Derived.Test.YtgiccohjijhfkaaGreatDoorRows
import GoSem.ClaimSeven
namespace Go.Proofs.YtgiccohjijhfkaaGreatDoor
namespace Rows

/-- THE TIED CARD OF 'armariumlaw15.PackPlays'. -/
def packPlaysCard : Claim7 := { stood := { row := packPlaysRow, standIns := [], harness := (true, "6a6e29e4b6d67af455ef55d6e52e8dc4387d566548614b044f5804091b608913"), looks := false }, kinds := [], alts := [], laidByText := true, laidKinds := [.data, .data, .data, .data, .data, .data, .pinned], laidTests := true, laidLooks := .later }
def PackPlaysCardSaid : Prop := Claim7.holds Tryz.pinned (.plain (OpenSpec.ofChange packPlaysSpec)) packPlaysCard

/-- THE SECOND FORM's CARD OF 'armariumlaw15.PackPlays'. -/
def packPlaysUptoCard : Claim7 := { stood := { row := packPlaysUptoRow, standIns := [], harness := (true, "6a6e29e4b6d67af455ef55d6e52e8dc4387d566548614b044f5804091b608913"), looks := false }, kinds := [], alts := [], laidByText := true, laidKinds := [.data, .data, .data, .data, .data, .data, .pinned], laidTests := true, laidLooks := .later }
def PackPlaysUptoCardSaid : Prop := Claim7.holds Tryz.pinned (.plain (OpenSpec.upto packPlaysSpec)) packPlaysUptoCard
end Rows
end Go.Proofs.YtgiccohjijhfkaaGreatDoor
