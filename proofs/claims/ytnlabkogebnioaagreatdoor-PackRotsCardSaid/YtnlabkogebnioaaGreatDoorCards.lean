/-
  DERIVED. GIVEN WITH THE SEED: THE CARDS: each row of YtnlabkogebnioaaGreatDoorRows.lean that lists a variable, with what it lists TIED to the program's text (the seventh form; the later family's looks); each row that meets fmt, with fmt's text TOLD by the authors' own Lean function (tested against real Go, not proved from fmt's source: count such statements apart). THE CARD IS WHAT COUNTS. Prove the row's statement (the work); the ties are given (YtnlabkogebnioaaGreatDoorTie.lean); close each card by the builder's one call (the guide's Derived/Test/ToyasCard.lean, 'card_holds'). Laid BY PROGRAM, IN A SANDBOX (cutbox-door.mjs). By AI agents, Wed Nov 11 2026. No macro, syntax, notation, axiom, sorry.
-/
import Derived.Test.YtnlabkogebnioaaGreatDoorRows
import GoSem.ClaimSeven
namespace Go.Proofs.YtnlabkogebnioaaGreatDoor
namespace Rows

/-- THE TIED CARD OF 'armariumlaw15.PackScans'. -/
def packScansCard : Claim7 := { stood := { row := packScansRow, standIns := [], harness := (true, "c1506043ff677983eb54de6fcf39316e7542695b639c73613bd0163c8a036f6a"), looks := false }, kinds := [], alts := [], laidByText := true, laidKinds := [.data, .data, .data, .data, .data, .data, .pinned], laidTests := true, laidLooks := .later }
def PackScansCardSaid : Prop := Claim7.holds Tryz.pinned (.plain (OpenSpec.ofChange packScansSpec)) packScansCard

/-- THE TIED CARD OF 'armariumlaw15.PackRots'. -/
def packRotsCard : Claim7 := { stood := { row := packRotsRow, standIns := [], harness := (true, "c1506043ff677983eb54de6fcf39316e7542695b639c73613bd0163c8a036f6a"), looks := false }, kinds := [], alts := [], laidByText := true, laidKinds := [.data, .data, .data, .data, .data, .data, .pinned], laidTests := true, laidLooks := .later }
def PackRotsCardSaid : Prop := Claim7.holds Tryz.pinned (.plain (OpenSpec.ofChange packRotsSpec)) packRotsCard

/-- THE TIED CARD OF 'armariumlaw15.PackNil'. -/
def packNilCard : Claim7 := { stood := { row := packNilRow, standIns := [], harness := (true, "c1506043ff677983eb54de6fcf39316e7542695b639c73613bd0163c8a036f6a"), looks := false }, kinds := [], alts := [], laidByText := true, laidKinds := [.data, .data, .data, .data, .data, .data, .pinned], laidTests := true, laidLooks := .later }
def PackNilCardSaid : Prop := Claim7.holds Tryz.pinned (.plain (OpenSpec.ofChange packNilSpec)) packNilCard

/-- THE TIED CARD OF 'armariumlaw15.PackTorn'. -/
def packTornCard : Claim7 := { stood := { row := packTornRow, standIns := [], harness := (true, "c1506043ff677983eb54de6fcf39316e7542695b639c73613bd0163c8a036f6a"), looks := false }, kinds := [], alts := [], laidByText := true, laidKinds := [.data, .data, .data, .data, .data, .data, .pinned], laidTests := true, laidLooks := .later }
def PackTornCardSaid : Prop := Claim7.holds Tryz.pinned (.plain (OpenSpec.ofChange packTornSpec)) packTornCard

/-- THE TIED CARD OF 'armariumlaw15.PackBack'. -/
def packBackCard : Claim7 := { stood := { row := packBackRow, standIns := [], harness := (true, "c1506043ff677983eb54de6fcf39316e7542695b639c73613bd0163c8a036f6a"), looks := false }, kinds := [], alts := [], laidByText := true, laidKinds := [.data, .data, .data, .data, .data, .data, .pinned], laidTests := true, laidLooks := .later }
def PackBackCardSaid : Prop := Claim7.holds Tryz.pinned (.plain (OpenSpec.ofChange packBackSpec)) packBackCard

/-- THE TIED CARD OF 'armariumlaw15.PackPlays'. -/
def packPlaysCard : Claim7 := { stood := { row := packPlaysRow, standIns := [], harness := (true, "c1506043ff677983eb54de6fcf39316e7542695b639c73613bd0163c8a036f6a"), looks := false }, kinds := [], alts := [], laidByText := true, laidKinds := [.data, .data, .data, .data, .data, .data, .pinned], laidTests := true, laidLooks := .later }
def PackPlaysCardSaid : Prop := Claim7.holds Tryz.pinned (.plain (OpenSpec.ofChange packPlaysSpec)) packPlaysCard

/-- THE SECOND FORM's CARD OF 'armariumlaw15.PackScans'. -/
def packScansUptoCard : Claim7 := { stood := { row := packScansUptoRow, standIns := [], harness := (true, "c1506043ff677983eb54de6fcf39316e7542695b639c73613bd0163c8a036f6a"), looks := false }, kinds := [], alts := [], laidByText := true, laidKinds := [.data, .data, .data, .data, .data, .data, .pinned], laidTests := true, laidLooks := .later }
def PackScansUptoCardSaid : Prop := Claim7.holds Tryz.pinned (.plain (OpenSpec.upto packScansSpec)) packScansUptoCard

/-- THE SECOND FORM's CARD OF 'armariumlaw15.PackRots'. -/
def packRotsUptoCard : Claim7 := { stood := { row := packRotsUptoRow, standIns := [], harness := (true, "c1506043ff677983eb54de6fcf39316e7542695b639c73613bd0163c8a036f6a"), looks := false }, kinds := [], alts := [], laidByText := true, laidKinds := [.data, .data, .data, .data, .data, .data, .pinned], laidTests := true, laidLooks := .later }
def PackRotsUptoCardSaid : Prop := Claim7.holds Tryz.pinned (.plain (OpenSpec.upto packRotsSpec)) packRotsUptoCard

/-- THE SECOND FORM's CARD OF 'armariumlaw15.PackNil'. -/
def packNilUptoCard : Claim7 := { stood := { row := packNilUptoRow, standIns := [], harness := (true, "c1506043ff677983eb54de6fcf39316e7542695b639c73613bd0163c8a036f6a"), looks := false }, kinds := [], alts := [], laidByText := true, laidKinds := [.data, .data, .data, .data, .data, .data, .pinned], laidTests := true, laidLooks := .later }
def PackNilUptoCardSaid : Prop := Claim7.holds Tryz.pinned (.plain (OpenSpec.upto packNilSpec)) packNilUptoCard

/-- THE SECOND FORM's CARD OF 'armariumlaw15.PackTorn'. -/
def packTornUptoCard : Claim7 := { stood := { row := packTornUptoRow, standIns := [], harness := (true, "c1506043ff677983eb54de6fcf39316e7542695b639c73613bd0163c8a036f6a"), looks := false }, kinds := [], alts := [], laidByText := true, laidKinds := [.data, .data, .data, .data, .data, .data, .pinned], laidTests := true, laidLooks := .later }
def PackTornUptoCardSaid : Prop := Claim7.holds Tryz.pinned (.plain (OpenSpec.upto packTornSpec)) packTornUptoCard

/-- THE SECOND FORM's CARD OF 'armariumlaw15.PackBack'. -/
def packBackUptoCard : Claim7 := { stood := { row := packBackUptoRow, standIns := [], harness := (true, "c1506043ff677983eb54de6fcf39316e7542695b639c73613bd0163c8a036f6a"), looks := false }, kinds := [], alts := [], laidByText := true, laidKinds := [.data, .data, .data, .data, .data, .data, .pinned], laidTests := true, laidLooks := .later }
def PackBackUptoCardSaid : Prop := Claim7.holds Tryz.pinned (.plain (OpenSpec.upto packBackSpec)) packBackUptoCard

/-- THE SECOND FORM's CARD OF 'armariumlaw15.PackPlays'. -/
def packPlaysUptoCard : Claim7 := { stood := { row := packPlaysUptoRow, standIns := [], harness := (true, "c1506043ff677983eb54de6fcf39316e7542695b639c73613bd0163c8a036f6a"), looks := false }, kinds := [], alts := [], laidByText := true, laidKinds := [.data, .data, .data, .data, .data, .data, .pinned], laidTests := true, laidLooks := .later }
def PackPlaysUptoCardSaid : Prop := Claim7.holds Tryz.pinned (.plain (OpenSpec.upto packPlaysSpec)) packPlaysUptoCard
end Rows
end Go.Proofs.YtnlabkogebnioaaGreatDoor
