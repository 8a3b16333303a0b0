/-
  DERIVED. GIVEN WITH THE SEED: THE CARDS: each row of YtcdlileichdeoaaDoorRows.lean that lists a variable, with what it lists TIED to the program's text (the seventh form; the later family's looks); each row that meets fmt, with fmt's text TOLD by the authors' own Lean function (tested against real Go, not proved from fmt's source: count such statements apart). THE CARD IS WHAT COUNTS. Prove the row's statement (the work); the ties are given (YtcdlileichdeoaaDoorTie.lean); close each card by the builder's one call (the guide's Derived/Test/ToyasCard.lean, 'card_holds'). Laid BY PROGRAM, IN A SANDBOX (cutbox-door.mjs). By AI agents, Wed Nov 11 2026. No macro, syntax, notation, axiom, sorry.
-/
import Derived.Test.YtcdlileichdeoaaDoorRows
import GoSem.ClaimSeven
namespace Go.Proofs.YtcdlileichdeoaaDoor
namespace Rows

/-- THE TIED CARD OF 'armariumlaw19.ManifestReads'. -/
def manifestReadsCard : Claim7 := { stood := { row := manifestReadsRow, standIns := [], harness := (true, "278a41e9e83a508310b0584e6d966499d91c7838273ebe3bdb6ac37488689b0f"), looks := true }, kinds := [], alts := [], laidByText := true, laidKinds := [.data, .pinned], laidTests := true, laidLooks := .later }
def ManifestReadsCardSaid : Prop := Claim7.holds Tryd.pinned (.plain (OpenSpec.ofChange manifestReadsSpec)) manifestReadsCard

/-- THE TIED CARD OF 'armariumlaw19.ManifestTurned'. -/
def manifestTurnedCard : Claim7 := { stood := { row := manifestTurnedRow, standIns := [], harness := (true, "278a41e9e83a508310b0584e6d966499d91c7838273ebe3bdb6ac37488689b0f"), looks := true }, kinds := [], alts := [], laidByText := true, laidKinds := [.data, .pinned], laidTests := true, laidLooks := .later }
def ManifestTurnedCardSaid : Prop := Claim7.holds Tryd.pinned (.plain (OpenSpec.ofChange manifestTurnedSpec)) manifestTurnedCard

/-- THE TIED CARD OF 'armariumlaw19.ManifestSame'. -/
def manifestSameCard : Claim7 := { stood := { row := manifestSameRow, standIns := [], harness := (true, "278a41e9e83a508310b0584e6d966499d91c7838273ebe3bdb6ac37488689b0f"), looks := true }, kinds := [], alts := [], laidByText := true, laidKinds := [.data, .pinned], laidTests := true, laidLooks := .later }
def ManifestSameCardSaid : Prop := Claim7.holds Tryd.pinned (.plain (OpenSpec.ofChange manifestSameSpec)) manifestSameCard

/-- THE TIED CARD OF 'armariumlaw19.ManifestBack'. -/
def manifestBackCard : Claim7 := { stood := { row := manifestBackRow, standIns := [], harness := (true, "278a41e9e83a508310b0584e6d966499d91c7838273ebe3bdb6ac37488689b0f"), looks := true }, kinds := [], alts := [], laidByText := true, laidKinds := [.data, .pinned], laidTests := true, laidLooks := .later }
def ManifestBackCardSaid : Prop := Claim7.holds Tryd.pinned (.plain (OpenSpec.ofChange manifestBackSpec)) manifestBackCard

/-- THE TIED CARD OF 'armariumlaw19.ManifestTells'. -/
def manifestTellsCard : Claim7 := { stood := { row := manifestTellsRow, standIns := [], harness := (true, "278a41e9e83a508310b0584e6d966499d91c7838273ebe3bdb6ac37488689b0f"), looks := true }, kinds := [], alts := [], laidByText := true, laidKinds := [.data, .pinned], laidTests := true, laidLooks := .later }
def ManifestTellsCardSaid : Prop := Claim7.holds Tryd.pinned (.plain (OpenSpec.ofChange manifestTellsSpec)) manifestTellsCard

/-- THE TIED CARD OF 'armariumlaw19.ManifestWants'. -/
def manifestWantsCard : Claim7 := { stood := { row := manifestWantsRow, standIns := [], harness := (true, "278a41e9e83a508310b0584e6d966499d91c7838273ebe3bdb6ac37488689b0f"), looks := true }, kinds := [], alts := [], laidByText := true, laidKinds := [.data, .pinned], laidTests := true, laidLooks := .later }
def ManifestWantsCardSaid : Prop := Claim7.holds Tryd.pinned (.plain (OpenSpec.ofChange manifestWantsSpec)) manifestWantsCard

/-- THE SECOND FORM's CARD OF 'armariumlaw19.ManifestReads'. -/
def manifestReadsUptoCard : Claim7 := { stood := { row := manifestReadsUptoRow, standIns := [], harness := (true, "278a41e9e83a508310b0584e6d966499d91c7838273ebe3bdb6ac37488689b0f"), looks := true }, kinds := [], alts := [], laidByText := true, laidKinds := [.data, .pinned], laidTests := true, laidLooks := .later }
def ManifestReadsUptoCardSaid : Prop := Claim7.holds Tryd.pinned (.plain (OpenSpec.upto manifestReadsSpec)) manifestReadsUptoCard

/-- THE SECOND FORM's CARD OF 'armariumlaw19.ManifestTurned'. -/
def manifestTurnedUptoCard : Claim7 := { stood := { row := manifestTurnedUptoRow, standIns := [], harness := (true, "278a41e9e83a508310b0584e6d966499d91c7838273ebe3bdb6ac37488689b0f"), looks := true }, kinds := [], alts := [], laidByText := true, laidKinds := [.data, .pinned], laidTests := true, laidLooks := .later }
def ManifestTurnedUptoCardSaid : Prop := Claim7.holds Tryd.pinned (.plain (OpenSpec.upto manifestTurnedSpec)) manifestTurnedUptoCard

/-- THE SECOND FORM's CARD OF 'armariumlaw19.ManifestSame'. -/
def manifestSameUptoCard : Claim7 := { stood := { row := manifestSameUptoRow, standIns := [], harness := (true, "278a41e9e83a508310b0584e6d966499d91c7838273ebe3bdb6ac37488689b0f"), looks := true }, kinds := [], alts := [], laidByText := true, laidKinds := [.data, .pinned], laidTests := true, laidLooks := .later }
def ManifestSameUptoCardSaid : Prop := Claim7.holds Tryd.pinned (.plain (OpenSpec.upto manifestSameSpec)) manifestSameUptoCard

/-- THE SECOND FORM's CARD OF 'armariumlaw19.ManifestBack'. -/
def manifestBackUptoCard : Claim7 := { stood := { row := manifestBackUptoRow, standIns := [], harness := (true, "278a41e9e83a508310b0584e6d966499d91c7838273ebe3bdb6ac37488689b0f"), looks := true }, kinds := [], alts := [], laidByText := true, laidKinds := [.data, .pinned], laidTests := true, laidLooks := .later }
def ManifestBackUptoCardSaid : Prop := Claim7.holds Tryd.pinned (.plain (OpenSpec.upto manifestBackSpec)) manifestBackUptoCard

/-- THE SECOND FORM's CARD OF 'armariumlaw19.ManifestTells'. -/
def manifestTellsUptoCard : Claim7 := { stood := { row := manifestTellsUptoRow, standIns := [], harness := (true, "278a41e9e83a508310b0584e6d966499d91c7838273ebe3bdb6ac37488689b0f"), looks := true }, kinds := [], alts := [], laidByText := true, laidKinds := [.data, .pinned], laidTests := true, laidLooks := .later }
def ManifestTellsUptoCardSaid : Prop := Claim7.holds Tryd.pinned (.plain (OpenSpec.upto manifestTellsSpec)) manifestTellsUptoCard

/-- THE SECOND FORM's CARD OF 'armariumlaw19.ManifestWants'. -/
def manifestWantsUptoCard : Claim7 := { stood := { row := manifestWantsUptoRow, standIns := [], harness := (true, "278a41e9e83a508310b0584e6d966499d91c7838273ebe3bdb6ac37488689b0f"), looks := true }, kinds := [], alts := [], laidByText := true, laidKinds := [.data, .pinned], laidTests := true, laidLooks := .later }
def ManifestWantsUptoCardSaid : Prop := Claim7.holds Tryd.pinned (.plain (OpenSpec.upto manifestWantsSpec)) manifestWantsUptoCard
end Rows
end Go.Proofs.YtcdlileichdeoaaDoor
