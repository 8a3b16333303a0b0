/-
  DERIVED. GIVEN WITH THE SEED: THE CARDS: each row of YtnagmpnpgekhfaaDoorRows.lean that lists a variable, with what it lists TIED to the program's text (the seventh form; the later family's looks); each row that meets fmt, with fmt's text TOLD by the authors' own Lean function (tested against real Go, not proved from fmt's source: count such statements apart). THE CARD IS WHAT COUNTS. Prove the row's statement (the work); the ties are given (YtnagmpnpgekhfaaDoorTie.lean); close each card by the builder's one call (the guide's Derived/Test/ToyasCard.lean, 'card_holds'). Laid BY PROGRAM, IN A SANDBOX (cutbox-door.mjs). By AI agents, Wed Nov 11 2026. No macro, syntax, notation, axiom, sorry.
-/
import Derived.Test.YtnagmpnpgekhfaaDoorRows
import GoSem.ClaimSeven
namespace Go.Proofs.YtnagmpnpgekhfaaDoor
namespace Rows

/-- THE TIED CARD OF 'armariumlaw19.ManifestReads'. -/
def manifestReadsCard : Claim7 := { stood := { row := manifestReadsRow, standIns := [], harness := (true, "a791053431b2f4a1a0e9a632313314849cfc3d8ef8cc68b613d461b2789d4129"), looks := true }, kinds := [], alts := [], laidByText := true, laidKinds := [.data, .pinned], laidTests := true, laidLooks := .later }
def ManifestReadsCardSaid : Prop := Claim7.holds Tryd.pinned (.plain (OpenSpec.ofChange manifestReadsSpec)) manifestReadsCard

/-- THE TIED CARD OF 'armariumlaw19.ManifestTells'. -/
def manifestTellsCard : Claim7 := { stood := { row := manifestTellsRow, standIns := [], harness := (true, "a791053431b2f4a1a0e9a632313314849cfc3d8ef8cc68b613d461b2789d4129"), looks := true }, kinds := [], alts := [], laidByText := true, laidKinds := [.data, .pinned], laidTests := true, laidLooks := .later }
def ManifestTellsCardSaid : Prop := Claim7.holds Tryd.pinned (.plain (OpenSpec.ofChange manifestTellsSpec)) manifestTellsCard

/-- THE TIED CARD OF 'armariumlaw19.ManifestWants'. -/
def manifestWantsCard : Claim7 := { stood := { row := manifestWantsRow, standIns := [], harness := (true, "a791053431b2f4a1a0e9a632313314849cfc3d8ef8cc68b613d461b2789d4129"), looks := true }, kinds := [], alts := [], laidByText := true, laidKinds := [.data, .pinned], laidTests := true, laidLooks := .later }
def ManifestWantsCardSaid : Prop := Claim7.holds Tryd.pinned (.plain (OpenSpec.ofChange manifestWantsSpec)) manifestWantsCard

/-- THE SECOND FORM's CARD OF 'armariumlaw19.ManifestReads'. -/
def manifestReadsUptoCard : Claim7 := { stood := { row := manifestReadsUptoRow, standIns := [], harness := (true, "a791053431b2f4a1a0e9a632313314849cfc3d8ef8cc68b613d461b2789d4129"), looks := true }, kinds := [], alts := [], laidByText := true, laidKinds := [.data, .pinned], laidTests := true, laidLooks := .later }
def ManifestReadsUptoCardSaid : Prop := Claim7.holds Tryd.pinned (.plain (OpenSpec.upto manifestReadsSpec)) manifestReadsUptoCard

/-- THE SECOND FORM's CARD OF 'armariumlaw19.ManifestTells'. -/
def manifestTellsUptoCard : Claim7 := { stood := { row := manifestTellsUptoRow, standIns := [], harness := (true, "a791053431b2f4a1a0e9a632313314849cfc3d8ef8cc68b613d461b2789d4129"), looks := true }, kinds := [], alts := [], laidByText := true, laidKinds := [.data, .pinned], laidTests := true, laidLooks := .later }
def ManifestTellsUptoCardSaid : Prop := Claim7.holds Tryd.pinned (.plain (OpenSpec.upto manifestTellsSpec)) manifestTellsUptoCard

/-- THE SECOND FORM's CARD OF 'armariumlaw19.ManifestWants'. -/
def manifestWantsUptoCard : Claim7 := { stood := { row := manifestWantsUptoRow, standIns := [], harness := (true, "a791053431b2f4a1a0e9a632313314849cfc3d8ef8cc68b613d461b2789d4129"), looks := true }, kinds := [], alts := [], laidByText := true, laidKinds := [.data, .pinned], laidTests := true, laidLooks := .later }
def ManifestWantsUptoCardSaid : Prop := Claim7.holds Tryd.pinned (.plain (OpenSpec.upto manifestWantsSpec)) manifestWantsUptoCard
end Rows
end Go.Proofs.YtnagmpnpgekhfaaDoor
