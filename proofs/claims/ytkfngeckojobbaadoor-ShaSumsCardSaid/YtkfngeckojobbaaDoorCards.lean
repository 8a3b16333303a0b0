/-
  DERIVED. GIVEN WITH THE SEED: THE CARDS: each row of YtkfngeckojobbaaDoorRows.lean that lists a variable, with what it lists TIED to the program's text (the seventh form; the later family's looks); each row that meets fmt, with fmt's text TOLD by the authors' own Lean function (tested against real Go, not proved from fmt's source: count such statements apart). THE CARD IS WHAT COUNTS. Prove the row's statement (the work); the ties are given (YtkfngeckojobbaaDoorTie.lean); close each card by the builder's one call (the guide's Derived/Test/ToyasCard.lean, 'card_holds'). Laid BY PROGRAM, IN A SANDBOX (cutbox-door.mjs). By AI agents, Wed Nov 11 2026. No macro, syntax, notation, axiom, sorry.
-/
import Derived.Test.YtkfngeckojobbaaDoorRows
import GoSem.ClaimSeven
namespace Go.Proofs.YtkfngeckojobbaaDoor
namespace Rows

/-- THE TIED CARD OF 'armariumlaw02.ShaSums'. -/
def shaSumsCard : Claim7 := { stood := { row := shaSumsRow, standIns := [], harness := (true, "781b1a995179f903917b137599fda6f86d06485a3a59e1be029b669e6b0d7a15"), looks := false }, kinds := [], alts := [], laidByText := true, laidKinds := [.data, .data], laidTests := true, laidLooks := .later }
def ShaSumsCardSaid : Prop := Claim7.holds Tryd.pinned (.plain (OpenSpec.ofChange shaSumsSpec)) shaSumsCard

/-- THE TIED CARD OF 'armariumlaw02.ShaOrders'. -/
def shaOrdersCard : Claim7 := { stood := { row := shaOrdersRow, standIns := [], harness := (true, "781b1a995179f903917b137599fda6f86d06485a3a59e1be029b669e6b0d7a15"), looks := false }, kinds := [], alts := [], laidByText := true, laidKinds := [.data, .data], laidTests := true, laidLooks := .later }
def ShaOrdersCardSaid : Prop := Claim7.holds Tryd.pinned (.plain (OpenSpec.ofChange shaOrdersSpec)) shaOrdersCard

/-- THE TIED CARD OF 'armariumlaw02.ShaParts'. -/
def shaPartsCard : Claim7 := { stood := { row := shaPartsRow, standIns := [], harness := (true, "781b1a995179f903917b137599fda6f86d06485a3a59e1be029b669e6b0d7a15"), looks := false }, kinds := [], alts := [], laidByText := true, laidKinds := [.data, .data], laidTests := true, laidLooks := .later }
def ShaPartsCardSaid : Prop := Claim7.holds Tryd.pinned (.plain (OpenSpec.ofChange shaPartsSpec)) shaPartsCard

/-- THE TIED CARD OF 'armariumlaw02.ShaNil'. -/
def shaNilCard : Claim7 := { stood := { row := shaNilRow, standIns := [], harness := (true, "781b1a995179f903917b137599fda6f86d06485a3a59e1be029b669e6b0d7a15"), looks := false }, kinds := [], alts := [], laidByText := true, laidKinds := [.data, .data], laidTests := true, laidLooks := .later }
def ShaNilCardSaid : Prop := Claim7.holds Tryd.pinned (.plain (OpenSpec.ofChange shaNilSpec)) shaNilCard

/-- THE TIED CARD OF 'armariumlaw02.ShaPrints'. -/
def shaPrintsCard : Claim7 := { stood := { row := shaPrintsRow, standIns := [], harness := (true, "781b1a995179f903917b137599fda6f86d06485a3a59e1be029b669e6b0d7a15"), looks := false }, kinds := [], alts := [], laidByText := true, laidKinds := [.data, .data], laidTests := true, laidLooks := .later }
def ShaPrintsCardSaid : Prop := Claim7.holds Tryd.pinned (.plain (OpenSpec.ofChange shaPrintsSpec)) shaPrintsCard

/-- THE TIED CARD OF 'armariumlaw02.ShaBack'. -/
def shaBackCard : Claim7 := { stood := { row := shaBackRow, standIns := [], harness := (true, "781b1a995179f903917b137599fda6f86d06485a3a59e1be029b669e6b0d7a15"), looks := false }, kinds := [], alts := [], laidByText := true, laidKinds := [.data, .data], laidTests := true, laidLooks := .later }
def ShaBackCardSaid : Prop := Claim7.holds Tryd.pinned (.plain (OpenSpec.ofChange shaBackSpec)) shaBackCard

/-- THE SECOND FORM's CARD OF 'armariumlaw02.ShaSums'. -/
def shaSumsUptoCard : Claim7 := { stood := { row := shaSumsUptoRow, standIns := [], harness := (true, "781b1a995179f903917b137599fda6f86d06485a3a59e1be029b669e6b0d7a15"), looks := false }, kinds := [], alts := [], laidByText := true, laidKinds := [.data, .data], laidTests := true, laidLooks := .later }
def ShaSumsUptoCardSaid : Prop := Claim7.holds Tryd.pinned (.plain (OpenSpec.upto shaSumsSpec)) shaSumsUptoCard

/-- THE SECOND FORM's CARD OF 'armariumlaw02.ShaOrders'. -/
def shaOrdersUptoCard : Claim7 := { stood := { row := shaOrdersUptoRow, standIns := [], harness := (true, "781b1a995179f903917b137599fda6f86d06485a3a59e1be029b669e6b0d7a15"), looks := false }, kinds := [], alts := [], laidByText := true, laidKinds := [.data, .data], laidTests := true, laidLooks := .later }
def ShaOrdersUptoCardSaid : Prop := Claim7.holds Tryd.pinned (.plain (OpenSpec.upto shaOrdersSpec)) shaOrdersUptoCard

/-- THE SECOND FORM's CARD OF 'armariumlaw02.ShaParts'. -/
def shaPartsUptoCard : Claim7 := { stood := { row := shaPartsUptoRow, standIns := [], harness := (true, "781b1a995179f903917b137599fda6f86d06485a3a59e1be029b669e6b0d7a15"), looks := false }, kinds := [], alts := [], laidByText := true, laidKinds := [.data, .data], laidTests := true, laidLooks := .later }
def ShaPartsUptoCardSaid : Prop := Claim7.holds Tryd.pinned (.plain (OpenSpec.upto shaPartsSpec)) shaPartsUptoCard

/-- THE SECOND FORM's CARD OF 'armariumlaw02.ShaNil'. -/
def shaNilUptoCard : Claim7 := { stood := { row := shaNilUptoRow, standIns := [], harness := (true, "781b1a995179f903917b137599fda6f86d06485a3a59e1be029b669e6b0d7a15"), looks := false }, kinds := [], alts := [], laidByText := true, laidKinds := [.data, .data], laidTests := true, laidLooks := .later }
def ShaNilUptoCardSaid : Prop := Claim7.holds Tryd.pinned (.plain (OpenSpec.upto shaNilSpec)) shaNilUptoCard

/-- THE SECOND FORM's CARD OF 'armariumlaw02.ShaPrints'. -/
def shaPrintsUptoCard : Claim7 := { stood := { row := shaPrintsUptoRow, standIns := [], harness := (true, "781b1a995179f903917b137599fda6f86d06485a3a59e1be029b669e6b0d7a15"), looks := false }, kinds := [], alts := [], laidByText := true, laidKinds := [.data, .data], laidTests := true, laidLooks := .later }
def ShaPrintsUptoCardSaid : Prop := Claim7.holds Tryd.pinned (.plain (OpenSpec.upto shaPrintsSpec)) shaPrintsUptoCard

/-- THE SECOND FORM's CARD OF 'armariumlaw02.ShaBack'. -/
def shaBackUptoCard : Claim7 := { stood := { row := shaBackUptoRow, standIns := [], harness := (true, "781b1a995179f903917b137599fda6f86d06485a3a59e1be029b669e6b0d7a15"), looks := false }, kinds := [], alts := [], laidByText := true, laidKinds := [.data, .data], laidTests := true, laidLooks := .later }
def ShaBackUptoCardSaid : Prop := Claim7.holds Tryd.pinned (.plain (OpenSpec.upto shaBackSpec)) shaBackUptoCard
end Rows
end Go.Proofs.YtkfngeckojobbaaDoor
