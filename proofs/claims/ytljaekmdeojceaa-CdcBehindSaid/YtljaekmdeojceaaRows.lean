/-
  No cell of these rows narrows 'for every input' (looked for: loops, veiled, ifaces, maps, wideKeys, modest, calm, conditions, laid).
  DERIVED. THE GIVEN ROWS OF THIS SEAT. 6 by the template 'for every input the law returns true; each argument reads behind the call as it read before'; 0 by the template 'total and deterministic' (their statements: YtljaekmdeojceaaTotals.lean).
  GIVEN WITH THE SEED: the statements are not yours to turn. If you find one false, say at which input.
  Laid BY PROGRAM, IN A SANDBOX (cutbox-rows.mjs): the forced cells as the released guide's own fill.sh prints them over the translation bc0d97d35d37e828… (all of the seat's roots in one cut). By AI agents, Wed Nov 11 2026. No macro, syntax, notation, axiom, sorry.
-/
import Derived.Test.YtljaekmdeojceaaChecked
import GoSem.Claim
import GoSem.ClaimJoined
import GoSem.ClaimMapViews
import Derived.JoinedTies
import Derived.KernelRfl
namespace Go.Proofs.Ytljaekmdeojceaa
/- THE CELL 'sum', in the pinned program and in every row, IS THE sha256 OF THE DUMP (.gsa) THAT YtljaekmdeojceaaProg.lean LOADS. Nothing in Lean hashes anything: it is a label: what it is worth is what the hold of that sum in a sandbox is worth. -/
noncomputable def Try.pinned : Pinned := { name := "ytljaekmdeojceaa", sum := "bc0d97d35d37e8282c71cb18b87fac3f0c96f5b5044bd161ec8de429182eb336", checked := Try.checked }
namespace Rows
def none {H : Type} : Left H := { results := [], args := [] }

/-- 'armariumlaw13.CdcCuts': WHATEVER THE INPUT: true; the input reads as it did. -/
def cdcCutsSpec : ChangeSpec := { name := "cdcCuts", fn := fun _ => fun
  | [d] => { results := [.lit (.bool true)], args := [d] }
  | _ => none }
def cdcCutsRow : OpenClaim := { program := "ytljaekmdeojceaa", sum := "bc0d97d35d37e8282c71cb18b87fac3f0c96f5b5044bd161ec8de429182eb336", func := "armarium/armariumlaw13.CdcCuts", spec := "cdcCuts", unfollowed := true, recurses := true, apart := false }
def CdcCutsSaid : Prop := cdcCutsRow.holds Try.pinned (OpenSpec.ofChange cdcCutsSpec)

/-- ITS FALSE NEIGHBOUR: 'it returns false'. Refute it at one input. -/
def cdcCutsWrong : ChangeSpec := { name := "cdcCuts", fn := fun _ => fun
  | [d] => { results := [.lit (.bool false)], args := [d] }
  | _ => none }
def CdcCutsWrongFalsely : Prop := cdcCutsRow.holds Try.pinned (OpenSpec.ofChange cdcCutsWrong)

/-- 'armariumlaw13.CdcWhole': WHATEVER THE INPUT: true; the input reads as it did. -/
def cdcWholeSpec : ChangeSpec := { name := "cdcWhole", fn := fun _ => fun
  | [d] => { results := [.lit (.bool true)], args := [d] }
  | _ => none }
def cdcWholeRow : OpenClaim := { program := "ytljaekmdeojceaa", sum := "bc0d97d35d37e8282c71cb18b87fac3f0c96f5b5044bd161ec8de429182eb336", func := "armarium/armariumlaw13.CdcWhole", spec := "cdcWhole", unfollowed := true, recurses := true, apart := false }
def CdcWholeSaid : Prop := cdcWholeRow.holds Try.pinned (OpenSpec.ofChange cdcWholeSpec)

/-- ITS FALSE NEIGHBOUR: 'it returns false'. Refute it at one input. -/
def cdcWholeWrong : ChangeSpec := { name := "cdcWhole", fn := fun _ => fun
  | [d] => { results := [.lit (.bool false)], args := [d] }
  | _ => none }
def CdcWholeWrongFalsely : Prop := cdcWholeRow.holds Try.pinned (OpenSpec.ofChange cdcWholeWrong)

/-- 'armariumlaw13.CdcPieces': WHATEVER THE INPUT: true; the input reads as it did. -/
def cdcPiecesSpec : ChangeSpec := { name := "cdcPieces", fn := fun _ => fun
  | [d1, d2] => { results := [.lit (.bool true)], args := [d1, d2] }
  | _ => none }
def cdcPiecesRow : OpenClaim := { program := "ytljaekmdeojceaa", sum := "bc0d97d35d37e8282c71cb18b87fac3f0c96f5b5044bd161ec8de429182eb336", func := "armarium/armariumlaw13.CdcPieces", spec := "cdcPieces", unfollowed := true, recurses := true, apart := false }
def CdcPiecesSaid : Prop := cdcPiecesRow.holds Try.pinned (OpenSpec.ofChange cdcPiecesSpec)

/-- ITS FALSE NEIGHBOUR: 'it returns false'. Refute it at one input. -/
def cdcPiecesWrong : ChangeSpec := { name := "cdcPieces", fn := fun _ => fun
  | [d1, d2] => { results := [.lit (.bool false)], args := [d1, d2] }
  | _ => none }
def CdcPiecesWrongFalsely : Prop := cdcPiecesRow.holds Try.pinned (OpenSpec.ofChange cdcPiecesWrong)

/-- 'armariumlaw13.CdcBehind': WHATEVER THE INPUT: true; the input reads as it did. -/
def cdcBehindSpec : ChangeSpec := { name := "cdcBehind", fn := fun _ => fun
  | [d1, d2, d3] => { results := [.lit (.bool true)], args := [d1, d2, d3] }
  | _ => none }
def cdcBehindRow : OpenClaim := { program := "ytljaekmdeojceaa", sum := "bc0d97d35d37e8282c71cb18b87fac3f0c96f5b5044bd161ec8de429182eb336", func := "armarium/armariumlaw13.CdcBehind", spec := "cdcBehind", unfollowed := true, recurses := true, apart := false }
def CdcBehindSaid : Prop := cdcBehindRow.holds Try.pinned (OpenSpec.ofChange cdcBehindSpec)

/-- ITS FALSE NEIGHBOUR: 'it returns false'. Refute it at one input. -/
def cdcBehindWrong : ChangeSpec := { name := "cdcBehind", fn := fun _ => fun
  | [d1, d2, d3] => { results := [.lit (.bool false)], args := [d1, d2, d3] }
  | _ => none }
def CdcBehindWrongFalsely : Prop := cdcBehindRow.holds Try.pinned (OpenSpec.ofChange cdcBehindWrong)

/-- 'armariumlaw13.CdcStreams': WHATEVER THE INPUT: true; the input reads as it did. -/
def cdcStreamsSpec : ChangeSpec := { name := "cdcStreams", fn := fun _ => fun
  | [d] => { results := [.lit (.bool true)], args := [d] }
  | _ => none }
def cdcStreamsRow : OpenClaim := { program := "ytljaekmdeojceaa", sum := "bc0d97d35d37e8282c71cb18b87fac3f0c96f5b5044bd161ec8de429182eb336", func := "armarium/armariumlaw13.CdcStreams", spec := "cdcStreams", unfollowed := true, recurses := true, apart := false }
def CdcStreamsSaid : Prop := cdcStreamsRow.holds Try.pinned (OpenSpec.ofChange cdcStreamsSpec)

/-- ITS FALSE NEIGHBOUR: 'it returns false'. Refute it at one input. -/
def cdcStreamsWrong : ChangeSpec := { name := "cdcStreams", fn := fun _ => fun
  | [d] => { results := [.lit (.bool false)], args := [d] }
  | _ => none }
def CdcStreamsWrongFalsely : Prop := cdcStreamsRow.holds Try.pinned (OpenSpec.ofChange cdcStreamsWrong)

/-- 'armariumlaw13.CdcNil': WHATEVER THE INPUT: true; the input reads as it did. -/
def cdcNilSpec : ChangeSpec := { name := "cdcNil", fn := fun _ => fun
  | [d] => { results := [.lit (.bool true)], args := [d] }
  | _ => none }
def cdcNilRow : OpenClaim := { program := "ytljaekmdeojceaa", sum := "bc0d97d35d37e8282c71cb18b87fac3f0c96f5b5044bd161ec8de429182eb336", func := "armarium/armariumlaw13.CdcNil", spec := "cdcNil", unfollowed := true, recurses := true, apart := false }
def CdcNilSaid : Prop := cdcNilRow.holds Try.pinned (OpenSpec.ofChange cdcNilSpec)

/-- ITS FALSE NEIGHBOUR: 'it returns false'. Refute it at one input. -/
def cdcNilWrong : ChangeSpec := { name := "cdcNil", fn := fun _ => fun
  | [d] => { results := [.lit (.bool false)], args := [d] }
  | _ => none }
def CdcNilWrongFalsely : Prop := cdcNilRow.holds Try.pinned (OpenSpec.ofChange cdcNilWrong)

/- THE SECOND FORM. 'bulk': how many values and letters a reading holds, each counted each time it is reached (what is shared counts as often as it is met; a slice's spare places count too). A statement '..UptoSaid' is the law's where the arguments, and the package variables that the reading takes, are together of bulk at most 1048576: NARROWER than '..Said'. Prove '..Said' where nothing that the law and all that it calls make is longer than what came in: it says more and counts as full. Else prove '..UptoSaid'. A law counts once. -/
mutual
def uptoBulk {H : Type} : DataW H → Nat
  | .lit (.string bytes) => bytes.length + 1
  | .lit _ => 1
  | .nil => 1
  | .ptr d => uptoBulk d + 1
  | .slice elems spare => uptoBulkAll elems + uptoBulkAll spare + 1
  | .agg parts => uptoBulkAll parts + 1
  | .iface _ d => uptoBulk d + 1
  | .map entries => uptoBulkEntries entries + 1
  | .held _ => 1
def uptoBulkAll {H : Type} : List (DataW H) → Nat
  | [] => 0
  | d :: r => uptoBulk d + uptoBulkAll r
def uptoBulkEntries {H : Type} : List (Lit × DataW H) → Nat
  | [] => 0
  | x :: r => uptoBulkEntry x + uptoBulkEntries r
def uptoBulkEntry {H : Type} : Lit × DataW H → Nat
  | (.string bytes, d) => bytes.length + uptoBulk d + 1
  | (_, d) => uptoBulk d + 1
 end
def uptoSmall : (H : Type) → List (DataW H) → Bool := fun _ ds => decide (uptoBulkAll ds ≤ 1048576)
def OpenSpec.upto (s : _root_.Go.ChangeSpec) : _root_.Go.OpenSpec := { _root_.Go.OpenSpec.ofChange s with cond := some uptoSmall }

/-- 'armariumlaw13.CdcCuts', WHERE WHAT IT READS IS OF BULK AT MOST 1048576: true; the input reads as it did. -/
def cdcCutsUptoRow : OpenClaim := { program := "ytljaekmdeojceaa", sum := "bc0d97d35d37e8282c71cb18b87fac3f0c96f5b5044bd161ec8de429182eb336", func := "armarium/armariumlaw13.CdcCuts", spec := "cdcCuts", unfollowed := true, recurses := true, apart := false, narrowed := true }
def CdcCutsUptoSaid : Prop := cdcCutsUptoRow.holds Try.pinned (OpenSpec.upto cdcCutsSpec)

/-- 'armariumlaw13.CdcWhole', WHERE WHAT IT READS IS OF BULK AT MOST 1048576: true; the input reads as it did. -/
def cdcWholeUptoRow : OpenClaim := { program := "ytljaekmdeojceaa", sum := "bc0d97d35d37e8282c71cb18b87fac3f0c96f5b5044bd161ec8de429182eb336", func := "armarium/armariumlaw13.CdcWhole", spec := "cdcWhole", unfollowed := true, recurses := true, apart := false, narrowed := true }
def CdcWholeUptoSaid : Prop := cdcWholeUptoRow.holds Try.pinned (OpenSpec.upto cdcWholeSpec)

/-- 'armariumlaw13.CdcPieces', WHERE WHAT IT READS IS OF BULK AT MOST 1048576: true; the input reads as it did. -/
def cdcPiecesUptoRow : OpenClaim := { program := "ytljaekmdeojceaa", sum := "bc0d97d35d37e8282c71cb18b87fac3f0c96f5b5044bd161ec8de429182eb336", func := "armarium/armariumlaw13.CdcPieces", spec := "cdcPieces", unfollowed := true, recurses := true, apart := false, narrowed := true }
def CdcPiecesUptoSaid : Prop := cdcPiecesUptoRow.holds Try.pinned (OpenSpec.upto cdcPiecesSpec)

/-- 'armariumlaw13.CdcBehind', WHERE WHAT IT READS IS OF BULK AT MOST 1048576: true; the input reads as it did. -/
def cdcBehindUptoRow : OpenClaim := { program := "ytljaekmdeojceaa", sum := "bc0d97d35d37e8282c71cb18b87fac3f0c96f5b5044bd161ec8de429182eb336", func := "armarium/armariumlaw13.CdcBehind", spec := "cdcBehind", unfollowed := true, recurses := true, apart := false, narrowed := true }
def CdcBehindUptoSaid : Prop := cdcBehindUptoRow.holds Try.pinned (OpenSpec.upto cdcBehindSpec)

/-- 'armariumlaw13.CdcStreams', WHERE WHAT IT READS IS OF BULK AT MOST 1048576: true; the input reads as it did. -/
def cdcStreamsUptoRow : OpenClaim := { program := "ytljaekmdeojceaa", sum := "bc0d97d35d37e8282c71cb18b87fac3f0c96f5b5044bd161ec8de429182eb336", func := "armarium/armariumlaw13.CdcStreams", spec := "cdcStreams", unfollowed := true, recurses := true, apart := false, narrowed := true }
def CdcStreamsUptoSaid : Prop := cdcStreamsUptoRow.holds Try.pinned (OpenSpec.upto cdcStreamsSpec)

/-- 'armariumlaw13.CdcNil', WHERE WHAT IT READS IS OF BULK AT MOST 1048576: true; the input reads as it did. -/
def cdcNilUptoRow : OpenClaim := { program := "ytljaekmdeojceaa", sum := "bc0d97d35d37e8282c71cb18b87fac3f0c96f5b5044bd161ec8de429182eb336", func := "armarium/armariumlaw13.CdcNil", spec := "cdcNil", unfollowed := true, recurses := true, apart := false, narrowed := true }
def CdcNilUptoSaid : Prop := cdcNilUptoRow.holds Try.pinned (OpenSpec.upto cdcNilSpec)

end Rows
end Go.Proofs.Ytljaekmdeojceaa
