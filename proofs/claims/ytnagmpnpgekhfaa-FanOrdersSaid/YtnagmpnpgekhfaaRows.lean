/-
  No cell of these rows narrows 'for every input' (looked for: loops, veiled, ifaces, maps, wideKeys, modest, calm, conditions, laid).
  DERIVED. THE GIVEN ROWS OF THIS SEAT. 14 by the template 'for every input the law returns true; each argument reads behind the call as it read before'; 0 by the template 'total and deterministic' (their statements: YtnagmpnpgekhfaaTotals.lean).
  GIVEN WITH THE SEED: the statements are not yours to turn. If you find one false, say at which input.
  Laid BY PROGRAM, IN A SANDBOX (cutbox-rows.mjs): the forced cells as the released guide's own fill.sh prints them over the translation 5da5afcc752b1945… (all of the seat's roots in one cut). By AI agents, Wed Nov 11 2026. No macro, syntax, notation, axiom, sorry.
-/
import Derived.Test.YtnagmpnpgekhfaaChecked
import GoSem.Claim
import GoSem.ClaimJoined
import GoSem.ClaimMapViews
import Derived.JoinedTies
import Derived.KernelRfl
namespace Go.Proofs.Ytnagmpnpgekhfaa
/- THE CELL 'sum', in the pinned program and in every row, IS THE sha256 OF THE DUMP (.gsa) THAT YtnagmpnpgekhfaaProg.lean LOADS. Nothing in Lean hashes anything: it is a label: what it is worth is what the hold of that sum in a sandbox is worth. -/
noncomputable def Try.pinned : Pinned := { name := "ytnagmpnpgekhfaa", sum := "5da5afcc752b194595d886ab9e0130886846b9e9e8bb6134e46710e31d176fd6", checked := Try.checked }
namespace Rows
def none {H : Type} : Left H := { results := [], args := [] }

/-- 'armariumlaw17.RefsPacks': WHATEVER THE INPUT: true; the input reads as it did. -/
def refsPacksSpec : ChangeSpec := { name := "refsPacks", fn := fun _ => fun
  | [d] => { results := [.lit (.bool true)], args := [d] }
  | _ => none }
def refsPacksRow : OpenClaim := { program := "ytnagmpnpgekhfaa", sum := "5da5afcc752b194595d886ab9e0130886846b9e9e8bb6134e46710e31d176fd6", func := "armarium/armariumlaw17.RefsPacks", spec := "refsPacks", inPlace := ["internal/bytealg.Compare"], unfollowed := true, recurses := true, plainKeys := false, apart := false }
def RefsPacksSaid : Prop := refsPacksRow.holds Try.pinned (OpenSpec.ofChange refsPacksSpec)

/-- ITS FALSE NEIGHBOUR: 'it returns false'. Refute it at one input. -/
def refsPacksWrong : ChangeSpec := { name := "refsPacks", fn := fun _ => fun
  | [d] => { results := [.lit (.bool false)], args := [d] }
  | _ => none }
def RefsPacksWrongFalsely : Prop := refsPacksRow.holds Try.pinned (OpenSpec.ofChange refsPacksWrong)

/-- 'armariumlaw17.RefsAdds': WHATEVER THE INPUT: true; the input reads as it did. -/
def refsAddsSpec : ChangeSpec := { name := "refsAdds", fn := fun _ => fun
  | [d1, d2] => { results := [.lit (.bool true)], args := [d1, d2] }
  | _ => none }
def refsAddsRow : OpenClaim := { program := "ytnagmpnpgekhfaa", sum := "5da5afcc752b194595d886ab9e0130886846b9e9e8bb6134e46710e31d176fd6", func := "armarium/armariumlaw17.RefsAdds", spec := "refsAdds", inPlace := ["internal/bytealg.Compare"], unfollowed := true, recurses := true, plainKeys := false, apart := false }
def RefsAddsSaid : Prop := refsAddsRow.holds Try.pinned (OpenSpec.ofChange refsAddsSpec)

/-- ITS FALSE NEIGHBOUR: 'it returns false'. Refute it at one input. -/
def refsAddsWrong : ChangeSpec := { name := "refsAdds", fn := fun _ => fun
  | [d1, d2] => { results := [.lit (.bool false)], args := [d1, d2] }
  | _ => none }
def RefsAddsWrongFalsely : Prop := refsAddsRow.holds Try.pinned (OpenSpec.ofChange refsAddsWrong)

/-- 'armariumlaw17.RefsOrder': WHATEVER THE INPUT: true; the input reads as it did. -/
def refsOrderSpec : ChangeSpec := { name := "refsOrder", fn := fun _ => fun
  | [d1, d2] => { results := [.lit (.bool true)], args := [d1, d2] }
  | _ => none }
def refsOrderRow : OpenClaim := { program := "ytnagmpnpgekhfaa", sum := "5da5afcc752b194595d886ab9e0130886846b9e9e8bb6134e46710e31d176fd6", func := "armarium/armariumlaw17.RefsOrder", spec := "refsOrder", inPlace := ["internal/bytealg.Compare", "maps.clone"], unfollowed := true, recurses := true, plainKeys := false, apart := false }
def RefsOrderSaid : Prop := refsOrderRow.holds Try.pinned (OpenSpec.ofChange refsOrderSpec)

/-- ITS FALSE NEIGHBOUR: 'it returns false'. Refute it at one input. -/
def refsOrderWrong : ChangeSpec := { name := "refsOrder", fn := fun _ => fun
  | [d1, d2] => { results := [.lit (.bool false)], args := [d1, d2] }
  | _ => none }
def RefsOrderWrongFalsely : Prop := refsOrderRow.holds Try.pinned (OpenSpec.ofChange refsOrderWrong)

/-- 'armariumlaw17.RefsNil': WHATEVER THE INPUT: true; the input reads as it did. -/
def refsNilSpec : ChangeSpec := { name := "refsNil", fn := fun _ => fun
  | [d1, d2] => { results := [.lit (.bool true)], args := [d1, d2] }
  | _ => none }
def refsNilRow : OpenClaim := { program := "ytnagmpnpgekhfaa", sum := "5da5afcc752b194595d886ab9e0130886846b9e9e8bb6134e46710e31d176fd6", func := "armarium/armariumlaw17.RefsNil", spec := "refsNil", inPlace := ["internal/bytealg.Compare", "maps.clone"], unfollowed := true, recurses := true, plainKeys := false, apart := false }
def RefsNilSaid : Prop := refsNilRow.holds Try.pinned (OpenSpec.ofChange refsNilSpec)

/-- ITS FALSE NEIGHBOUR: 'it returns false'. Refute it at one input. -/
def refsNilWrong : ChangeSpec := { name := "refsNil", fn := fun _ => fun
  | [d1, d2] => { results := [.lit (.bool false)], args := [d1, d2] }
  | _ => none }
def RefsNilWrongFalsely : Prop := refsNilRow.holds Try.pinned (OpenSpec.ofChange refsNilWrong)

/-- 'armariumlaw17.RefsDiff': WHATEVER THE INPUT: true; the input reads as it did. -/
def refsDiffSpec : ChangeSpec := { name := "refsDiff", fn := fun _ => fun
  | [d1, d2] => { results := [.lit (.bool true)], args := [d1, d2] }
  | _ => none }
def refsDiffRow : OpenClaim := { program := "ytnagmpnpgekhfaa", sum := "5da5afcc752b194595d886ab9e0130886846b9e9e8bb6134e46710e31d176fd6", func := "armarium/armariumlaw17.RefsDiff", spec := "refsDiff", inPlace := ["internal/bytealg.Compare", "maps.clone"], unfollowed := true, recurses := true, plainKeys := false, apart := false }
def RefsDiffSaid : Prop := refsDiffRow.holds Try.pinned (OpenSpec.ofChange refsDiffSpec)

/-- ITS FALSE NEIGHBOUR: 'it returns false'. Refute it at one input. -/
def refsDiffWrong : ChangeSpec := { name := "refsDiff", fn := fun _ => fun
  | [d1, d2] => { results := [.lit (.bool false)], args := [d1, d2] }
  | _ => none }
def RefsDiffWrongFalsely : Prop := refsDiffRow.holds Try.pinned (OpenSpec.ofChange refsDiffWrong)

/-- 'armariumlaw17.RefsUnpacks': WHATEVER THE INPUT: true; the input reads as it did. -/
def refsUnpacksSpec : ChangeSpec := { name := "refsUnpacks", fn := fun _ => fun
  | [d] => { results := [.lit (.bool true)], args := [d] }
  | _ => none }
def refsUnpacksRow : OpenClaim := { program := "ytnagmpnpgekhfaa", sum := "5da5afcc752b194595d886ab9e0130886846b9e9e8bb6134e46710e31d176fd6", func := "armarium/armariumlaw17.RefsUnpacks", spec := "refsUnpacks", inPlace := ["internal/bytealg.Compare"], unfollowed := true, recurses := true, plainKeys := false, apart := false }
def RefsUnpacksSaid : Prop := refsUnpacksRow.holds Try.pinned (OpenSpec.ofChange refsUnpacksSpec)

/-- ITS FALSE NEIGHBOUR: 'it returns false'. Refute it at one input. -/
def refsUnpacksWrong : ChangeSpec := { name := "refsUnpacks", fn := fun _ => fun
  | [d] => { results := [.lit (.bool false)], args := [d] }
  | _ => none }
def RefsUnpacksWrongFalsely : Prop := refsUnpacksRow.holds Try.pinned (OpenSpec.ofChange refsUnpacksWrong)

/-- 'armariumlaw17.RefsBack': WHATEVER THE INPUT: true; the input reads as it did. -/
def refsBackSpec : ChangeSpec := { name := "refsBack", fn := fun _ => fun
  | [d1, d2] => { results := [.lit (.bool true)], args := [d1, d2] }
  | _ => none }
def refsBackRow : OpenClaim := { program := "ytnagmpnpgekhfaa", sum := "5da5afcc752b194595d886ab9e0130886846b9e9e8bb6134e46710e31d176fd6", func := "armarium/armariumlaw17.RefsBack", spec := "refsBack", inPlace := ["internal/bytealg.Compare"], unfollowed := true, recurses := true, plainKeys := false, apart := false }
def RefsBackSaid : Prop := refsBackRow.holds Try.pinned (OpenSpec.ofChange refsBackSpec)

/-- ITS FALSE NEIGHBOUR: 'it returns false'. Refute it at one input. -/
def refsBackWrong : ChangeSpec := { name := "refsBack", fn := fun _ => fun
  | [d1, d2] => { results := [.lit (.bool false)], args := [d1, d2] }
  | _ => none }
def RefsBackWrongFalsely : Prop := refsBackRow.holds Try.pinned (OpenSpec.ofChange refsBackWrong)

/-- 'armariumlaw14.FanTells': WHATEVER THE INPUT: true; the input reads as it did. -/
def fanTellsSpec : ChangeSpec := { name := "fanTells", fn := fun _ => fun
  | [d] => { results := [.lit (.bool true)], args := [d] }
  | _ => none }
def fanTellsRow : OpenClaim := { program := "ytnagmpnpgekhfaa", sum := "5da5afcc752b194595d886ab9e0130886846b9e9e8bb6134e46710e31d176fd6", func := "armarium/armariumlaw14.FanTells", spec := "fanTells", unfollowed := true, recurses := true, plainKeys := false, apart := false }
def FanTellsSaid : Prop := fanTellsRow.holds Try.pinned (OpenSpec.ofChange fanTellsSpec)

/-- ITS FALSE NEIGHBOUR: 'it returns false'. Refute it at one input. -/
def fanTellsWrong : ChangeSpec := { name := "fanTells", fn := fun _ => fun
  | [d] => { results := [.lit (.bool false)], args := [d] }
  | _ => none }
def FanTellsWrongFalsely : Prop := fanTellsRow.holds Try.pinned (OpenSpec.ofChange fanTellsWrong)

/-- 'armariumlaw14.FanTurned': WHATEVER THE INPUT: true; the input reads as it did. -/
def fanTurnedSpec : ChangeSpec := { name := "fanTurned", fn := fun _ => fun
  | [d1, d2, d3] => { results := [.lit (.bool true)], args := [d1, d2, d3] }
  | _ => none }
def fanTurnedRow : OpenClaim := { program := "ytnagmpnpgekhfaa", sum := "5da5afcc752b194595d886ab9e0130886846b9e9e8bb6134e46710e31d176fd6", func := "armarium/armariumlaw14.FanTurned", spec := "fanTurned", unfollowed := true, recurses := true, plainKeys := false, apart := false }
def FanTurnedSaid : Prop := fanTurnedRow.holds Try.pinned (OpenSpec.ofChange fanTurnedSpec)

/-- ITS FALSE NEIGHBOUR: 'it returns false'. Refute it at one input. -/
def fanTurnedWrong : ChangeSpec := { name := "fanTurned", fn := fun _ => fun
  | [d1, d2, d3] => { results := [.lit (.bool false)], args := [d1, d2, d3] }
  | _ => none }
def FanTurnedWrongFalsely : Prop := fanTurnedRow.holds Try.pinned (OpenSpec.ofChange fanTurnedWrong)

/-- 'armariumlaw14.FanReads': WHATEVER THE INPUT: true; the input reads as it did. -/
def fanReadsSpec : ChangeSpec := { name := "fanReads", fn := fun _ => fun
  | [d] => { results := [.lit (.bool true)], args := [d] }
  | _ => none }
def fanReadsRow : OpenClaim := { program := "ytnagmpnpgekhfaa", sum := "5da5afcc752b194595d886ab9e0130886846b9e9e8bb6134e46710e31d176fd6", func := "armarium/armariumlaw14.FanReads", spec := "fanReads", unfollowed := true, recurses := true, plainKeys := false, apart := false }
def FanReadsSaid : Prop := fanReadsRow.holds Try.pinned (OpenSpec.ofChange fanReadsSpec)

/-- ITS FALSE NEIGHBOUR: 'it returns false'. Refute it at one input. -/
def fanReadsWrong : ChangeSpec := { name := "fanReads", fn := fun _ => fun
  | [d] => { results := [.lit (.bool false)], args := [d] }
  | _ => none }
def FanReadsWrongFalsely : Prop := fanReadsRow.holds Try.pinned (OpenSpec.ofChange fanReadsWrong)

/-- 'armariumlaw14.FanBack': WHATEVER THE INPUT: true; the input reads as it did. -/
def fanBackSpec : ChangeSpec := { name := "fanBack", fn := fun _ => fun
  | [d1, d2] => { results := [.lit (.bool true)], args := [d1, d2] }
  | _ => none }
def fanBackRow : OpenClaim := { program := "ytnagmpnpgekhfaa", sum := "5da5afcc752b194595d886ab9e0130886846b9e9e8bb6134e46710e31d176fd6", func := "armarium/armariumlaw14.FanBack", spec := "fanBack", unfollowed := true, recurses := true, plainKeys := false, apart := false }
def FanBackSaid : Prop := fanBackRow.holds Try.pinned (OpenSpec.ofChange fanBackSpec)

/-- ITS FALSE NEIGHBOUR: 'it returns false'. Refute it at one input. -/
def fanBackWrong : ChangeSpec := { name := "fanBack", fn := fun _ => fun
  | [d1, d2] => { results := [.lit (.bool false)], args := [d1, d2] }
  | _ => none }
def FanBackWrongFalsely : Prop := fanBackRow.holds Try.pinned (OpenSpec.ofChange fanBackWrong)

/-- 'armariumlaw14.FanMakes': WHATEVER THE INPUT: true; the input reads as it did. -/
def fanMakesSpec : ChangeSpec := { name := "fanMakes", fn := fun _ => fun
  | [d1, d2, d3] => { results := [.lit (.bool true)], args := [d1, d2, d3] }
  | _ => none }
def fanMakesRow : OpenClaim := { program := "ytnagmpnpgekhfaa", sum := "5da5afcc752b194595d886ab9e0130886846b9e9e8bb6134e46710e31d176fd6", func := "armarium/armariumlaw14.FanMakes", spec := "fanMakes", unfollowed := true, recurses := true, plainKeys := false, apart := false }
def FanMakesSaid : Prop := fanMakesRow.holds Try.pinned (OpenSpec.ofChange fanMakesSpec)

/-- ITS FALSE NEIGHBOUR: 'it returns false'. Refute it at one input. -/
def fanMakesWrong : ChangeSpec := { name := "fanMakes", fn := fun _ => fun
  | [d1, d2, d3] => { results := [.lit (.bool false)], args := [d1, d2, d3] }
  | _ => none }
def FanMakesWrongFalsely : Prop := fanMakesRow.holds Try.pinned (OpenSpec.ofChange fanMakesWrong)

/-- 'armariumlaw14.FanOrders': WHATEVER THE INPUT: true; the input reads as it did. -/
def fanOrdersSpec : ChangeSpec := { name := "fanOrders", fn := fun _ => fun
  | [d1, d2] => { results := [.lit (.bool true)], args := [d1, d2] }
  | _ => none }
def fanOrdersRow : OpenClaim := { program := "ytnagmpnpgekhfaa", sum := "5da5afcc752b194595d886ab9e0130886846b9e9e8bb6134e46710e31d176fd6", func := "armarium/armariumlaw14.FanOrders", spec := "fanOrders", unfollowed := true, recurses := true, plainKeys := false, apart := false }
def FanOrdersSaid : Prop := fanOrdersRow.holds Try.pinned (OpenSpec.ofChange fanOrdersSpec)

/-- ITS FALSE NEIGHBOUR: 'it returns false'. Refute it at one input. -/
def fanOrdersWrong : ChangeSpec := { name := "fanOrders", fn := fun _ => fun
  | [d1, d2] => { results := [.lit (.bool false)], args := [d1, d2] }
  | _ => none }
def FanOrdersWrongFalsely : Prop := fanOrdersRow.holds Try.pinned (OpenSpec.ofChange fanOrdersWrong)

/-- 'armariumlaw14.FanJoins': WHATEVER THE INPUT: true; the input reads as it did. -/
def fanJoinsSpec : ChangeSpec := { name := "fanJoins", fn := fun _ => fun
  | [d1, d2] => { results := [.lit (.bool true)], args := [d1, d2] }
  | _ => none }
def fanJoinsRow : OpenClaim := { program := "ytnagmpnpgekhfaa", sum := "5da5afcc752b194595d886ab9e0130886846b9e9e8bb6134e46710e31d176fd6", func := "armarium/armariumlaw14.FanJoins", spec := "fanJoins", unfollowed := true, recurses := true, plainKeys := false, apart := false }
def FanJoinsSaid : Prop := fanJoinsRow.holds Try.pinned (OpenSpec.ofChange fanJoinsSpec)

/-- ITS FALSE NEIGHBOUR: 'it returns false'. Refute it at one input. -/
def fanJoinsWrong : ChangeSpec := { name := "fanJoins", fn := fun _ => fun
  | [d1, d2] => { results := [.lit (.bool false)], args := [d1, d2] }
  | _ => none }
def FanJoinsWrongFalsely : Prop := fanJoinsRow.holds Try.pinned (OpenSpec.ofChange fanJoinsWrong)

/- THE SECOND FORM. 'bulk': how many values and letters a reading holds, each counted each time it is reached (what is shared counts as often as it is met; a slice's spare places count too). A statement '..UptoSaid' is the law's where the arguments, and the package variables that the reading takes, are together of bulk at most 1048576: NARROWER than '..Said'. Prove '..Said' where nothing that the law and all that it calls make is longer than what came in: it says more and counts as full. Else prove '..UptoSaid'. A law counts once. -/
mutual
def uptoBulk {H : Type} : DataW H → Nat
  | .lit (.string bytes) => bytes.length + 1
  | .lit _ => 1
  | .nil => 1
  | .ptr d => uptoBulk d + 1
  | .slice elems spare => uptoBulkAll elems + uptoBulkAll spare + 1
  | .agg parts => uptoBulkAll parts + 1
  | .iface _ d => uptoBulk d + 1
  | .map entries => uptoBulkEntries entries + 1
  | .held _ => 1
def uptoBulkAll {H : Type} : List (DataW H) → Nat
  | [] => 0
  | d :: r => uptoBulk d + uptoBulkAll r
def uptoBulkEntries {H : Type} : List (Lit × DataW H) → Nat
  | [] => 0
  | x :: r => uptoBulkEntry x + uptoBulkEntries r
def uptoBulkEntry {H : Type} : Lit × DataW H → Nat
  | (.string bytes, d) => bytes.length + uptoBulk d + 1
  | (_, d) => uptoBulk d + 1
 end
def uptoSmall : (H : Type) → List (DataW H) → Bool := fun _ ds => decide (uptoBulkAll ds ≤ 1048576)
def OpenSpec.upto (s : _root_.Go.ChangeSpec) : _root_.Go.OpenSpec := { _root_.Go.OpenSpec.ofChange s with cond := some uptoSmall }

/-- 'armariumlaw17.RefsPacks', WHERE WHAT IT READS IS OF BULK AT MOST 1048576: true; the input reads as it did. -/
def refsPacksUptoRow : OpenClaim := { program := "ytnagmpnpgekhfaa", sum := "5da5afcc752b194595d886ab9e0130886846b9e9e8bb6134e46710e31d176fd6", func := "armarium/armariumlaw17.RefsPacks", spec := "refsPacks", inPlace := ["internal/bytealg.Compare"], unfollowed := true, recurses := true, plainKeys := false, apart := false, narrowed := true }
def RefsPacksUptoSaid : Prop := refsPacksUptoRow.holds Try.pinned (OpenSpec.upto refsPacksSpec)

/-- 'armariumlaw17.RefsAdds', WHERE WHAT IT READS IS OF BULK AT MOST 1048576: true; the input reads as it did. -/
def refsAddsUptoRow : OpenClaim := { program := "ytnagmpnpgekhfaa", sum := "5da5afcc752b194595d886ab9e0130886846b9e9e8bb6134e46710e31d176fd6", func := "armarium/armariumlaw17.RefsAdds", spec := "refsAdds", inPlace := ["internal/bytealg.Compare"], unfollowed := true, recurses := true, plainKeys := false, apart := false, narrowed := true }
def RefsAddsUptoSaid : Prop := refsAddsUptoRow.holds Try.pinned (OpenSpec.upto refsAddsSpec)

/-- 'armariumlaw17.RefsOrder', WHERE WHAT IT READS IS OF BULK AT MOST 1048576: true; the input reads as it did. -/
def refsOrderUptoRow : OpenClaim := { program := "ytnagmpnpgekhfaa", sum := "5da5afcc752b194595d886ab9e0130886846b9e9e8bb6134e46710e31d176fd6", func := "armarium/armariumlaw17.RefsOrder", spec := "refsOrder", inPlace := ["internal/bytealg.Compare", "maps.clone"], unfollowed := true, recurses := true, plainKeys := false, apart := false, narrowed := true }
def RefsOrderUptoSaid : Prop := refsOrderUptoRow.holds Try.pinned (OpenSpec.upto refsOrderSpec)

/-- 'armariumlaw17.RefsNil', WHERE WHAT IT READS IS OF BULK AT MOST 1048576: true; the input reads as it did. -/
def refsNilUptoRow : OpenClaim := { program := "ytnagmpnpgekhfaa", sum := "5da5afcc752b194595d886ab9e0130886846b9e9e8bb6134e46710e31d176fd6", func := "armarium/armariumlaw17.RefsNil", spec := "refsNil", inPlace := ["internal/bytealg.Compare", "maps.clone"], unfollowed := true, recurses := true, plainKeys := false, apart := false, narrowed := true }
def RefsNilUptoSaid : Prop := refsNilUptoRow.holds Try.pinned (OpenSpec.upto refsNilSpec)

/-- 'armariumlaw17.RefsDiff', WHERE WHAT IT READS IS OF BULK AT MOST 1048576: true; the input reads as it did. -/
def refsDiffUptoRow : OpenClaim := { program := "ytnagmpnpgekhfaa", sum := "5da5afcc752b194595d886ab9e0130886846b9e9e8bb6134e46710e31d176fd6", func := "armarium/armariumlaw17.RefsDiff", spec := "refsDiff", inPlace := ["internal/bytealg.Compare", "maps.clone"], unfollowed := true, recurses := true, plainKeys := false, apart := false, narrowed := true }
def RefsDiffUptoSaid : Prop := refsDiffUptoRow.holds Try.pinned (OpenSpec.upto refsDiffSpec)

/-- 'armariumlaw17.RefsUnpacks', WHERE WHAT IT READS IS OF BULK AT MOST 1048576: true; the input reads as it did. -/
def refsUnpacksUptoRow : OpenClaim := { program := "ytnagmpnpgekhfaa", sum := "5da5afcc752b194595d886ab9e0130886846b9e9e8bb6134e46710e31d176fd6", func := "armarium/armariumlaw17.RefsUnpacks", spec := "refsUnpacks", inPlace := ["internal/bytealg.Compare"], unfollowed := true, recurses := true, plainKeys := false, apart := false, narrowed := true }
def RefsUnpacksUptoSaid : Prop := refsUnpacksUptoRow.holds Try.pinned (OpenSpec.upto refsUnpacksSpec)

/-- 'armariumlaw17.RefsBack', WHERE WHAT IT READS IS OF BULK AT MOST 1048576: true; the input reads as it did. -/
def refsBackUptoRow : OpenClaim := { program := "ytnagmpnpgekhfaa", sum := "5da5afcc752b194595d886ab9e0130886846b9e9e8bb6134e46710e31d176fd6", func := "armarium/armariumlaw17.RefsBack", spec := "refsBack", inPlace := ["internal/bytealg.Compare"], unfollowed := true, recurses := true, plainKeys := false, apart := false, narrowed := true }
def RefsBackUptoSaid : Prop := refsBackUptoRow.holds Try.pinned (OpenSpec.upto refsBackSpec)

/-- 'armariumlaw14.FanTells', WHERE WHAT IT READS IS OF BULK AT MOST 1048576: true; the input reads as it did. -/
def fanTellsUptoRow : OpenClaim := { program := "ytnagmpnpgekhfaa", sum := "5da5afcc752b194595d886ab9e0130886846b9e9e8bb6134e46710e31d176fd6", func := "armarium/armariumlaw14.FanTells", spec := "fanTells", unfollowed := true, recurses := true, plainKeys := false, apart := false, narrowed := true }
def FanTellsUptoSaid : Prop := fanTellsUptoRow.holds Try.pinned (OpenSpec.upto fanTellsSpec)

/-- 'armariumlaw14.FanTurned', WHERE WHAT IT READS IS OF BULK AT MOST 1048576: true; the input reads as it did. -/
def fanTurnedUptoRow : OpenClaim := { program := "ytnagmpnpgekhfaa", sum := "5da5afcc752b194595d886ab9e0130886846b9e9e8bb6134e46710e31d176fd6", func := "armarium/armariumlaw14.FanTurned", spec := "fanTurned", unfollowed := true, recurses := true, plainKeys := false, apart := false, narrowed := true }
def FanTurnedUptoSaid : Prop := fanTurnedUptoRow.holds Try.pinned (OpenSpec.upto fanTurnedSpec)

/-- 'armariumlaw14.FanReads', WHERE WHAT IT READS IS OF BULK AT MOST 1048576: true; the input reads as it did. -/
def fanReadsUptoRow : OpenClaim := { program := "ytnagmpnpgekhfaa", sum := "5da5afcc752b194595d886ab9e0130886846b9e9e8bb6134e46710e31d176fd6", func := "armarium/armariumlaw14.FanReads", spec := "fanReads", unfollowed := true, recurses := true, plainKeys := false, apart := false, narrowed := true }
def FanReadsUptoSaid : Prop := fanReadsUptoRow.holds Try.pinned (OpenSpec.upto fanReadsSpec)

/-- 'armariumlaw14.FanBack', WHERE WHAT IT READS IS OF BULK AT MOST 1048576: true; the input reads as it did. -/
def fanBackUptoRow : OpenClaim := { program := "ytnagmpnpgekhfaa", sum := "5da5afcc752b194595d886ab9e0130886846b9e9e8bb6134e46710e31d176fd6", func := "armarium/armariumlaw14.FanBack", spec := "fanBack", unfollowed := true, recurses := true, plainKeys := false, apart := false, narrowed := true }
def FanBackUptoSaid : Prop := fanBackUptoRow.holds Try.pinned (OpenSpec.upto fanBackSpec)

/-- 'armariumlaw14.FanMakes', WHERE WHAT IT READS IS OF BULK AT MOST 1048576: true; the input reads as it did. -/
def fanMakesUptoRow : OpenClaim := { program := "ytnagmpnpgekhfaa", sum := "5da5afcc752b194595d886ab9e0130886846b9e9e8bb6134e46710e31d176fd6", func := "armarium/armariumlaw14.FanMakes", spec := "fanMakes", unfollowed := true, recurses := true, plainKeys := false, apart := false, narrowed := true }
def FanMakesUptoSaid : Prop := fanMakesUptoRow.holds Try.pinned (OpenSpec.upto fanMakesSpec)

/-- 'armariumlaw14.FanOrders', WHERE WHAT IT READS IS OF BULK AT MOST 1048576: true; the input reads as it did. -/
def fanOrdersUptoRow : OpenClaim := { program := "ytnagmpnpgekhfaa", sum := "5da5afcc752b194595d886ab9e0130886846b9e9e8bb6134e46710e31d176fd6", func := "armarium/armariumlaw14.FanOrders", spec := "fanOrders", unfollowed := true, recurses := true, plainKeys := false, apart := false, narrowed := true }
def FanOrdersUptoSaid : Prop := fanOrdersUptoRow.holds Try.pinned (OpenSpec.upto fanOrdersSpec)

/-- 'armariumlaw14.FanJoins', WHERE WHAT IT READS IS OF BULK AT MOST 1048576: true; the input reads as it did. -/
def fanJoinsUptoRow : OpenClaim := { program := "ytnagmpnpgekhfaa", sum := "5da5afcc752b194595d886ab9e0130886846b9e9e8bb6134e46710e31d176fd6", func := "armarium/armariumlaw14.FanJoins", spec := "fanJoins", unfollowed := true, recurses := true, plainKeys := false, apart := false, narrowed := true }
def FanJoinsUptoSaid : Prop := fanJoinsUptoRow.holds Try.pinned (OpenSpec.upto fanJoinsSpec)

end Rows
end Go.Proofs.Ytnagmpnpgekhfaa
