/- utf8.ValidString: the library's contract, laid at this program. -/
import Derived.Test.YtnagmpnpgekhfaaDoorMaps
import Derived.Test.YtnagmpnpgekhfaaDoorTypes
import Derived.Shelf.Unicode.ValidAny
namespace Go.Proofs.YtnagmpnpgekhfaaDoor
open Go.RowKit Go.Shelf
def u8ren : Ren :=
  { f := fun x => match x with | 196 => 47 | 259 => 54 | n => n
    t := fun x => match x with | 9 => 9 | 4 => 4 | 3 => 3 | 5 => 5 | 12 => 12 | 119 => 115 | 0 => 0 | 46 => 92 | 139 => 118 | 138 => 117 | 53 => 126 | n => n
    g := fun x => match x with | 3 => 0 | 4 => 1 | n => n }
set_option maxRecDepth 100000 in
theorem u8lays : Lays.n196 Tryd.prog u8ren := by
  constructor
  all_goals first | kernel_rfl | exact fun _ => by kernel_rfl
def validU (s : List UInt8) : Bool := Lib.validD s
/-- the library's two tables are there -/
def UT (w : World) : Prop := Lib.Utf8Tabs 0 1 w
theorem UT.bel {w w' : World} (h : UT w) (hb : Below w.heap.size w w') : UT w' := by
  obtain ⟨h1, h2⟩ := h
  have b1 := World.block_lt_of_cell? w ⟨0, 0, none⟩ (h1 0 (by omega))
  have b2 := World.block_lt_of_cell? w ⟨1, 0, none⟩ (h2 0 (by omega)).1
  refine ⟨fun c hc => ?_, fun i hi => ⟨?_, ?_⟩⟩
  · rw [hb.cell (p := ⟨0, c, none⟩) b1]; exact h1 c hc
  · rw [hb.cell (p := ⟨1, 2 * i, none⟩) b2]; exact (h2 i hi).1
  · rw [hb.cell (p := ⟨1, 2 * i + 1, none⟩) b2]; exact (h2 i hi).2
theorem valid_any (s : List UInt8) (w : World) (hs : s.length ≤ 9223372036854775807) (hT : UT w) :
    Calls Tryd.prog 47 #[str s] w fun e w' => e = .returned (.bool (validU s)) ∧ Below w.heap.size w w' :=
  Any.utf8_ValidString u8lays ⟨s.toArray⟩ w hs hT
end Go.Proofs.YtnagmpnpgekhfaaDoor
