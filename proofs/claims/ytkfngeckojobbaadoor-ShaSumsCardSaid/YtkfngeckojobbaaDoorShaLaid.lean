/- The listed tables of package sha: what the row's list gives, and a world for the witness. -/
import Derived.Test.YtkfngeckojobbaaDoorFrame
import Derived.Test.YtkfngeckojobbaaDoorShaHash
import Derived.Stop.LaidErr
namespace Go.Proofs.YtkfngeckojobbaaDoor
open Go.ChangeShapes Go.WideShapes Go.ChangeAt Go.RowKit Sha

def kInts : List Int := [1116352408, 1899447441, 3049323471, 3921009573, 961987163, 1508970993, 2453635748, 2870763221, 3624381080, 310598401, 607225278, 1426881987, 1925078388, 2162078206, 2614888103, 3248222580, 3835390401, 4022224774, 264347078, 604807628, 770255983, 1249150122, 1555081692, 1996064986, 2554220882, 2821834349, 2952996808, 3210313671, 3336571891, 3584528711, 113926993, 338241895, 666307205, 773529912, 1294757372, 1396182291, 1695183700, 1986661051, 2177026350, 2456956037, 2730485921, 2820302411, 3259730800, 3345764771, 3516065817, 3600352804, 4094571909, 275423344, 430227734, 506948616, 659060556, 883997877, 958139571, 1322822218, 1537002063, 1747873779, 1955562222, 2024104815, 2227730452, 2361852424, 2428436474, 2756734187, 3204031479, 3329325298]
def bInts : List Int := [1779033703, 3144134277, 1013904242, 2773480762, 1359893119, 2600822924, 528734635, 1541459225]
theorem gK : Tryd.prog.globalNamed "armarium/sha.k" = some 1 := by kernel_rfl
theorem gKt : (Tryd.prog.globals[1]?).map (·.type) = some 61 := by kernel_rfl
theorem gB : Tryd.prog.globalNamed "armarium/sha.begin" = some 0 := by kernel_rfl
theorem gBt : (Tryd.prog.globals[0]?).map (·.type) = some 50 := by kernel_rfl
theorem tabs_of_laid {W : World} (h : laidMetH Tryd.prog [("armarium/sha.k", Rows.laid_armarium_sha_k), ("armarium/sha.begin", Rows.laid_armarium_sha_begin)] W) : ShaTabs W := by
  have h1 : Lib.TabIs Tryd.prog W "armarium/sha.k" .u32 kInts := Lib.tabIs_of_head (rest := [("armarium/sha.begin", Rows.laid_armarium_sha_begin)]) gK gKt Tryd.underlying61 Tryd.underlying49 (by kernel_rfl) (by kernel_rfl) h
  have h2 : Lib.TabIs Tryd.prog W "armarium/sha.begin" .u32 bInts := Lib.tabIs_of_head (rest := []) gB gBt Tryd.underlying50 Tryd.underlying49 (by kernel_rfl) (by kernel_rfl) (laidMet.tail h)
  have hk : ∀ j, j < 64 → W.cell? ⟨1, j, none⟩ = some (.int .u32 (kTab.getD j 0).toNat) := fun j hj => by
    rw [h1.cell gK j hj]
    have e : ∀ j : Fin 64, kInts.getD j.val 0 = ((kTab.getD j.val 0).toNat : Int) := by decide +kernel
    rw [e ⟨j, hj⟩]
  have hb : ∀ j, W.cell? ⟨0, j, none⟩ = (stCells begin_)[j]? := fun j => by
    have := World.var?_cell gB h2 j
    rw [this]
    rfl
  exact ⟨hk, hb, World.block_lt_of_cell? W ⟨1, 0, none⟩ (hk 0 (by omega)), World.block_lt_of_cell? W ⟨0, 0, none⟩ ((hb 0).trans rfl)⟩
/-- A block's cells laid anew. -/
def laying (cs : Array Value) : Obj → Obj
  | .cells _ t frozen => .cells cs t frozen
  | o => o
/-- A world for the witness: the settled one, the two tables holding what their initialisers lay. -/
noncomputable def laidWorld (os : Os) : World :=
  { World.holding Tryd.prog os ⟨#[], #[], []⟩ with heap := ((World.holding Tryd.prog os ⟨#[], #[], []⟩).heap.modify 1 (laying (kInts.map fun z => Value.int .u32 z).toArray)).modify 0 (laying (bInts.map fun z => Value.int .u32 z).toArray) }
end Go.Proofs.YtkfngeckojobbaaDoor
