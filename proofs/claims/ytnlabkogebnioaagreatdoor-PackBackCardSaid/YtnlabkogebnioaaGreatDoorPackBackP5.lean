/- What PackBack needs, part 5. -/
import Derived.Lib.LaidU8T
import Derived.Stop.LaidErr
import Derived.Test.YtnlabkogebnioaaGreatDoorCards
import Derived.Test.YtnlabkogebnioaaGreatDoorPackBackP4
namespace Go.Proofs.YtnlabkogebnioaaGreatDoor
open Go.ChangeShapes Go.WideShapes Go.ChangeAt Go.RowKit Sha Go.Shelf
def kInts : List Int := [1116352408, 1899447441, 3049323471, 3921009573, 961987163, 1508970993, 2453635748, 2870763221, 3624381080, 310598401, 607225278, 1426881987, 1925078388, 2162078206, 2614888103, 3248222580, 3835390401, 4022224774, 264347078, 604807628, 770255983, 1249150122, 1555081692, 1996064986, 2554220882, 2821834349, 2952996808, 3210313671, 3336571891, 3584528711, 113926993, 338241895, 666307205, 773529912, 1294757372, 1396182291, 1695183700, 1986661051, 2177026350, 2456956037, 2730485921, 2820302411, 3259730800, 3345764771, 3516065817, 3600352804, 4094571909, 275423344, 430227734, 506948616, 659060556, 883997877, 958139571, 1322822218, 1537002063, 1747873779, 1955562222, 2024104815, 2227730452, 2361852424, 2428436474, 2756734187, 3204031479, 3329325298]
def bInts : List Int := [1779033703, 3144134277, 1013904242, 2773480762, 1359893119, 2600822924, 528734635, 1541459225]
def pInts : List Int := [1, 10, 100, 1000, 10000, 100000, 1000000, 10000000, 100000000, 1000000000, 10000000000, 100000000000, 1000000000000, 10000000000000, 100000000000000, 1000000000000000, 10000000000000000, 100000000000000000, 1000000000000000000, 10000000000000000000]
theorem gK : Tryz.prog.globalNamed "armarium/sha.k" = some 1 := by kernel_rfl
theorem gKt : (Tryz.prog.globals[1]?).map (·.type) = some 226 := by kernel_rfl
theorem gB : Tryz.prog.globalNamed "armarium/sha.begin" = some 0 := by kernel_rfl
theorem gBt : (Tryz.prog.globals[0]?).map (·.type) = some 179 := by kernel_rfl
theorem gPt : (Tryz.prog.globals[2]?).map (·.type) = some 286 := by kernel_rfl
theorem tabs_of_laid {W : World} (h : laidMetH Tryz.prog [("math/bits.deBruijn32tab", Rows.laid_math_bits_deBruijn32tab), ("math/bits.deBruijn64tab", Rows.laid_math_bits_deBruijn64tab), ("internal/strconv.uint64pow10", Rows.laid_internal_strconv_uint64pow10), ("unicode/utf8.acceptRanges", Rows.laid_unicode_utf8_acceptRanges), ("armarium/sha.k", Rows.laid_armarium_sha_k), ("armarium/sha.begin", Rows.laid_armarium_sha_begin), ("unicode/utf8.first", Rows.laid_unicode_utf8_first)] W) : PTabs W.heap.size W := by
 have h1 : Lib.TabIs Tryz.prog W "armarium/sha.k" .u32 kInts := Lib.tabIs_of_head (rest := [("armarium/sha.begin", Rows.laid_armarium_sha_begin), ("unicode/utf8.first", Rows.laid_unicode_utf8_first)]) gK gKt Tryz.underlying226 Tryz.underlying145 (by kernel_rfl) (by kernel_rfl) (laidMet.tail (laidMet.tail (laidMet.tail (laidMet.tail h))))
 have h2 : Lib.TabIs Tryz.prog W "armarium/sha.begin" .u32 bInts := Lib.tabIs_of_head (rest := [("unicode/utf8.first", Rows.laid_unicode_utf8_first)]) gB gBt Tryz.underlying179 Tryz.underlying145 (by kernel_rfl) (by kernel_rfl) (laidMet.tail (laidMet.tail (laidMet.tail (laidMet.tail (laidMet.tail h)))))
 have h3 : Lib.TabIs Tryz.prog W "internal/strconv.uint64pow10" .u64 pInts := Lib.tabIs_of_head (rest := [("unicode/utf8.acceptRanges", Rows.laid_unicode_utf8_acceptRanges), ("armarium/sha.k", Rows.laid_armarium_sha_k), ("armarium/sha.begin", Rows.laid_armarium_sha_begin), ("unicode/utf8.first", Rows.laid_unicode_utf8_first)]) gPow gPt Tryz.underlying286 Tryz.underlying165 (by kernel_rfl) (by kernel_rfl) (laidMet.tail (laidMet.tail h))
 have hk : ∀ j, j < 64 → W.cell? ⟨1, j, none⟩ = some (.int .u32 (kTab.getD j 0).toNat) := fun j hj => by
  rw [h1.cell gK j hj]
  have e : ∀ j : Fin 64, kInts.getD j.val 0 = ((kTab.getD j.val 0).toNat : Int) := by decide +kernel
  rw [e ⟨j, hj⟩]
 have hb : ∀ j, W.cell? ⟨0, j, none⟩ = (stCells begin_)[j]? := fun j => by
  have := World.var?_cell gB h2 j
  rw [this]
  rfl
 have hp : PowTab W := by
  have e : pInts = Lib.pow10Tab := by decide +kernel
  rw [e] at h3
  exact h3
 have l1 := World.block_lt_of_cell? W ⟨1, 0, none⟩ (hk 0 (by omega))
 have l2 := World.block_lt_of_cell? W ⟨0, 0, none⟩ ((hb 0).trans rfl)
 have l3 : 2 < W.heap.size := by
  have := h3.cell gPow 0 (by decide)
  exact World.block_lt_of_cell? W ⟨2, 0, none⟩ this
 exact ⟨⟨hk, hb, l1, l2⟩, hp, l1, l2, l3⟩
noncomputable def laidWorld (os : Os) : World := { World.holding Tryz.prog os ⟨#[], #[], []⟩ with heap := ((((((((World.holding Tryz.prog os ⟨#[], #[], []⟩).heap.modify 5 (laying (([0, 1, 28, 2, 29, 14, 24, 3, 30, 22, 20, 15, 25, 17, 4, 8, 31, 27, 13, 23, 21, 19, 16, 7, 26, 12, 18, 6, 11, 5, 10, 9] : List Int).map fun z => Value.int .u8 z).toArray)).modify 6 (laying (([0, 1, 56, 2, 57, 49, 28, 3, 61, 58, 42, 50, 38, 29, 17, 4, 62, 47, 59, 36, 45, 43, 51, 22, 53, 39, 33, 30, 24, 18, 12, 5, 63, 55, 48, 27, 60, 41, 37, 16, 46, 35, 44, 21, 52, 32, 23, 11, 54, 26, 40, 15, 34, 20, 31, 10, 25, 14, 19, 9, 13, 8, 7, 6] : List Int).map fun z => Value.int .u8 z).toArray)).modify 2 (laying (pInts.map fun z => Value.int .u64 z).toArray)).modify 4 (laying ((List.range 16).flatMap fun i => [Value.int .u8 (Lib.accLo i), Value.int .u8 (Lib.accHi i)]).toArray)).modify 1 (laying (kInts.map fun z => Value.int .u32 z).toArray)).modify 0 (laying (bInts.map fun z => Value.int .u32 z).toArray)).modify 3 (laying (Lib.firstTab.map fun z => Value.int .u8 z).toArray)) }
end Go.Proofs.YtnlabkogebnioaaGreatDoor
