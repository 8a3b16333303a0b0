/- Addresses as values: arrays of 32 bytes. Their equality, their elements, their reading. -/
import Derived.Test.YtnagmpnpgekhfaaDoorFrame
import Derived.ChangeKeysEq
namespace Go.Proofs.YtnagmpnpgekhfaaDoor
open Go.ChangeShapes Go.WideShapes Go.ChangeAt Go.RowKit

theorem info_u8' : (Tryd.prog.info? 5).map (fun i => (i.zero, i.size, i.bytes)) = some (some (.int .u8 0), 1, 1) := by kernel_rfl
theorem cells_u8 : Tryd.prog.cellsOf 5 = 1 := by kernel_rfl
theorem cells_sum : Tryd.prog.cellsOf 53 = 32 := by kernel_rfl
theorem run_part_byte (l : List UInt8) (i : Nat) (h : i < l.length) (W : World) : (part 5 (l.map bv).toArray i).run Tryd.prog W = .ok (.int .u8 (l.getD i 0).toNat) W := by
  have hc : (l.map bv).toArray[i]? = some (.int .u8 (l.getD i 0).toNat) := by
    rw [List.getElem?_toArray, List.getElem?_map, List.getElem?_eq_getElem h]
    simp [bv, List.getD, List.getElem?_eq_getElem h]
  unfold part
  simp only [Sem.run_bind, isAgg, run_underlying Tryd.underlying5, Result.andThen_ok, Sem.run_pure, Bool.false_eq_true, if_false]
  rw [hc]
  rfl
theorem run_eqItems_bytes (d : Nat) (l m : List UInt8) (W : World) : ∀ is : List Nat, (∀ i ∈ is, i < l.length ∧ i < m.length) →
    (Op.eqItems (d + 1) 5 1 (l.map bv).toArray (m.map bv).toArray is).run Tryd.prog W = .ok (is.all fun i => l.getD i 0 == m.getD i 0) W
  | [], _ => by simp [Op.eqItems]
  | i :: is, h => by
    have hi := h i (by simp)
    have ih := run_eqItems_bytes d l m W is (fun j hj => h j (by simp [hj]))
    simp only [Op.eqItems, Sem.run_bind, Nat.mul_one, run_part_byte l i hi.1 W, run_part_byte m i hi.2 W, Result.andThen_ok, run_equalIn_int W d 5 .u8 .u8 _ _ Tryd.underlying5]
    have e : (((l.getD i 0).toNat : Int) == ((m.getD i 0).toNat : Int)) = (l.getD i 0 == m.getD i 0) := by
      rw [Bool.eq_iff_iff, beq_iff_eq, beq_iff_eq]
      exact ⟨fun h => UInt8.toNat.inj (by omega), fun h => by rw [h]⟩
    rw [e]
    cases hq : (l.getD i 0 == m.getD i 0)
    · simp only [Bool.not_false, if_true, Sem.run_pure, List.all_cons, hq, Bool.false_and]
    · simp only [Bool.not_true, Bool.false_eq_true, if_false, ih, List.all_cons, hq, Bool.true_and]
theorem all_getD (l m : List UInt8) (n : Nat) (hl : l.length = n) (hm : m.length = n) : ((List.range n).all fun i => l.getD i 0 == m.getD i 0) = (l == m) := by
  rw [Bool.eq_iff_iff, List.all_eq_true, beq_iff_eq]
  constructor
  · intro h
    apply List.ext_getElem (by omega)
    intro i h1 h2
    have := h i (by simp; omega)
    simpa [List.getD, List.getElem?_eq_getElem h1, List.getElem?_eq_getElem h2] using this
  · rintro rfl i _
    simp
/-- '==' on addresses -/
theorem run_eql_sum (l m : List UInt8) (hl : l.length = 32) (hm : m.length = 32) (W : World) :
    (binOp .eql 53 (.agg (l.map bv).toArray) (.agg (m.map bv).toArray)).run Tryd.prog W = .ok (.bool (l == m)) W := by
  obtain ⟨i0, hi, hz0, hz1, hz2⟩ := info_parts info_u8'
  simp only [binOp]
  have := run_equalIn_array (P := Tryd.prog) W 9999 (l.map bv).toArray (m.map bv).toArray Tryd.underlying53 hi
  rw [cells_u8, run_eqItems_bytes 9998 l m W (List.range 32) (fun i h => by simp at h; omega), all_getD l m 32 hl hm] at this
  simp [Op.equal, Op.maxDepth, this]
theorem run_neq_sum (l m : List UInt8) (hl : l.length = 32) (hm : m.length = 32) (W : World) :
    (binOp .neq 53 (.agg (l.map bv).toArray) (.agg (m.map bv).toArray)).run Tryd.prog W = .ok (.bool (l != m)) W := by
  obtain ⟨i0, hi, hz0, hz1, hz2⟩ := info_parts info_u8'
  simp only [binOp]
  have := run_equalIn_array (P := Tryd.prog) W 9999 (l.map bv).toArray (m.map bv).toArray Tryd.underlying53 hi
  rw [cells_u8, run_eqItems_bytes 9998 l m W (List.range 32) (fun i h => by simp at h; omega), all_getD l m 32 hl hm] at this
  simp [Op.equal, Op.maxDepth, this, bne]

/-- the byte of a cell -/
def byteIn : Value → UInt8
  | .int _ n => UInt8.ofNat n.toNat
  | _ => 0
theorem bv_byteIn {n : Int} (h : (Lit.int .u8 n).wf = true) : Value.int .u8 n = bv (byteIn (.int .u8 n)) := by
  have hb : 0 ≤ n ∧ n ≤ 255 := bounds_u8 h
  unfold bv byteIn
  congr 1
  rw [UInt8.toNat_ofNat_of_lt' (by simp [UInt8.size]; omega)]
  omega
set_option maxRecDepth 4000 in
/-- an address among the arguments -/
theorem open_sum {H : Type} {enc : TypeId × Value → H} {W : World} {base : Nat} {sp : Nat → Bool} {held : Bool} {r : Reach} {b0 : Nat} {v : Value} {d : DataW H} {p : List MemPlace}
    (hv : Value.okWide Tryd.prog W r b0 53 v) (h : DataW.Trod enc Tryd.prog W base sp held 53 v d p) : ∃ l : List UInt8, v = .agg (l.map bv).toArray ∧ l.length = 32 := by
  simp only [Value.okWide, Tryd.underlying53] at hv
  obtain ⟨cs, rfl, hcs, _⟩ := hv
  rw [cells_sum] at hcs
  obtain ⟨fuel, hf⟩ := h
  obtain ⟨xs, m, _, _, _, hxl, hx⟩ := DataW.trod_array Tryd.underlying53 hf
  have hcell : ∀ i, i < 32 → ∃ n : Int, cs[i]? = some (.int .u8 n) ∧ (Lit.int .u8 n).wf = true := by
    intro i hi
    have h1 := hx i hi
    rw [List.getElem?_eq_getElem (by omega), cells_u8, Nat.mul_one] at h1
    obtain ⟨n, hc, _, hw⟩ := DataW.trod_int Tryd.underlying5 h1
    refine ⟨n, ?_, hw⟩
    have := congrArg (·[0]?) hc
    simpa [Value.cells, List.getElem?_take, List.getElem?_drop] using this
  refine ⟨cs.toList.map byteIn, ?_, by simpa using hcs⟩
  congr 1
  apply Array.ext_getElem?
  intro i
  by_cases hi : i < 32
  · obtain ⟨n, hc, hw⟩ := hcell i hi
    have e : (List.map bv (List.map byteIn cs.toList)).toArray[i]? = some (bv (byteIn (.int .u8 n))) := by
      simp [hc]
    rw [e, hc, ← bv_byteIn hw]
  · rw [Array.getElem?_eq_none (by omega), Array.getElem?_eq_none (by simp; omega)]
end Go.Proofs.YtnagmpnpgekhfaaDoor
