/- Addresses as keys of maps. -/
import Derived.Test.YtnagmpnpgekhfaaDoorIter
import Derived.Test.YtnagmpnpgekhfaaDoorSumVal
import Derived.WideKeyRuns
namespace Go.Proofs.YtnagmpnpgekhfaaDoor
open Go.RowKit
abbrev Sum32 : Type := { l : List UInt8 // l.length = 32 }
def encSum (k : Sum32) : Value := .agg (k.1.map bv).toArray
def encInt (n : Int) : Value := .int .i64 n
theorem part_byte (k : Sum32) (i : Nat) (h : i < 32) (w : World) : (part 5 (k.1.map bv).toArray i).run Tryd.prog w = .ok (.int .u8 (k.1.getD i 0).toNat) w := run_part_byte k.1 i (by rw [k.2]; exact h) w
theorem run_forIn_unit {P : Program} {w : World} (f : Nat → PUnit → Sem (ForInStep PUnit)) : ∀ l : List Nat, (∀ i ∈ l, (f i PUnit.unit).run P w = .ok (.yield PUnit.unit) w) → (forIn l PUnit.unit f).run P w = .ok PUnit.unit w
  | [], _ => by simp
  | i :: l, h => by
    have ih := run_forIn_unit f l (fun j hj => h j (by simp [hj]))
    simp only [List.forIn_cons, Sem.run_bind, h i (by simp), Result.andThen_ok]
    exact ih
theorem check_byte (b : Bool) (n : Nat) (m : Int) (w : World) : (Instr.checkKey b (n + 1) 5 (.int .u8 m)).run Tryd.prog w = .ok () w := by
  rw [Instr.checkKey]
  simp [run_underlying Tryd.underlying5]
theorem check_sum (b : Bool) (k : Sum32) (w : World) : (Instr.checkKey b 10000 53 (encSum k)).run Tryd.prog w = .ok () w := by
  obtain ⟨i0, hi, hz0, hz1, hz2⟩ := info_parts info_u8'
  rw [Instr.checkKey]
  simp only [Sem.run_bind, run_underlying Tryd.underlying53, Result.andThen_ok, encSum]
  simp only [Std.Legacy.Range.forIn_eq_forIn_range', Std.Legacy.Range.size, Nat.sub_zero, Nat.add_one_sub_one, Nat.div_one]
  rw [run_forIn_unit]
  · rfl
  intro i hi2
  have hi3 : i < 32 := by simp at hi2; omega
  simp only [Sem.run_bind, run_sizeOf _ hi, Result.andThen_ok, cells_u8, Nat.mul_one, part_byte k i hi3 w, check_byte, Sem.run_pure]
theorem eq_sum (k q : Sum32) (w : World) : (Op.equal 53 (encSum k) (encSum q)).run Tryd.prog w = .ok (decide (k = q)) w := by
  obtain ⟨i0, hi, hz0, hz1, hz2⟩ := info_parts info_u8'
  have := run_equalIn_array (P := Tryd.prog) w 9999 (k.1.map bv).toArray (q.1.map bv).toArray Tryd.underlying53 hi
  rw [cells_u8, run_eqItems_bytes 9998 k.1 q.1 w (List.range 32) (fun i h => by simp at h; rw [k.2, q.2]; omega), all_getD k.1 q.1 32 k.2 q.2] at this
  have e : decide (k = q) = (k.1 == q.1) := by rw [Bool.eq_iff_iff, decide_eq_true_eq, beq_iff_eq, Subtype.ext_iff]
  rw [e]
  exact this
theorem keySum : KeyLaw Tryd.prog 53 encSum where
  check := check_sum
  find k ks w := by
    rw [run_findKey_eq w (by rw [Tryd.underlying53])]
    have key : ∀ (ks : List (Sum32 × Value × Nat)) (j : Nat), (Instr.findAsking 53 (encSum k) (ks.map fun p => (⟨encSum p.1, p.2.1, p.2.2⟩ : MapEntry)) j).run Tryd.prog w = .ok ((ks.findIdx? fun p => decide (k = p.1)).bind fun i => (ks[i]?).map fun p => (i + j, p.2.1)) w := by
      intro ks
      induction ks with
      | nil => intro j; simp [Instr.findAsking]
      | cons p ks ih =>
        intro j
        simp only [List.map_cons, Instr.findAsking, Sem.run_bind, eq_sum, Result.andThen_ok, List.findIdx?_cons]
        by_cases h : k = p.1
        · simp [h]
        · have hd : decide (k = p.1) = false := decide_eq_false h
          simp only [hd, Bool.false_eq_true, if_false, ih (j + 1)]
          cases ks.findIdx? fun p => decide (k = p.1) with
          | none => rfl
          | some i =>
            simp only [Option.map_some, Option.bind_some, List.getElem?_cons_succ]
            rw [show i + 1 + j = i + (j + 1) by omega]
    exact key ks 0
  same k := by
    unfold encSum
    rw [Instr.sameBits]
    simp only [beq_self_eq_true, Bool.true_and, List.all_eq_true]
    intro p hp
    obtain ⟨x, y⟩ := p
    have hxy : x = y := by
      obtain ⟨i, hi, he⟩ := List.mem_iff_getElem.1 hp
      simp only [List.getElem_zip, Prod.mk.injEq] at he
      rw [← he.1, ← he.2]
    subst hxy
    have hm := (List.of_mem_zip hp).1
    simp only [List.mem_map] at hm
    obtain ⟨u, _, rfl⟩ := hm
    simp [Instr.sameBits, bv]
end Go.Proofs.YtnagmpnpgekhfaaDoor
