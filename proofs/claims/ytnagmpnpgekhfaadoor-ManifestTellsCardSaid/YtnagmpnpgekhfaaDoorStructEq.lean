/- '==' on columns and chunks. -/
import Derived.Test.YtnagmpnpgekhfaaDoorStructEq0
import Derived.Test.YtnagmpnpgekhfaaDoorManCheck
namespace Go.Proofs.YtnagmpnpgekhfaaDoor
open Go.RowKit
theorem fieldsColE : Tryd.prog.underlying 60 = some (.struct (Tryd.prog.fieldsOf 60)) := by kernel_rfl
theorem fieldsChkE : Tryd.prog.underlying 55 = some (.struct (Tryd.prog.fieldsOf 55)) := by kernel_rfl
set_option maxRecDepth 30000 in
theorem eqCol (a b : Col) (w : World) : (Op.equalIn 10000 60 (.agg a.cells.toArray) (.agg b.cells.toArray)).run Tryd.prog w = .ok (decide (a = b)) w := by
  refine (run_equalIn_struct w 9999 _ _ _ fieldsColE (by kernel_rfl)).trans ?_
  have hf := Option.some.inj (fieldsColE.symm.trans Tryd.underlying60)
  injection hf with hf
  rw [hf]
  have h1 : ∀ c : Col, (part 9 c.cells.toArray 0).run Tryd.prog w = .ok (str c.name) w := fun c => run_part1 Tryd.underlying9 rfl rfl
  have h2 : ∀ c : Col, (part 3 c.cells.toArray 1).run Tryd.prog w = .ok (.int .i64 c.kind) w := fun c => run_part1 Tryd.underlying3 rfl rfl
  have h3 : ∀ c : Col, (part 4 c.cells.toArray 2).run Tryd.prog w = .ok (.bool c.null) w := fun c => run_part1 Tryd.underlying4 rfl rfl
  have e1 : (Op.equalIn 9999 9 (str a.name) (str b.name)).run Tryd.prog w = .ok (a.name == b.name) w := by
    unfold str
    rw [run_equalIn_string w 9998 9 _ _ Tryd.underlying9, ByteArray.toList_eq, ByteArray.toList_eq]
  have e2 : (Op.equalIn 9999 3 (.int .i64 a.kind) (.int .i64 b.kind)).run Tryd.prog w = .ok (a.kind == b.kind) w := run_equalIn_int w 9998 3 .i64 .i64 _ _ Tryd.underlying3
  have e3 : (Op.equalIn 9999 4 (.bool a.null) (.bool b.null)).run Tryd.prog w = .ok (a.null == b.null) w := run_equalIn_bool w 9998 4 _ _ Tryd.underlying4
  rw [← col_dec]
  simp only [Op.eqFields, Sem.run_bind, Sem.run_ite, h1, h2, h3, e1, e2, e3, Result.andThen_ok, Sem.run_pure]
  cases a.name == b.name <;> cases a.kind == b.kind <;> cases a.null == b.null <;> rfl
set_option maxRecDepth 30000 in
theorem eqChk (a b : Chk) (ha : a.sum.length = 32) (hb : b.sum.length = 32) (w : World) : (Op.equalIn 10000 55 (.agg a.cells.toArray) (.agg b.cells.toArray)).run Tryd.prog w = .ok (decide (a = b)) w := by
  refine (run_equalIn_struct w 9999 _ _ _ fieldsChkE (by kernel_rfl)).trans ?_
  have hf := Option.some.inj (fieldsChkE.symm.trans Tryd.underlying55)
  injection hf with hf
  rw [hf]
  have h1 : ∀ c : Chk, c.sum.length = 32 → (part 53 c.cells.toArray 0).run Tryd.prog w = .ok (.agg (c.sum.map bv).toArray) w := fun c hc => by
    obtain ⟨i0, hi, hz⟩ := Option.map_eq_some_iff.1 siz53
    have hx : c.cells.toArray.extract 0 (0 + 32) = (c.sum.map bv).toArray := by
      rw [List.extract_toArray, Chk.cells, List.extract_eq_take_drop, List.drop_zero, List.take_left' (by rw [List.length_map, hc])]
    simp only [part, isAgg, Sem.run_bind, run_underlying Tryd.underlying53, Result.andThen_ok, Sem.run_pure, if_true]
    rw [run_sizeOf _ hi, cells_sum]
    simp only [Result.andThen_ok, hx]
  have h2 : ∀ c : Chk, c.sum.length = 32 → (part 3 c.cells.toArray 32).run Tryd.prog w = .ok (.int .i64 c.len) w := fun c hc => run_part1 Tryd.underlying3 rfl (by simp [Chk.cells, hc])
  have e1 := eqSumE a.sum b.sum ha hb w
  have e2 : (Op.equalIn 9999 3 (.int .i64 a.len) (.int .i64 b.len)).run Tryd.prog w = .ok (a.len == b.len) w := run_equalIn_int w 9998 3 .i64 .i64 _ _ Tryd.underlying3
  rw [← chk_dec]
  exact eqFields_cons (by decide) (h1 a ha) (h1 b hb) e1 (fun _ => eqFields_one (by decide) (h2 a ha) (h2 b hb) e2)
theorem X.neCol {l : Env} {x y : Operand} {w : World} {t' ty : TypeId} {a b : Col} (hx : ev l x = some (.agg a.cells.toArray)) (hy : ev l y = some (.agg b.cells.toArray)) : X Tryd.prog l (.binOp .neq 60 x y t') ty w (.bool (decide (a ≠ b))) w :=
  X.bin hx hy (fun c d => run_eqGuard_agg w .neq _ c d _ _ (by kernel_rfl)) (by rw [run_neq_struct, eqCol]; simp [Result.andThen])
theorem X.neChk {l : Env} {x y : Operand} {w : World} {t' ty : TypeId} {a b : Chk} (ha : a.sum.length = 32) (hb : b.sum.length = 32) (hx : ev l x = some (.agg a.cells.toArray)) (hy : ev l y = some (.agg b.cells.toArray)) : X Tryd.prog l (.binOp .neq 55 x y t') ty w (.bool (decide (a ≠ b))) w :=
  X.bin hx hy (fun c d => run_eqGuard_agg w .neq _ c d _ _ (by kernel_rfl)) (by rw [run_neq_struct, eqChk a b ha hb]; simp [Result.andThen])
end Go.Proofs.YtnagmpnpgekhfaaDoor
