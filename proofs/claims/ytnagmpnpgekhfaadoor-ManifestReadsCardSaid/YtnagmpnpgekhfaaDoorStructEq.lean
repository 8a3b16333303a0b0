/- '==' on columns and chunks. -/
import Derived.Test.YtnagmpnpgekhfaaDoorSumVal
import Derived.Test.YtnagmpnpgekhfaaDoorManCheck
namespace Go.Proofs.YtnagmpnpgekhfaaDoor
open Go.RowKit
theorem col_dec (a b : Col) : (a.name == b.name && (a.kind == b.kind && a.null == b.null)) = decide (a = b) := by
  obtain ⟨a1, a2, a3⟩ := a
  obtain ⟨b1, b2, b3⟩ := b
  rw [Bool.eq_iff_iff]
  simp
theorem chk_dec (a b : Chk) : (a.sum == b.sum && a.len == b.len) = decide (a = b) := by
  obtain ⟨a1, a2⟩ := a
  obtain ⟨b1, b2⟩ := b
  rw [Bool.eq_iff_iff]
  simp
theorem fieldsColE : Tryd.prog.underlying 60 = some (.struct (Tryd.prog.fieldsOf 60)) := by kernel_rfl
theorem fieldsChkE : Tryd.prog.underlying 55 = some (.struct (Tryd.prog.fieldsOf 55)) := by kernel_rfl
theorem run_part1 {t : TypeId} {d : TypeDesc} {cs : Array Value} {off : Nat} {v : Value} {w : World} (hu : Tryd.prog.underlying t = some d) (hd : (match d with | .struct _ | .array _ _ => false | _ => true) = true) (hv : cs.toList[off]? = some v) : (part t cs off).run Tryd.prog w = .ok v w := by
  have hc : cs[off]? = some v := by rw [← hv]; simp
  cases d <;> simp at hd <;> simp [part, isAgg, run_underlying hu, hc]
set_option maxRecDepth 30000 in
theorem eqCol (a b : Col) (w : World) : (Op.equalIn 10000 60 (.agg a.cells.toArray) (.agg b.cells.toArray)).run Tryd.prog w = .ok (decide (a = b)) w := by
  refine (run_equalIn_struct w 9999 _ _ _ fieldsColE (by kernel_rfl)).trans ?_
  have hf := Option.some.inj (fieldsColE.symm.trans Tryd.underlying60)
  injection hf with hf
  rw [hf]
  have h1 : ∀ c : Col, (part 9 c.cells.toArray 0).run Tryd.prog w = .ok (str c.name) w := fun c => run_part1 Tryd.underlying9 rfl rfl
  have h2 : ∀ c : Col, (part 3 c.cells.toArray 1).run Tryd.prog w = .ok (.int .i64 c.kind) w := fun c => run_part1 Tryd.underlying3 rfl rfl
  have h3 : ∀ c : Col, (part 4 c.cells.toArray 2).run Tryd.prog w = .ok (.bool c.null) w := fun c => run_part1 Tryd.underlying4 rfl rfl
  have e1 : (Op.equalIn 9999 9 (str a.name) (str b.name)).run Tryd.prog w = .ok (a.name == b.name) w := by
    unfold str
    rw [run_equalIn_string w 9998 9 _ _ Tryd.underlying9, ByteArray.toList_eq, ByteArray.toList_eq]
  have e2 : (Op.equalIn 9999 3 (.int .i64 a.kind) (.int .i64 b.kind)).run Tryd.prog w = .ok (a.kind == b.kind) w := run_equalIn_int w 9998 3 .i64 .i64 _ _ Tryd.underlying3
  have e3 : (Op.equalIn 9999 4 (.bool a.null) (.bool b.null)).run Tryd.prog w = .ok (a.null == b.null) w := run_equalIn_bool w 9998 4 _ _ Tryd.underlying4
  rw [← col_dec]
  simp only [Op.eqFields, Sem.run_bind, Sem.run_ite, h1, h2, h3, e1, e2, e3, Result.andThen_ok, Sem.run_pure]
  cases a.name == b.name <;> cases a.kind == b.kind <;> cases a.null == b.null <;> rfl
theorem eqFields_cons {P : Program} {d : Nat} {xs ys : Array Value} {f : Field} {fs : List Field} {a b : Value} {r r' : Bool} {w : World} (hn : f.name ≠ "_") (ha : (part f.type xs f.offset).run P w = .ok a w) (hb : (part f.type ys f.offset).run P w = .ok b w) (he : (Op.equalIn d f.type a b).run P w = .ok r w) (hr : r = true → (Op.eqFields d xs ys fs).run P w = .ok r' w) :
    (Op.eqFields d xs ys (f :: fs)).run P w = .ok (r && r') w := by
  unfold Op.eqFields
  rw [if_pos hn]
  simp only [Sem.run_bind, ha, hb, he, Result.andThen_ok, Sem.run_ite]
  cases r with
  | false => simp
  | true => simpa using hr rfl
theorem eqFields_one {P : Program} {d : Nat} {xs ys : Array Value} {f : Field} {a b : Value} {r : Bool} {w : World} (hn : f.name ≠ "_") (ha : (part f.type xs f.offset).run P w = .ok a w) (hb : (part f.type ys f.offset).run P w = .ok b w) (he : (Op.equalIn d f.type a b).run P w = .ok r w) :
    (Op.eqFields d xs ys [f]).run P w = .ok r w := by
  have := eqFields_cons (fs := []) hn ha hb he (fun _ => (by simp [Op.eqFields] : (Op.eqFields d xs ys []).run P w = .ok true w))
  simpa using this
theorem eqSumE (l m : List UInt8) (hl : l.length = 32) (hm : m.length = 32) (w : World) : (Op.equalIn 9999 53 (.agg (l.map bv).toArray) (.agg (m.map bv).toArray)).run Tryd.prog w = .ok (l == m) w := by
  obtain ⟨i0, hi, hz0, hz1, hz2⟩ := info_parts info_u8'
  have := run_equalIn_array (P := Tryd.prog) w 9998 (l.map bv).toArray (m.map bv).toArray Tryd.underlying53 hi
  rw [cells_u8, run_eqItems_bytes 9997 l m w (List.range 32) (fun i h => by simp at h; omega), all_getD l m 32 hl hm] at this
  exact this
set_option maxRecDepth 30000 in
theorem eqChk (a b : Chk) (ha : a.sum.length = 32) (hb : b.sum.length = 32) (w : World) : (Op.equalIn 10000 55 (.agg a.cells.toArray) (.agg b.cells.toArray)).run Tryd.prog w = .ok (decide (a = b)) w := by
  refine (run_equalIn_struct w 9999 _ _ _ fieldsChkE (by kernel_rfl)).trans ?_
  have hf := Option.some.inj (fieldsChkE.symm.trans Tryd.underlying55)
  injection hf with hf
  rw [hf]
  have h1 : ∀ c : Chk, c.sum.length = 32 → (part 53 c.cells.toArray 0).run Tryd.prog w = .ok (.agg (c.sum.map bv).toArray) w := fun c hc => by
    obtain ⟨i0, hi, hz⟩ := Option.map_eq_some_iff.1 siz53
    have hx : c.cells.toArray.extract 0 (0 + 32) = (c.sum.map bv).toArray := by
      rw [List.extract_toArray, Chk.cells, List.extract_eq_take_drop, List.drop_zero, List.take_left' (by rw [List.length_map, hc])]
    simp only [part, isAgg, Sem.run_bind, run_underlying Tryd.underlying53, Result.andThen_ok, Sem.run_pure, if_true]
    rw [run_sizeOf _ hi, cells_sum]
    simp only [Result.andThen_ok, hx]
  have h2 : ∀ c : Chk, c.sum.length = 32 → (part 3 c.cells.toArray 32).run Tryd.prog w = .ok (.int .i64 c.len) w := fun c hc => run_part1 Tryd.underlying3 rfl (by simp [Chk.cells, hc])
  have e1 := eqSumE a.sum b.sum ha hb w
  have e2 : (Op.equalIn 9999 3 (.int .i64 a.len) (.int .i64 b.len)).run Tryd.prog w = .ok (a.len == b.len) w := run_equalIn_int w 9998 3 .i64 .i64 _ _ Tryd.underlying3
  rw [← chk_dec]
  exact eqFields_cons (by decide) (h1 a ha) (h1 b hb) e1 (fun _ => eqFields_one (by decide) (h2 a ha) (h2 b hb) e2)
theorem X.neCol {l : Env} {x y : Operand} {w : World} {t' ty : TypeId} {a b : Col} (hx : ev l x = some (.agg a.cells.toArray)) (hy : ev l y = some (.agg b.cells.toArray)) : X Tryd.prog l (.binOp .neq 60 x y t') ty w (.bool (decide (a ≠ b))) w :=
  X.bin hx hy (fun c d => run_eqGuard_agg w .neq _ c d _ _ (by kernel_rfl)) (by rw [run_neq_struct, eqCol]; simp [Result.andThen])
theorem X.neChk {l : Env} {x y : Operand} {w : World} {t' ty : TypeId} {a b : Chk} (ha : a.sum.length = 32) (hb : b.sum.length = 32) (hx : ev l x = some (.agg a.cells.toArray)) (hy : ev l y = some (.agg b.cells.toArray)) : X Tryd.prog l (.binOp .neq 55 x y t') ty w (.bool (decide (a ≠ b))) w :=
  X.bin hx hy (fun c d => run_eqGuard_agg w .neq _ c d _ _ (by kernel_rfl)) (by rw [run_neq_struct, eqChk a b ha hb]; simp [Result.andThen])
end Go.Proofs.YtnagmpnpgekhfaaDoor
