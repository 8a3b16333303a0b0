/- Equality of records, field by field. -/
import Derived.Test.YtnagmpnpgekhfaaDoorSumVal
import Derived.Test.YtnagmpnpgekhfaaDoorGen
namespace Go.Proofs.YtnagmpnpgekhfaaDoor
open Go.RowKit
theorem col_dec (a b : Col) : (a.name == b.name && (a.kind == b.kind && a.null == b.null)) = decide (a = b) := by
  obtain ⟨a1, a2, a3⟩ := a
  obtain ⟨b1, b2, b3⟩ := b
  rw [Bool.eq_iff_iff]
  simp
theorem chk_dec (a b : Chk) : (a.sum == b.sum && a.len == b.len) = decide (a = b) := by
  obtain ⟨a1, a2⟩ := a
  obtain ⟨b1, b2⟩ := b
  rw [Bool.eq_iff_iff]
  simp
theorem run_part1 {t : TypeId} {d : TypeDesc} {cs : Array Value} {off : Nat} {v : Value} {w : World} (hu : Tryd.prog.underlying t = some d) (hd : (match d with | .struct _ | .array _ _ => false | _ => true) = true) (hv : cs.toList[off]? = some v) : (part t cs off).run Tryd.prog w = .ok v w := by
  have hc : cs[off]? = some v := by rw [← hv]; simp
  cases d <;> simp at hd <;> simp [part, isAgg, run_underlying hu, hc]
theorem eqFields_cons {P : Program} {d : Nat} {xs ys : Array Value} {f : Field} {fs : List Field} {a b : Value} {r r' : Bool} {w : World} (hn : f.name ≠ "_") (ha : (part f.type xs f.offset).run P w = .ok a w) (hb : (part f.type ys f.offset).run P w = .ok b w) (he : (Op.equalIn d f.type a b).run P w = .ok r w) (hr : r = true → (Op.eqFields d xs ys fs).run P w = .ok r' w) :
    (Op.eqFields d xs ys (f :: fs)).run P w = .ok (r && r') w := by
  unfold Op.eqFields
  rw [if_pos hn]
  simp only [Sem.run_bind, ha, hb, he, Result.andThen_ok, Sem.run_ite]
  cases r with
  | false => simp
  | true => simpa using hr rfl
theorem eqFields_one {P : Program} {d : Nat} {xs ys : Array Value} {f : Field} {a b : Value} {r : Bool} {w : World} (hn : f.name ≠ "_") (ha : (part f.type xs f.offset).run P w = .ok a w) (hb : (part f.type ys f.offset).run P w = .ok b w) (he : (Op.equalIn d f.type a b).run P w = .ok r w) :
    (Op.eqFields d xs ys [f]).run P w = .ok r w := by
  have := eqFields_cons (fs := []) hn ha hb he (fun _ => (by simp [Op.eqFields] : (Op.eqFields d xs ys []).run P w = .ok true w))
  simpa using this
theorem eqSumE (l m : List UInt8) (hl : l.length = 32) (hm : m.length = 32) (w : World) : (Op.equalIn 9999 53 (.agg (l.map bv).toArray) (.agg (m.map bv).toArray)).run Tryd.prog w = .ok (l == m) w := by
  obtain ⟨i0, hi, hz0, hz1, hz2⟩ := info_parts info_u8'
  have := run_equalIn_array (P := Tryd.prog) w 9998 (l.map bv).toArray (m.map bv).toArray Tryd.underlying53 hi
  rw [cells_u8, run_eqItems_bytes 9997 l m w (List.range 32) (fun i h => by simp at h; omega), all_getD l m 32 hl hm] at this
  exact this
end Go.Proofs.YtnagmpnpgekhfaaDoor
