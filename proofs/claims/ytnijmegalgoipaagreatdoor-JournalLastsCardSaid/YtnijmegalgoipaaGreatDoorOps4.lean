/- More operations: copy of a longer string; a bool that is known. -/
import Derived.Test.YtnijmegalgoipaaGreatDoorOps3
namespace Go.Proofs.YtnijmegalgoipaaGreatDoor
open Go.RowKit
section
variable {P : Program} {N : Nat} {ds : List Deferred} {Q : Post} {l : Env} {w : World} {ops : Array Oper} {rest : List Oper} {x y : Operand} {ty t : TypeId} {pos : String} {aft : Array Edge} {d g o n c : Nat}
theorem X.mvB {b c : Bool} (hx : ev l x = some (.bool b)) (hb : b = c) : X P l (.move x) ty w (.bool c) w := by
  subst hb
  exact X.move hx
/-- copy(p[:], s): the first bytes of a longer string -/
theorem scpT {e bt tx : TypeId} {s : List UInt8} {cs : Array Value} (hx : ev l x = some (.slice (some ⟨g, o, none⟩) n c)) (hy : ev l y = some (str s)) (hu : P.underlying t = some (.slice e)) (hi : (P.info? e).map (·.size) = some 1) (hB : Blk w g bt cs) (hl : n ≤ s.length) (ho : o + n ≤ cs.size) (hd : Nat.blt d N = true)
    (h : ∀ w', Blk w' g bt (cs.toList.take o ++ (s.take n).map bv ++ cs.toList.drop (o + n)).toArray → Chg (fun k => k = g) w w' → WL P N ds ops Q rest ((d, .int .i64 n) :: l) w') :
    WL P N ds ops Q (⟨some d, .call { callee := .builtin .copy, args := #[x, y], argTypes := #[t, tx] }, ty, pos, aft, none⟩ :: rest) l w := by
  obtain ⟨q, hq, hq1⟩ := Option.map_eq_some_iff.1 hi
  have hln : (s.take n).length = n := by rw [List.length_take]; omega
  have hst := run_storeCells_at P g o bt ((s.take n).map bv) 0 cs w hB (by simp only [List.length_map, hln]; simpa using ho) (bv_one _)
  simp only [Nat.add_zero, List.length_map, hln] at hst
  have hfc : (Builtin.firstCells 1 n (str s)).run P w = .ok ((s.take n).map bv).toArray w := by
    have e0 : ((⟨s.toArray⟩ : ByteArray).extract 0 n).data = (s.take n).toArray := by
      have := extract_list s 0 n
      unfold str at this
      injection this with this
      rw [this, List.drop_zero]
    show ((pure (((⟨s.toArray⟩ : ByteArray).extract 0 n).data.map fun b => Value.int .u8 b.toNat) : Sem (Array Value))).run P w = _
    rw [e0, Sem.run_pure, List.map_toArray]
    rfl
  obtain ⟨bs, hbs⟩ : ∃ bs, (s.take n).map bv = bs := ⟨_, rfl⟩
  rw [hbs] at hst hfc h
  have hr : (Builtin.copy_ #[t, tx] ty #[.slice (some ⟨g, o, none⟩) n c, str s]).run P w = .ok (.int .i64 n) (w.setRow g (cs.toList.take o ++ bs ++ cs.toList.drop (o + n)).toArray) := by
    have e1 : (Builtin.lenOf (str s)).run P w = .ok s.length w := by simp [Builtin.lenOf, str]; rfl
    have e2 : Nat.min s.length n = n := Nat.min_eq_right hl
    unfold Builtin.copy_
    simp [run_underlying hu, e1, e2, sizeOf, typeInfo, hq, hq1, hfc, hst, goInt]
  refine st (fun ρ hρ => ?_) hd (h _ (setRow_heap _ _ _ _ _ _ hB) ((Chg.refl (fun k => k = g) w).setRow (.inl rfl) _))
  unfold execOp
  simp only [resolve, invoke, builtin, Sem.run_bind, Sem.run_pure, Result.andThen_ok, List.map_toArray, List.map_cons, List.map_nil, hρ _ _ hx, hρ _ _ hy, hr]
end
end Go.Proofs.YtnijmegalgoipaaGreatDoor
