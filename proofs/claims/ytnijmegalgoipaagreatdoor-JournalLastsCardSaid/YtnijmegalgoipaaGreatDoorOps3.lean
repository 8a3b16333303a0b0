/- More operations: copy, slices of arrays and of slices, make as a block known whole, string to bytes. -/
import Derived.Test.YtnijmegalgoipaaGreatDoorEnvD
namespace Go.Proofs.YtnijmegalgoipaaGreatDoor
open Go.RowKit
section
variable {P : Program} {N : Nat} {ds : List Deferred} {Q : Post} {l : Env} {w w' : World} {ops : Array Oper} {rest : List Oper} {ty t t' : TypeId} {pos : String} {aft : Array Edge} {d : Nat} {v u : Value} {x y : Operand} {k k' : IntKind} {m m' : Int} {g o n c : Nat}
/-- arr[:] -/
theorem X.slA {e : TypeId} {q : TypeInfo} (hx : ev l x = some (.pointer (some ⟨g, o, none⟩))) (hu : P.underlying t = some (.array n e)) (hi : P.info? e = some q) : X P l (.slice t x none none none) ty w (.slice (some ⟨g, o, none⟩) n n) w := fun ρ hρ => by
  unfold execOp
  have : (Instr.sliceAt t (.pointer (some ⟨g, o, none⟩)) none none none).run P w = .ok (.slice (some ⟨g, o, none⟩) n n) w := by
    unfold Instr.sliceAt
    simp [run_underlying hu, Instr.sureAddr, Instr.sliceBounds, sizeOf, typeInfo, hi, Addr.add]
  simp [hρ _ _ hx, this]
theorem infoSome {t : TypeId} {s : Nat} (h : (P.info? t).map (·.size) = some s) : ∃ q, P.info? t = some q := by
  obtain ⟨q, h1, _⟩ := Option.map_eq_some_iff.1 h
  exact ⟨q, h1⟩
theorem X.slArr {e : TypeId} {s : Nat} (hx : ev l x = some (.pointer (some ⟨g, o, none⟩))) (hu : P.underlying t = some (.array n e)) (hi : (P.info? e).map (·.size) = some s) : X P l (.slice t x none none none) ty w (.slice (some ⟨g, o, none⟩) n n) w := by
  obtain ⟨q, hq⟩ := infoSome hi
  exact X.slA hx hu hq
/-- copy(b, s) of a string -/
theorem scpS {e bt tx : TypeId} {s : List UInt8} {cs : Array Value} (hx : ev l x = some (.slice (some ⟨g, o, none⟩) n c)) (hy : ev l y = some (str s)) (hu : P.underlying t = some (.slice e)) (hi : (P.info? e).map (·.size) = some 1) (hB : Blk w g bt cs) (hl : s.length = n) (ho : o + n ≤ cs.size) (hd : Nat.blt d N = true)
    (h : ∀ w', Blk w' g bt (cs.toList.take o ++ s.map bv ++ cs.toList.drop (o + n)).toArray → Chg (fun k => k = g) w w' → WL P N ds ops Q rest ((d, .int .i64 n) :: l) w') :
    WL P N ds ops Q (⟨some d, .call { callee := .builtin .copy, args := #[x, y], argTypes := #[t, tx] }, ty, pos, aft, none⟩ :: rest) l w := by
  subst hl
  obtain ⟨q, hq, hq1⟩ := Option.map_eq_some_iff.1 hi
  have hst := run_storeCells_at P g o bt (s.map bv) 0 cs w hB (by simpa using ho) (bv_one s)
  simp only [Nat.add_zero, List.length_map] at hst
  have hfc : (Builtin.firstCells 1 s.length (str s)).run P w = .ok (s.map bv).toArray w := by
    simp [Builtin.firstCells, str]
    exact fun _ _ => rfl
  have hr : (Builtin.copy_ #[t, tx] ty #[.slice (some ⟨g, o, none⟩) s.length c, str s]).run P w = .ok (.int .i64 s.length) (w.setRow g (cs.toList.take o ++ s.map bv ++ cs.toList.drop (o + s.length)).toArray) := by
    have e1 : (Builtin.lenOf (str s)).run P w = .ok s.length w := by simp [Builtin.lenOf, str]; rfl
    unfold Builtin.copy_
    simp [run_underlying hu, e1, sizeOf, typeInfo, hq, hq1, hfc, hst, goInt]
  refine st (fun ρ hρ => ?_) hd (h _ (setRow_heap _ _ _ _ _ _ hB) ((Chg.refl (fun k => k = g) w).setRow (.inl rfl) _))
  unfold execOp
  simp only [resolve, invoke, builtin, Sem.run_bind, Sem.run_pure, Result.andThen_ok, List.map_toArray, List.map_cons, List.map_nil, hρ _ _ hx, hρ _ _ hy, hr]
/-- make([]T, n), the block known whole -/
theorem smkB {e : TypeId} {z : Value} {size bytes q : Nat} (hx : ev l x = some (.int k m)) (hy : ev l y = some (.int k' m')) (hm : m = (q : Int)) (hm' : m' = (q : Int)) (ht : P.underlying t = some (.slice e)) (hinfo : (P.info? e).map (fun i => (i.zero, i.size, i.bytes)) = some (some z, size, bytes)) (hbytes : bytes * q ≤ 281474976710656) (h63 : q ≤ maxLen) (hd : Nat.blt d N = true)
    (h : ∀ g w', Blk w' g e (madeCells z.cells (q * size)) → w.heap.size ≤ g → Below w.heap.size w w' → g < w'.heap.size → WL P N ds ops Q rest ((d, .slice (some ⟨g, 0, none⟩) q q) :: l) w') :
    WL P N ds ops Q (⟨some d, .makeSlice t x y, ty, pos, aft, none⟩ :: rest) l w := by
  obtain ⟨i, hi, hz, hsize, hby⟩ := info_of hinfo
  subst hm hm' hsize hby
  have hb' : (i.bytes : Int) * (q : Int) ≤ 281474976710656 := by
    have h : ((i.bytes * q : Nat) : Int) ≤ 281474976710656 := by omega
    rwa [Int.natCast_mul] at h
  have hr := run_make (P := P) w t e i z ht hi hz k k' q q (by omega) (Int.le_refl _) hb' (by simp only [maxLen] at h63; omega)
  simp only [Int.toNat_natCast] at hr
  refine st (w' := w.alloc (.cells (madeCells z.cells (q * i.size)) e)) (fun ρ hρ => ?_) hd (h _ _ (Blk.new w e _) (Nat.le_refl _) ((Below.refl _ _).alloc (Nat.le_refl _) _) (by simp))
  unfold execOp
  simp [hρ _ _ hx, hρ _ _ hy, hr]
theorem madeCells_size (z : Array Value) (q : Nat) : (madeCells z q).size = q := by simp [madeCells]
end
/-- a whole block as a row -/
theorem Blk.row_ {w : World} {g : Nat} {e : TypeId} {cs : Array Value} (h : Blk w g e cs) {n size : Nat} (hs : cs.size = n * size) (hn : n ≤ maxLen) : Row w e size (.slice (some ⟨g, 0, none⟩) n n) n cs.toList :=
  ⟨by simpa using hs, .inr ⟨g, 0, n, cs, (0, 0), rfl, h, Nat.le_refl _, hn, by omega, by rw [List.drop_zero, List.take_of_length_le (by simp; omega)], fun j _ => by simp⟩⟩
theorem Row.apart_ {w : World} {e e' : TypeId} {size size' n n' : Nat} {v v' : Value} {xs xs' : List Value} (h : Row w e size v n xs) (h' : Row w e' size' v' n' xs') (hne : e ≠ e') (k : Nat) (hk : v.ownBlock = some k) : ¬ v'.ownBlock = some k := by
  intro hk'
  rcases h.2 with ⟨rfl, _⟩ | ⟨g, off, cap, cur, fz, rfl, hg, _⟩
  · simp [Value.ownBlock] at hk
  · rcases h'.2 with ⟨rfl, _⟩ | ⟨g', off', cap', cur', fz', rfl, hg', _⟩
    · simp [Value.ownBlock] at hk'
    · simp [Value.ownBlock] at hk hk'
      subst hk
      subst hk'
      rw [hg] at hg'
      injection hg' with hg'
      injection hg' with _ ht
      exact hne ht
/-- one's own append -/
theorem bapp {v : Value} {w0 w w' : World} (hb : Below w0.heap.size w0 w) (hc : Chg (fun k => v.ownBlock = some k) w w') (hg : ∀ k, v.ownBlock = some k → w0.heap.size ≤ k) : Below w0.heap.size w0 w' :=
  ⟨hc.os.trans hb.os, hc.tape.trans hb.tape, hc.output.trans hb.output, Nat.le_trans hb.size hc.size, fun k hk => (hc.block k (Nat.lt_of_lt_of_le hk hb.size) (fun e => by have := hg k e; omega)).trans (hb.block k hk)⟩
theorem own_next {v v' : Value} {B n : Nat} (h : v'.ownBlock = v.ownBlock ∨ v'.ownBlock = some n) (h0 : ∀ k, v.ownBlock = some k → B ≤ k) (hn : B ≤ n) : ∀ k, v'.ownBlock = some k → B ≤ k := by
  intro k hk
  rcases h with h | h
  · exact h0 k (h.symm.trans hk)
  · rw [h] at hk; injection hk with hk; omega
end Go.Proofs.YtnijmegalgoipaaGreatDoor
