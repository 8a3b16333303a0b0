/- Slices of slices, min and max, copy of a string into a slice that is longer. -/
import Derived.Test.YtnijmegalgoipaaDoorOps4
namespace Go.Proofs.YtnijmegalgoipaaDoor
open Go.RowKit
section
variable {P : Program} {l : Env} {w : World} {ty t e : TypeId} {x y z : Operand} {k k' : IntKind} {m m' : Int} {a : Option Addr} {n c size : Nat}
theorem elem_of (hu : P.underlying t = some (.slice e)) : P.elem t = e := by
  unfold Program.elem
  rw [hu]
theorem size_of (hi : (P.info? e).map (·.size) = some size) : (sizeOf e).run P w = .ok size w := by
  obtain ⟨q, hq, hs⟩ := Option.map_eq_some_iff.1 hi
  simp [sizeOf, typeInfo, hq, hs]
theorem X.fromL {i : Nat} (hx : ev l x = some (.slice a n c)) (hy : ev l y = some (.int k m)) (hu : P.underlying t = some (.slice e)) (hi : (P.info? e).map (·.size) = some size) (hm : m = (i : Int)) (hin : i ≤ n) : X P l (.slice t x (some y) none none) ty w (sliced a i n c size) w := fun ρ hρ => by
  subst hm
  have he := elem_of hu
  have := run_slice_l (P := P) w t a n c (by rw [he]; exact hu) k (i : Int) (by omega) (by omega)
  unfold execOp
  simp [hρ _ _ hx, hρ _ _ hy, Instr.sliceAt, run_underlying hu, this, he, size_of hi, Result.andThen]
theorem X.toL {j : Nat} (hx : ev l x = some (.slice a n c)) (hy : ev l y = some (.int k m)) (hu : P.underlying t = some (.slice e)) (hi : (P.info? e).map (·.size) = some size) (hm : m = (j : Int)) (hin : j ≤ c) : X P l (.slice t x none (some y) none) ty w (sliced a 0 j c size) w := fun ρ hρ => by
  subst hm
  have he := elem_of hu
  have := run_slice_h (P := P) w t a n c (by rw [he]; exact hu) k (j : Int) (by omega) (by omega)
  unfold execOp
  simp [hρ _ _ hx, hρ _ _ hy, Instr.sliceAt, run_underlying hu, this, he, size_of hi, Result.andThen]
theorem X.cutL {i j : Nat} (hx : ev l x = some (.slice a n c)) (hy : ev l y = some (.int k m)) (hz : ev l z = some (.int k' m')) (hu : P.underlying t = some (.slice e)) (hi : (P.info? e).map (·.size) = some size) (hm : m = (i : Int)) (hm' : m' = (j : Int)) (hij : i ≤ j) (hin : j ≤ c) : X P l (.slice t x (some y) (some z) none) ty w (sliced a i j c size) w := fun ρ hρ => by
  subst hm hm'
  have he := elem_of hu
  have := run_slice_lh (P := P) w t a n c (by rw [he]; exact hu) k k' (i : Int) (j : Int) (by omega) (by omega) (by omega)
  unfold execOp
  simp [hρ _ _ hx, hρ _ _ hy, hρ _ _ hz, Instr.sliceAt, run_underlying hu, this, he, size_of hi, Result.andThen]
/-- l[:n:n] -/
theorem X.fullL {j : Nat} (hx : ev l x = some (.slice a n c)) (hy : ev l y = some (.int k m)) (hz : ev l z = some (.int k' m')) (hu : P.underlying t = some (.slice e)) (hi : (P.info? e).map (·.size) = some size) (hm : m = (j : Int)) (hm' : m' = (j : Int)) (hin : j ≤ c) : X P l (.slice t x none (some y) (some z)) ty w (sliced a 0 j j size) w := fun ρ hρ => by
  subst hm hm'
  have he := elem_of hu
  have := run_slice_hm (P := P) w t a n c (by rw [he]; exact hu) k k' (j : Int) (j : Int) (by omega) (by omega) (by omega)
  unfold execOp
  simp [hρ _ _ hx, hρ _ _ hy, hρ _ _ hz, Instr.sliceAt, run_underlying hu, this, he, size_of hi, Result.andThen]
theorem X.min2 {p q r : Int} {ats : Array TypeId} (hx : ev l x = some (.int k p)) (hy : ev l y = some (.int k' q)) (hr : r = (if q < p then q else p)) : X P l (.call { callee := .builtin .min, args := #[x, y], argTypes := ats }) ty w (.int k r) w := fun ρ hρ => by
  subst hr
  unfold execOp
  simp only [resolve, invoke, builtin, Sem.run_bind, Sem.run_pure, Result.andThen_ok, List.map_toArray, List.map_cons, List.map_nil, hρ _ _ hx, hρ _ _ hy, run_min_int2]
theorem X.max2 {p q r : Int} {ats : Array TypeId} (hx : ev l x = some (.int k p)) (hy : ev l y = some (.int k' q)) (hr : r = (if q > p then q else p)) : X P l (.call { callee := .builtin .max, args := #[x, y], argTypes := ats }) ty w (.int k r) w := fun ρ hρ => by
  subst hr
  unfold execOp
  simp only [resolve, invoke, builtin, Sem.run_bind, Sem.run_pure, Result.andThen_ok, List.map_toArray, List.map_cons, List.map_nil, hρ _ _ hx, hρ _ _ hy, run_max_int2]
end
theorem sliced_zero (a : Option Addr) (n c s : Nat) : sliced a 0 n c s = .slice a n c := by
  unfold sliced
  cases a with
  | none => simp
  | some a => simp [Addr.add]
/-- l[:n:n] reads the same -/
theorem Row.full {w : World} {e : TypeId} {size n c : Nat} {a : Option Addr} {xs : List Value} (h : Row w e size (.slice a n c) n xs) : Row w e size (.slice a n n) n xs := by
  refine ⟨h.1, ?_⟩
  rcases h.2 with ⟨hv, h0⟩ | ⟨g, off, cap, cur, fz, hv, hg, h1, h2, h3, h4, h5⟩
  · injection hv with e1 e2 e3
    subst e1 e2
    exact .inl ⟨rfl, rfl⟩
  · injection hv with e1 _ e3
    subst e1 e3
    have : n * size ≤ c * size := Nat.mul_le_mul_right _ h1
    exact .inr ⟨g, off, n, cur, fz, rfl, hg, Nat.le_refl _, by omega, by omega, h4, h5⟩
/-- a store into a row of cells -/
theorem Row.store_ {w : World} {e : TypeId} {n cap g o : Nat} {xs : List Value} (h : Row w e 1 (.slice (some ⟨g, o, none⟩) n cap) n xs) (j : Nat) (hj : j < n) (u : Value) : Row (w.setCell ⟨g, o + j, none⟩ u) e 1 (.slice (some ⟨g, o, none⟩) n cap) n (xs.set j u) := by
  refine ⟨by rw [List.length_set]; exact h.1, ?_⟩
  rcases h.2 with ⟨h0, _⟩ | ⟨g', off, cap', cur, fz, hv, hg, h1, h2, h3, h4, h5⟩
  · cases h0
  · injection hv with ha _ hc
    subst hc
    injection ha with ha
    injection ha with hg' ho
    subst hg'
    subst ho
    refine .inr ⟨g, o, cap, cur.setIfInBounds (o + j) u, fz, rfl, by simp [World.setCell, Array.getElem?_modify, hg], h1, h2, by simpa using h3, ?_, fun j hj => h5 j (by simpa using hj)⟩
    rw [← h4]
    apply List.ext_getElem?
    intro i
    have hl := h.1
    rw [← h4] at hl
    rw [List.getElem?_take, List.getElem?_set]
    simp only [Nat.mul_one] at *
    by_cases hi : i < n
    · rw [if_pos hi, List.getElem?_drop, Array.getElem?_toList, Array.getElem?_setIfInBounds]
      by_cases hij : j = i
      · subst hij
        rw [if_pos rfl, if_pos (by omega), if_pos rfl, if_pos (by omega)]
      · rw [if_neg (by omega), if_neg hij, List.getElem?_take, if_pos hi, List.getElem?_drop, Array.getElem?_toList]
    · rw [if_neg hi, if_neg (by omega), List.getElem?_take, if_neg hi]
/-- cells are stored into a row -/
theorem Row.stores {e : TypeId} {n cap g o : Nat} : ∀ (vs : List Value) {w : World} {xs : List Value} (_ : Row w e 1 (.slice (some ⟨g, o, none⟩) n cap) n xs) (i : Nat) (_ : i + vs.length ≤ n), Row (w.setCells g (o + i) vs) e 1 (.slice (some ⟨g, o, none⟩) n cap) n (xs.take i ++ vs ++ xs.drop (i + vs.length))
  | [], w, xs, h, i, _ => by
    simp only [List.append_nil, List.length_nil, Nat.add_zero, List.take_append_drop]
    exact h
  | v :: vs, w, xs, h, i, hi => by
    have hl := h.1
    simp only [List.length_cons] at hi
    have h1 := h.store_ i (by omega) v
    have ih := Row.stores vs h1 (i + 1) (by omega)
    have e1 : (xs.set i v).take (i + 1) = xs.take i ++ [v] := by
      rw [List.set_eq_take_append_cons_drop, if_pos (by omega), List.take_append, List.length_take, Nat.min_eq_left (by omega), List.take_of_length_le (by rw [List.length_take]; omega), show i + 1 - i = 1 by omega]
      simp
    have e2 : (xs.set i v).drop (i + 1 + vs.length) = xs.drop (i + (vs.length + 1)) := by
      rw [List.set_eq_take_append_cons_drop, if_pos (by omega), List.drop_append, List.length_take, Nat.min_eq_left (by omega), List.drop_of_length_le (by rw [List.length_take]; omega), show i + 1 + vs.length - i = vs.length + 1 by omega, List.drop_succ_cons, List.drop_drop, List.nil_append]
      congr 1
      omega
    rw [e1, e2] at ih
    simp only [List.length_cons, List.append_assoc, List.singleton_append] at ih ⊢
    exact ih
section
variable {P : Program} {N : Nat} {ds : List Deferred} {Q : Post} {l : Env} {w : World} {ops : Array Oper} {rest : List Oper} {x y : Operand} {ty t : TypeId} {pos : String} {aft : Array Edge} {d n c : Nat}
/-- copy(b[i:], s) where it has room -/
theorem scpW {e tx : TypeId} {s : List UInt8} {i : Nat} {a : Option Addr} {xs : List Value} (hx : ev l x = some (sliced a i n c 1)) (hy : ev l y = some (str s)) (hu : P.underlying t = some (.slice e)) (hi : (P.info? e).map (·.size) = some 1) (hR : Row w e 1 (.slice a n c) n xs) (hl : i + s.length ≤ n) (hd : Nat.blt d N = true)
    (h : ∀ w', Row w' e 1 (.slice a n c) n (xs.take i ++ s.map bv ++ xs.drop (i + s.length)) → Chg (fun k => (Value.slice a n c).ownBlock = some k) w w' → WL P N ds ops Q rest ((d, .int .i64 s.length) :: l) w') :
    WL P N ds ops Q (⟨some d, .call { callee := .builtin .copy, args := #[x, y], argTypes := #[t, tx] }, ty, pos, aft, none⟩ :: rest) l w := by
  obtain ⟨q, hq, hq1⟩ := Option.map_eq_some_iff.1 hi
  have e1 : (Builtin.lenOf (str s)).run P w = .ok s.length w := by simp [Builtin.lenOf, str]; rfl
  have hfc : (Builtin.firstCells 1 s.length (str s)).run P w = .ok (s.map bv).toArray w := by
    simp [Builtin.firstCells, str]
    exact fun _ _ => rfl
  have hmin : Nat.min s.length (n - i) = s.length := Nat.min_eq_left (by omega)
  have key : ∀ w', (match (if c = i then a else a.map (·.add (i * 1))) with | some b => (storeCells b (s.map bv)).run P w | none => .ok () w) = .ok () w' → Row w' e 1 (.slice a n c) n (xs.take i ++ s.map bv ++ xs.drop (i + s.length)) → Chg (fun k => (Value.slice a n c).ownBlock = some k) w w' →
      WL P N ds ops Q (⟨some d, .call { callee := .builtin .copy, args := #[x, y], argTypes := #[t, tx] }, ty, pos, aft, none⟩ :: rest) l w := fun w' hst hR' hC => by
    have hr : (Builtin.copy_ #[t, tx] ty #[sliced a i n c 1, str s]).run P w = .ok (.int .i64 s.length) w' := by
      unfold Builtin.copy_ sliced
      simp only [List.getElem?_toArray, List.getElem?_cons_zero, List.getElem?_cons_succ, Sem.run_bind, run_underlying hu, Result.andThen_ok, e1, hmin, sizeOf, typeInfo]
      cases hb : (if c = i then a else a.map (·.add (i * 1))) with
      | none =>
        rw [hb] at hst
        injection hst with _ hst
        subst hst
        simp [hq, hq1, hfc, goInt]
      | some b =>
        rw [hb] at hst
        simp [hq, hq1, hfc, hst, goInt]
    refine st (fun ρ hρ => ?_) hd (h _ hR' hC)
    unfold execOp
    simp only [resolve, invoke, builtin, Sem.run_bind, Sem.run_pure, Result.andThen_ok, List.map_toArray, List.map_cons, List.map_nil, hρ _ _ hx, hρ _ _ hy, hr]
  rcases Nat.eq_zero_or_pos s.length with h0 | h0
  · obtain rfl : s = [] := List.eq_nil_of_length_eq_zero h0
    refine key w ?_ (by simpa using hR) (Chg.refl _ _)
    split <;> rfl
  · obtain ⟨g, off, cap, hv, hg, h1, h2, hc, hf⟩ := hR.form (by omega)
    injection hv with ea _ ec
    subst ea ec
    have hlen := hR.1
    have hst := run_storeCells_cells (P := P) g (off + i) (s.map bv) 0 w (fun j hj => by
      rw [List.length_map] at hj
      rw [show off + i + 0 + j = off + (i + j) by omega, hc (i + j) _ (List.getElem?_eq_getElem (by omega))]
      rfl) (fun j hj => by
      rw [List.length_map] at hj
      rw [show off + i + 0 + j = off + (i + j) by omega]
      exact hf (i + j) (by omega)) (bv_one s)
    rw [Nat.add_zero] at hst
    obtain ⟨k1, k2, k3, k4, k5⟩ := setCells_keep g (s.map bv) (off + i) w
    refine key (w.setCells g (off + i) (s.map bv)) ?_ ?_ ⟨k1, k2, k3, by omega, fun k _ hk => k5 k (by rintro rfl; exact hk (by simp [Value.ownBlock]))⟩
    · rw [if_neg (by omega)]
      simp only [Option.map_some, Addr.add_mid, Nat.mul_one]
      exact hst
    · have := hR.stores (s.map bv) i (by rw [List.length_map]; omega)
      rwa [List.length_map] at this
end
end Go.Proofs.YtnijmegalgoipaaDoor
