/- Append, once more: what was appended to still reads as it did. And a store into a row. -/
import Derived.Test.YtkfngeckojobbaaDoorMem2
namespace Go.Proofs.YtkfngeckojobbaaDoor
open Go.RowKit
theorem run_append_row2 {P : Program} (w : World) (t tx ty e : TypeId) (i : TypeInfo) (z : Value) (size bytes : Nat) (ht : P.underlying t = some (.slice e)) (hi : P.info? e = some i) (hz : i.zero = some z)
    (hsize : i.size = size) (hby : i.bytes = bytes) (hzs : z.cells.size = size) (_hsz : 0 < size)
    (v : Value) (n : Nat) (xs : List Value) (hown : Row w e size v n xs) (x : Value) (m : Nat) (news : List Value) (hs : Src P size tx x m news w)
    (h63 : n + m ≤ maxLen) (hbytes : (n + m) * bytes ≤ 140737488355328) :
    ∃ v' w', (Builtin.append_ #[t, tx] ty #[v, x]).run P w = .ok v' w' ∧ Row w' e size v' (n + m) (xs ++ news) ∧ Chg (fun k => v.ownBlock = some k) w w' ∧
      (v'.ownBlock = v.ownBlock ∨ v'.ownBlock = some w.heap.size) ∧ Row w' e size v n xs := by
  subst hsize
  subst hby
  have hsmall : n + m ≤ 9223372036854775807 := by simp only [maxLen] at h63; omega
  have hlen : (xs ++ news).length = (n + m) * i.size := by rw [List.length_append, hown.1, hs.newsLen, Nat.add_mul]
  have grown : ∀ (old : Nat), old < n + m →
      Row (w.drew.alloc (.cells ((xs ++ news).toArray ++ Builtin.zeroCells z.cells (grownCap w (n + m) old e - (n + m))) e)) e i.size
        (.slice (some ⟨w.heap.size, 0, none⟩) (n + m) (grownCap w (n + m) old e)) (n + m) (xs ++ news) := by
    intro old ho
    have hge := grownCap_ge w (n + m) old e
    have hcm : grownCap w (n + m) old e ≤ maxLen := grownCap_le_maxLen w (n + m) old e h63
    refine ⟨hlen, .inr ⟨w.heap.size, 0, _, _, (0, 0), rfl, heap_alloc_new w.drew _, hge, hcm, ?_, ?_, fun j _ => by simp⟩⟩
    · simp only [Array.size_append, List.size_toArray, size_zeroCells, hzs, hlen, ← Nat.add_mul]
      rw [show n + m + (grownCap w (n + m) old e - (n + m)) = grownCap w (n + m) old e from by omega]
      omega
    · simp only [Array.toList_append, List.drop_zero]
      rw [← hlen]
      exact List.take_left
  have hgc : ∀ o : Obj, Chg (fun k => v.ownBlock = some k) w (w.drew.alloc o) := fun o => ((Chg.refl _ w).drew).alloc o
  rcases hown.2 with ⟨rfl, rfl⟩ | ⟨g, off, cap, cur, fz, rfl, hg, hnc, hcm, hcs, htake, hfz⟩
  · have hx : xs = [] := List.eq_nil_of_length_eq_zero (by simpa using hown.1)
    subst hx
    by_cases hm : m = 0
    · subst hm
      have hn : news = [] := List.eq_nil_of_length_eq_zero (by simpa using hs.newsLen)
      subst hn
      refine ⟨.slice none 0 0, w, ?_, Row.nil w e i.size, Chg.refl _ w, .inl rfl, Row.nil w e i.size⟩
      rcases hs.kind with ⟨e', hk⟩ | hk <;> simp [Builtin.append_, run_underlying ht, run_underlying hk, sizeOf, typeInfo, hi, hs.len, hs.cells]
    · have hr := run_append_grow_src (P := P) w t tx ty e i z ht hi hz none 0 0 [] (by simp [Builtin.firstCells]) x m news hs (by omega) (by simp only [Nat.zero_add] at *; omega) (growslice_fits (by omega) hbytes)
      exact ⟨_, _, hr, grown 0 (by omega), hgc _, .inr rfl, Row.nil _ e i.size⟩
  · by_cases hroom : n + m ≤ cap
    · have hin : off + n * i.size + news.length ≤ cur.size := by
        rw [hs.newsLen]
        have : n * i.size + m * i.size ≤ cap * i.size := by rw [← Nat.add_mul]; exact Nat.mul_le_mul_right _ hroom
        omega
      have hr := run_append_room_src (P := P) w t tx ty e i ht hi g off n cap x m news hs hroom
        (fun j hj => by rw [cell_of_row w g _ cur e fz hg, Array.getElem?_eq_getElem (by omega)]; rfl) (fun j hj => by
          have := hfz (off + n * i.size + j) (by omega)
          simp only [World.frozen?, hg]
          simp only [Bool.and_eq_false_iff, decide_eq_false_iff_not]
          omega)
      obtain ⟨cur', e1, e2, e3, e4⟩ := setCells_blk g news (off + n * i.size) w cur e fz hg
      obtain ⟨k1, k2, k3, k4, k5⟩ := setCells_keep g news (off + n * i.size) w
      refine ⟨_, _, hr, ⟨hlen, .inr ⟨g, off, cap, cur', fz, rfl, e1, hroom, hcm, by omega, ?_, fun j hj => hfz j (by omega)⟩⟩, ⟨k1, k2, k3, by omega, fun k _ hk => k5 k (by rintro rfl; exact hk (by simp [Value.ownBlock]))⟩, .inl (by simp [Value.ownBlock]), ?_⟩
      rotate_left
      · refine ⟨hown.1, .inr ⟨g, off, cap, cur', fz, rfl, e1, hnc, hcm, by omega, ?_, fun j hj => hfz j (by omega)⟩⟩
        rw [← htake]
        apply List.ext_getElem?
        intro j
        rw [List.getElem?_take, List.getElem?_take]
        split
        · rw [List.getElem?_drop, List.getElem?_drop, Array.getElem?_toList, Array.getElem?_toList, e3 (off + j) (by omega)]
        · rfl
      have hxl := hown.1
      have hnl := hs.newsLen
      have hsum : (n + m) * i.size = n * i.size + m * i.size := Nat.add_mul _ _ _
      apply List.ext_getElem?
      intro j
      rw [List.getElem?_take]
      by_cases hj : j < (n + m) * i.size
      · rw [if_pos hj, List.getElem?_drop, Array.getElem?_toList]
        by_cases hjn : j < n * i.size
        · rw [e3 (off + j) (by omega), List.getElem?_append_left (by omega), ← htake, List.getElem?_take, if_pos hjn, List.getElem?_drop, Array.getElem?_toList]
        · rw [List.getElem?_append_right (by omega)]
          have := e4 (j - n * i.size) (by omega) (by omega)
          rw [show off + n * i.size + (j - n * i.size) = off + j from by omega] at this
          rw [this, hxl]
      · rw [if_neg hj]
        symm
        rw [List.getElem?_eq_none]
        omega
    · have hold : (Builtin.firstCells i.size n (.slice (some ⟨g, off, none⟩) n cap)).run P w.drew = .ok xs.toArray w.drew :=
        run_firstCells_some w.drew i.size n _ n cap xs hown.1 (fun j u hu => by
          rw [Addr.add_lit]
          show w.cell? _ = _
          rw [cell_of_row w g (off + j) cur e fz hg]
          rw [← htake, List.getElem?_take] at hu
          split at hu
          · rw [List.getElem?_drop] at hu; simpa using hu
          · cases hu)
      have hr := run_append_grow_src (P := P) w t tx ty e i z ht hi hz (some ⟨g, off, none⟩) n cap xs hold x m news hs (by omega) (by omega) (growslice_fits (by omega) hbytes)
      exact ⟨_, _, hr, grown cap (by omega), hgc _, .inr rfl, (hown.drew.alloc _)⟩

theorem wp_append_row2 {P : Program} (w : World) {o : Oper} {a : Act} {K : Act → World → Prop} {Q : Exit → Act → World → Prop} (s x : Operand) (t tx : TypeId)
    (ho : o.op = .call { callee := .builtin .append, args := #[s, x], argTypes := #[t, tx] })
    (e : TypeId) (i : TypeInfo) (z : Value) (size bytes : Nat) (ht : P.underlying t = some (.slice e)) (hi : P.info? e = some i) (hz : i.zero = some z)
    (hsize : i.size = size) (hby : i.bytes = bytes) (hzs : z.cells.size = size) (hsz : 0 < size)
    (v : Value) (n : Nat) (xs : List Value) (hs : a.eval s = v) (hown : Row w e size v n xs)
    (xv : Value) (m : Nat) (news : List Value) (hx : a.eval x = xv) (hsrc : Src P size tx xv m news w)
    (h63 : n + m ≤ maxLen) (hbytes : (n + m) * bytes ≤ 140737488355328)
    (h : ∀ v' w', Row w' e size v' (n + m) (xs ++ news) → Chg (fun k => v.ownBlock = some k) w w' → (v'.ownBlock = v.ownBlock ∨ v'.ownBlock = some w.heap.size) → Row w' e size v n xs → K (a.put o.dst v') w') : o.wp P a w K Q := by
  obtain ⟨v', w', hr, h2, h3, h4, h5⟩ := run_append_row2 (P := P) w t tx o.type e i z size bytes ht hi hz hsize hby hzs hsz v n xs hown xv m news hsrc h63 hbytes
  unfold Oper.wp execOp
  simp only [ho, resolve, invoke, builtin, Sem.run_bind, Sem.run_pure, Result.andThen_ok, List.map_toArray, List.map_cons, List.map_nil, hs, hx, hr]
  exact h v' w' h2 h3 h4 h5

theorem Row.at_ {w : World} {e : TypeId} {n cap g o j : Nat} {xs : List Value} {u : Value} (h : Row w e 1 (.slice (some ⟨g, o, none⟩) n cap) n xs) (hx : xs[j]? = some u) : w.cell? ⟨g, o + j, none⟩ = some u := by
  have hj : j < n := by
    have := h.1
    rcases Nat.lt_or_ge j n with hj | hj
    · exact hj
    · rw [List.getElem?_eq_none (by omega)] at hx; cases hx
  obtain ⟨g', o', cap', hv, _, _, _, hc, _⟩ := h.form (by omega)
  injection hv with ha _ _
  injection ha with ha
  injection ha with hg ho
  subst hg
  subst ho
  exact hc j u hx
theorem Reads.at_ {w : World} {size n cap g o j : Nat} {xs : List Value} {u : Value} (h : Reads w size (.slice (some ⟨g, o, none⟩) n cap) n xs) (hn : 0 < n) (hx : xs[j]? = some u) : w.cell? ⟨g, o + j, none⟩ = some u := by
  obtain ⟨_, a, c, hv, _, _, h5⟩ := h
  injection hv with ha _ _
  obtain ⟨g', off, e, _, hc⟩ := h5 hn
  rw [← ha] at e
  injection e with e
  injection e with hg ho
  subst hg
  subst ho
  exact hc j u hx
/-- the first elements of a row -/
theorem Row.firsts {w : World} {e : TypeId} {n cap g o m : Nat} {xs : List Value} (h : Row w e 1 (.slice (some ⟨g, o, none⟩) n cap) n xs) (hm : m ≤ n) (h0 : 0 < cap) : Row w e 1 (.slice (some ⟨g, o, none⟩) m cap) m (xs.take m) := by
  have := h.cut rfl 0 m (by omega) hm
  unfold sliced at this
  rw [if_neg (by omega)] at this
  simpa [Addr.add] using this
/-- a slice that is only read, as what is appended -/
theorem Reads.src {P : Program} {w : World} {e' tx : TypeId} {size : Nat} {v : Value} {n : Nat} {xs : List Value} (h : Reads w size v n xs) (hn : 0 < n) (hk : P.underlying tx = some (.slice e')) (h1 : ∀ u ∈ xs, u.oneCell' = true) : Src P size tx v n xs w := by
  obtain ⟨hl, a, cap, rfl, _, _, h5⟩ := h
  obtain ⟨g, off, rfl, _, hc⟩ := h5 hn
  exact Src.ofSlice w hk ⟨g, off, none⟩ n cap xs hl (fun j u hu => by rw [Addr.add_lit]; exact hc j u hu) h1
/-- a store into a row of cells -/
theorem Row.store {w : World} {e : TypeId} {n cap g o : Nat} {xs : List Value} (h : Row w e 1 (.slice (some ⟨g, o, none⟩) n cap) n xs) (j : Nat) (hj : j < n) (u : Value) : Row (w.setCell ⟨g, o + j, none⟩ u) e 1 (.slice (some ⟨g, o, none⟩) n cap) n (xs.set j u) := by
  refine ⟨by rw [List.length_set]; exact h.1, ?_⟩
  rcases h.2 with ⟨h0, _⟩ | ⟨g', off, cap', cur, fz, hv, hg, h1, h2, h3, h4, h5⟩
  · cases h0
  · injection hv with ha _ hc
    subst hc
    injection ha with ha
    injection ha with hg' ho
    subst hg'
    subst ho
    refine .inr ⟨g, o, cap, cur.setIfInBounds (o + j) u, fz, rfl, by simp [World.setCell, Array.getElem?_modify, hg], h1, h2, by simpa using h3, ?_, fun j hj => h5 j (by simpa using hj)⟩
    rw [← h4]
    apply List.ext_getElem?
    intro i
    have hl := h.1
    rw [← h4] at hl
    rw [List.getElem?_take, List.getElem?_set]
    simp only [Nat.mul_one] at *
    by_cases hi : i < n
    · rw [if_pos hi, List.getElem?_drop, Array.getElem?_toList, Array.getElem?_setIfInBounds]
      by_cases hij : j = i
      · subst hij
        rw [if_pos rfl, if_pos (by omega), if_pos rfl, if_pos (by omega)]
      · rw [if_neg (by omega), if_neg hij, List.getElem?_take, if_pos hi, List.getElem?_drop, Array.getElem?_toList]
    · rw [if_neg hi, if_neg (by omega), List.getElem?_take, if_neg hi]
end Go.Proofs.YtkfngeckojobbaaDoor
