/- Append, once more: a slice that begins at its block's head still does. -/
import Derived.Test.YtnijmegalgoipaaGreatDoorOps3
namespace Go.Proofs.YtnijmegalgoipaaGreatDoor
open Go.RowKit
/-- the slice begins at its block's head -/
def Off0 (v : Value) : Prop := ∀ a n c, v = .slice (some a) n c → a.off = 0
theorem Off0.mk (g n c : Nat) : Off0 (.slice (some ⟨g, 0, none⟩) n c) := by
  intro a n' c' h
  injection h with h _ _
  injection h with h
  rw [← h]
theorem Off0.nil (c n : Nat) : Off0 (.slice none n c) := by intro a n' c' h; cases h
theorem run_append_row0 {P : Program} (w : World) (t tx ty e : TypeId) (i : TypeInfo) (z : Value) (size bytes : Nat) (ht : P.underlying t = some (.slice e)) (hi : P.info? e = some i) (hz : i.zero = some z)
    (hsize : i.size = size) (hby : i.bytes = bytes) (hzs : z.cells.size = size) (_hsz : 0 < size)
    (v : Value) (n : Nat) (xs : List Value) (hown : Row w e size v n xs) (x : Value) (m : Nat) (news : List Value) (hs : Src P size tx x m news w)
    (h63 : n + m ≤ maxLen) (hbytes : (n + m) * bytes ≤ 140737488355328) :
    ∃ v' w', (Builtin.append_ #[t, tx] ty #[v, x]).run P w = .ok v' w' ∧ Row w' e size v' (n + m) (xs ++ news) ∧ Chg (fun k => v.ownBlock = some k) w w' ∧
      (v'.ownBlock = v.ownBlock ∨ v'.ownBlock = some w.heap.size) ∧ (Off0 v → Off0 v') := by
  subst hsize
  subst hby
  have hsmall : n + m ≤ 9223372036854775807 := by simp only [maxLen] at h63; omega
  have hlen : (xs ++ news).length = (n + m) * i.size := by rw [List.length_append, hown.1, hs.newsLen, Nat.add_mul]
  have grown : ∀ (old : Nat), old < n + m →
      Row (w.drew.alloc (.cells ((xs ++ news).toArray ++ Builtin.zeroCells z.cells (grownCap w (n + m) old e - (n + m))) e)) e i.size
        (.slice (some ⟨w.heap.size, 0, none⟩) (n + m) (grownCap w (n + m) old e)) (n + m) (xs ++ news) := by
    intro old ho
    have hge := grownCap_ge w (n + m) old e
    have hcm : grownCap w (n + m) old e ≤ maxLen := grownCap_le_maxLen w (n + m) old e h63
    refine ⟨hlen, .inr ⟨w.heap.size, 0, _, _, (0, 0), rfl, heap_alloc_new w.drew _, hge, hcm, ?_, ?_, fun j _ => by simp⟩⟩
    · simp only [Array.size_append, List.size_toArray, size_zeroCells, hzs, hlen, ← Nat.add_mul]
      rw [show n + m + (grownCap w (n + m) old e - (n + m)) = grownCap w (n + m) old e from by omega]
      omega
    · simp only [Array.toList_append, List.drop_zero]
      rw [← hlen]
      exact List.take_left
  have hgc : ∀ o : Obj, Chg (fun k => v.ownBlock = some k) w (w.drew.alloc o) := fun o => ((Chg.refl _ w).drew).alloc o
  rcases hown.2 with ⟨rfl, rfl⟩ | ⟨g, off, cap, cur, fz, rfl, hg, hnc, hcm, hcs, htake, hfz⟩
  · have hx : xs = [] := List.eq_nil_of_length_eq_zero (by simpa using hown.1)
    subst hx
    by_cases hm : m = 0
    · subst hm
      have hn : news = [] := List.eq_nil_of_length_eq_zero (by simpa using hs.newsLen)
      subst hn
      refine ⟨.slice none 0 0, w, ?_, Row.nil w e i.size, Chg.refl _ w, .inl rfl, fun h => h⟩
      rcases hs.kind with ⟨e', hk⟩ | hk <;> simp [Builtin.append_, run_underlying ht, run_underlying hk, sizeOf, typeInfo, hi, hs.len, hs.cells]
    · have hr := run_append_grow_src (P := P) w t tx ty e i z ht hi hz none 0 0 [] (by simp [Builtin.firstCells]) x m news hs (by omega) (by simp only [Nat.zero_add] at *; omega) (growslice_fits (by omega) hbytes)
      exact ⟨_, _, hr, grown 0 (by omega), hgc _, .inr rfl, fun _ => Off0.mk _ _ _⟩
  · by_cases hroom : n + m ≤ cap
    · have hin : off + n * i.size + news.length ≤ cur.size := by
        rw [hs.newsLen]
        have : n * i.size + m * i.size ≤ cap * i.size := by rw [← Nat.add_mul]; exact Nat.mul_le_mul_right _ hroom
        omega
      have hr := run_append_room_src (P := P) w t tx ty e i ht hi g off n cap x m news hs hroom
        (fun j hj => by rw [cell_of_row w g _ cur e fz hg, Array.getElem?_eq_getElem (by omega)]; rfl) (fun j hj => by
          have := hfz (off + n * i.size + j) (by omega)
          simp only [World.frozen?, hg]
          simp only [Bool.and_eq_false_iff, decide_eq_false_iff_not]
          omega)
      obtain ⟨cur', e1, e2, e3, e4⟩ := setCells_blk g news (off + n * i.size) w cur e fz hg
      obtain ⟨k1, k2, k3, k4, k5⟩ := setCells_keep g news (off + n * i.size) w
      refine ⟨_, _, hr, ⟨hlen, .inr ⟨g, off, cap, cur', fz, rfl, e1, hroom, hcm, by omega, ?_, fun j hj => hfz j (by omega)⟩⟩, ⟨k1, k2, k3, by omega, fun k _ hk => k5 k (by rintro rfl; exact hk (by simp [Value.ownBlock]))⟩, .inl (by simp [Value.ownBlock]), fun h => by obtain rfl : off = 0 := h _ _ _ rfl; exact Off0.mk _ _ _⟩
      have hxl := hown.1
      have hnl := hs.newsLen
      have hsum : (n + m) * i.size = n * i.size + m * i.size := Nat.add_mul _ _ _
      apply List.ext_getElem?
      intro j
      rw [List.getElem?_take]
      by_cases hj : j < (n + m) * i.size
      · rw [if_pos hj, List.getElem?_drop, Array.getElem?_toList]
        by_cases hjn : j < n * i.size
        · rw [e3 (off + j) (by omega), List.getElem?_append_left (by omega), ← htake, List.getElem?_take, if_pos hjn, List.getElem?_drop, Array.getElem?_toList]
        · rw [List.getElem?_append_right (by omega)]
          have := e4 (j - n * i.size) (by omega) (by omega)
          rw [show off + n * i.size + (j - n * i.size) = off + j from by omega] at this
          rw [this, hxl]
      · rw [if_neg hj]
        symm
        rw [List.getElem?_eq_none]
        omega
    · have hold : (Builtin.firstCells i.size n (.slice (some ⟨g, off, none⟩) n cap)).run P w.drew = .ok xs.toArray w.drew :=
        run_firstCells_some w.drew i.size n _ n cap xs hown.1 (fun j u hu => by
          rw [Addr.add_lit]
          show w.cell? _ = _
          rw [cell_of_row w g (off + j) cur e fz hg]
          rw [← htake, List.getElem?_take] at hu
          split at hu
          · rw [List.getElem?_drop] at hu; simpa using hu
          · cases hu)
      have hr := run_append_grow_src (P := P) w t tx ty e i z ht hi hz (some ⟨g, off, none⟩) n cap xs hold x m news hs (by omega) (by omega) (growslice_fits (by omega) hbytes)
      exact ⟨_, _, hr, grown cap (by omega), hgc _, .inr rfl, fun _ => Off0.mk _ _ _⟩


section
variable {P : Program} {N : Nat} {ds : List Deferred} {Q : Post} {l : Env} {w : World} {ops : Array Oper} {rest : List Oper} {ty t tx : TypeId} {pos : String} {aft : Array Edge} {d n : Nat} {v u : Value} {x y : Operand}
theorem sapp0 {e : TypeId} {z : Value} {size bytes : Nat} {xs news : List Value} {q : Nat} (hx : ev l x = some v) (hy : ev l y = some u) (ht : P.underlying t = some (.slice e)) (hinfo : (P.info? e).map (fun i => (i.zero, i.size, i.bytes)) = some (some z, size, bytes)) (hzs : z.cells.size = size) (hsz : 0 < size) (hown : Row w e size v n xs) (hsrc : Src P size tx u q news w)
    (h63 : n + q ≤ maxLen) (hbytes : (n + q) * bytes ≤ 140737488355328) (hd : Nat.blt d N = true)
    (h : ∀ v' w', Row w' e size v' (n + q) (xs ++ news) → Chg (fun k => v.ownBlock = some k) w w' → (v'.ownBlock = v.ownBlock ∨ v'.ownBlock = some w.heap.size) → (Off0 v → Off0 v') → WL P N ds ops Q rest ((d, v') :: l) w') :
    WL P N ds ops Q (⟨some d, .call { callee := .builtin .append, args := #[x, y], argTypes := #[t, tx] }, ty, pos, aft, none⟩ :: rest) l w := by
  obtain ⟨i, hi, hz, hsize, hby⟩ := info_of hinfo
  obtain ⟨v', w', hr, h2, h3, h4, h5⟩ := run_append_row0 (P := P) w t tx ty e i z size bytes ht hi hz hsize hby hzs hsz v n xs hown u q news hsrc h63 hbytes
  refine st (fun ρ hρ => ?_) hd (h v' w' h2 h3 h4 h5)
  unfold execOp
  simp only [resolve, invoke, builtin, Sem.run_bind, Sem.run_pure, Result.andThen_ok, List.map_toArray, List.map_cons, List.map_nil, hρ _ _ hx, hρ _ _ hy, hr]
/-- a call of a function without a body -/
theorem scx {f : FuncId} {args : List Operand} {ats : Array TypeId} (vs : List Value) (hvs : evs l args = some vs) (hr : (callFunc f vs.toArray).run P w = .ok (.value v) w) : X P l (.call { callee := .value (.func f), args := args.toArray, argTypes := ats }) ty w v w := fun ρ hρ => by
  have hvs' := evs_map hρ hvs
  have hf := hρ (.func f) _ rfl
  unfold execOp
  simp only [resolve, invoke, hf]
  simp [Deferred.ofValue]
  rw [show List.map ρ args = vs from hvs']
  exact hr
end
end Go.Proofs.YtnijmegalgoipaaGreatDoor
