/- Operations on memory, over what is known of the frame. -/
import Derived.Test.YtnijmegalgoipaaGreatDoorOps
namespace Go.Proofs.YtnijmegalgoipaaGreatDoor
open Go.RowKit

theorem Blk.bel {w w' : World} {g : Nat} {t : TypeId} {cs : Array Value} (h : Blk w g t cs) (hb : Below w.heap.size w w') : Blk w' g t cs := h.belowAll hb
theorem Row.bel {w w' : World} {e : TypeId} {size : Nat} {v : Value} {n : Nat} {xs : List Value} (h : Row w e size v n xs) (hb : Below w.heap.size w w') : Row w' e size v n xs := h.belowAll hb
theorem Reads.bel {w w' : World} {size : Nat} {v : Value} {n : Nat} {xs : List Value} (h : Reads w size v n xs) (hb : Below w.heap.size w w') : Reads w' size v n xs := h.belowAll hb
theorem Blk.range {w : World} {g : Nat} {t : TypeId} {cs : Array Value} (h : Blk w g t cs) : w.rangeAt g 0 cs.toList := fun j v hv => by
  rw [Nat.zero_add, h.cell]
  simpa using hv
/-- a piece of a slice's cells -/
theorem Reads.range {w : World} {size : Nat} {g o n c : Nat} {xs : List Value} (h : Reads w size (.slice (some ⟨g, o, none⟩) n c) n xs) (j : Nat) (hj : j < n) : w.rangeAt g (o + j * size) ((xs.drop (j * size)).take size) := by
  obtain ⟨hl, a, cap, hv, _, _, hr⟩ := h
  injection hv with e1 _ _
  obtain ⟨g', o', ha, _, hc⟩ := hr (by omega)
  rw [ha] at e1
  injection e1 with e1
  injection e1 with e2 e3
  subst e2 e3
  intro i v hv
  rw [List.getElem?_take] at hv
  split at hv
  · rw [List.getElem?_drop] at hv
    rw [Nat.add_assoc]
    exact hc _ _ hv
  · cases hv
theorem Reads.cellAt {w : World} {size : Nat} {g o n c : Nat} {xs : List Value} (h : Reads w size (.slice (some ⟨g, o, none⟩) n c) n xs) (hn : 0 < n) {j : Nat} {v : Value} (hv : xs[j]? = some v) : w.cell? ⟨g, o + j, none⟩ = some v := by
  obtain ⟨hl, a, cap, hv', _, _, hr⟩ := h
  injection hv' with e1 _ _
  obtain ⟨g', o', ha, _, hc⟩ := hr hn
  rw [ha] at e1
  injection e1 with e1
  injection e1 with e2 e3
  subst e2 e3
  exact hc _ _ hv
/-- the shape of a slice that is read -/
theorem Reads.shape {w : World} {size n : Nat} {v : Value} {xs : List Value} (h : Reads w size v n xs) : ∃ a c, v = .slice a n c ∧ n ≤ c ∧ c ≤ 9223372036854775807 := by
  obtain ⟨_, a, cap, hv, h1, h2, _⟩ := h
  exact ⟨a, cap, hv, h1, h2⟩
theorem Reads.some_ {w : World} {size n : Nat} {v : Value} {xs : List Value} (h : Reads w size v n xs) (hn : 0 < n) : ∃ g o c, v = .slice (some ⟨g, o, none⟩) n c ∧ g < w.heap.size := by
  obtain ⟨_, a, cap, hv, _, _, hr⟩ := h
  obtain ⟨g, o, ha, hg, _⟩ := hr hn
  subst ha
  exact ⟨g, o, cap, hv, hg⟩

section
variable {P : Program} {N : Nat} {ds : List Deferred} {Q : Post} {l : Env} {w w' : World} {ops : Array Oper} {rest : List Oper} {ty t t' : TypeId} {pos : String} {aft : Array Edge} {d : Nat} {v u : Value} {x y : Operand} {k : IntKind} {m : Int} {g o n c : Nat}
/- ---------- places ---------- -/
theorem X.fld {fs : Array Field} {i : Nat} {f : Field} {off : Nat} {q : TypeInfo} (hx : ev l x = some (.pointer (some ⟨g, o, none⟩))) (hu : P.underlying t = some (.struct fs)) (hf : fs[i]? = some f) (hi : P.info? f.type = some q) (h0 : q.size ≠ 0) (ho : f.offset = off) :
    X P l (.fieldAddr t x i) ty w (.pointer (some ⟨g, o + off, none⟩)) w := fun ρ hρ => by
  unfold execOp
  simp [hρ _ _ hx, Instr.fieldAt, run_underlying hu, hf, Instr.sureAddr, fieldPlace, sizeOf, typeInfo, hi, h0, ho, Addr.add_mid]
/-- the address of a field, told by its run -/
theorem X.fa {off i : Nat} (hr : ∀ g o, (Instr.fieldAt t (.pointer (some ⟨g, o, none⟩)) i).run P w = .ok (.pointer (some ⟨g, o + off, none⟩)) w) (hx : ev l x = some (.pointer (some ⟨g, o, none⟩))) :
    X P l (.fieldAddr t x i) ty w (.pointer (some ⟨g, o + off, none⟩)) w := fun ρ hρ => by
  unfold execOp
  simp only [hρ _ _ hx, Sem.run_bind, hr, Result.andThen_ok, Sem.run_pure]
theorem X.idxA {e : TypeId} {size j : Nat} (hx : ev l x = some (.slice (some ⟨g, o, none⟩) n c)) (hy : ev l y = some (.int k m)) (hu : P.underlying t = some (.slice e)) (hi : (P.info? e).map (·.size) = some size) (hm : m = (j : Int)) (hj : j < n) :
    X P l (.indexAddr t x y) ty w (.pointer (some ⟨g, o + j * size, none⟩)) w := fun ρ hρ => by
  subst hm
  unfold execOp
  obtain ⟨q, hq, hs⟩ := Option.map_eq_some_iff.1 hi
  simp [hρ _ _ hx, hρ _ _ hy, Instr.indexAt, run_underlying hu, asIntOf, sizeOf, typeInfo, hq, hs, Addr.add_mid]
  intro h; omega
theorem X.idxArr {e : TypeId} {size j len : Nat} (hx : ev l x = some (.pointer (some ⟨g, o, none⟩))) (hy : ev l y = some (.int k m)) (hu : P.underlying t = some (.array len e)) (hi : (P.info? e).map (·.size) = some size) (hm : m = (j : Int)) (hj : j < len) :
    X P l (.indexAddr t x y) ty w (.pointer (some ⟨g, o + j * size, none⟩)) w := fun ρ hρ => by
  subst hm
  unfold execOp
  obtain ⟨q, hq, hs⟩ := Option.map_eq_some_iff.1 hi
  simp [hρ _ _ hx, hρ _ _ hy, Instr.indexAt, run_underlying hu, asIntOf, Instr.sureAddr, sizeOf, typeInfo, hq, hs, Addr.add_mid]
  intro h; omega
/- ---------- loads ---------- -/
theorem X.ld {de : TypeDesc} (hx : ev l x = some (.pointer (some ⟨g, o, none⟩))) (hu : P.underlying t = some de) (hd : de.isRow = false) (hc : w.cell? ⟨g, o, none⟩ = some v) : X P l (.load t x) ty w v w := fun ρ hρ => by
  unfold execOp
  have : (loadVar t ⟨g, o, none⟩).run P w = .ok v w := by
    unfold loadVar isAgg
    cases de <;> simp [TypeDesc.isRow] at hd <;> simp [run_underlying hu, run_load, hc]
  simp [hρ _ _ hx, Instr.loadAt, Instr.sureAddr, this]
/-- a whole struct or array -/
theorem X.ldN {de : TypeDesc} {cs : List Value} (hx : ev l x = some (.pointer (some ⟨g, o, none⟩))) (hu : P.underlying t = some de) (hd : de.isRow = true) (hi : (P.info? t).map (·.size) = some cs.length) (hc : w.rangeAt g o cs) : X P l (.load t x) ty w (.agg cs.toArray) w := fun ρ hρ => by
  unfold execOp
  simp [hρ _ _ hx, Instr.loadAt, Instr.sureAddr, run_loadVar_mid (P := P) w g o t cs de hc hu hd hi]
theorem X.ldB {de : TypeDesc} {bt : TypeId} {cs : Array Value} (hx : ev l x = some (.pointer (some ⟨g, o, none⟩))) (hB : Blk w g bt cs) (hu : P.underlying t = some de) (hd : de.isRow = false) (hc : cs[o]? = some v) : X P l (.load t x) ty w v w :=
  X.ld hx hu hd (by rw [hB.cell]; exact hc)
theorem X.ldBN {de : TypeDesc} {bt : TypeId} {cs : Array Value} (hx : ev l x = some (.pointer (some ⟨g, 0, none⟩))) (hB : Blk w g bt cs) (hu : P.underlying t = some de) (hd : de.isRow = true) (hi : (P.info? t).map (·.size) = some cs.size) : X P l (.load t x) ty w (.agg cs) w := by
  have := X.ldN (ty := ty) (cs := cs.toList) hx hu hd (by simpa using hi) hB.range
  simpa using this
theorem X.ldL {de : TypeDesc} {bt : TypeId} {cs : Array Value} (hx : ev l x = some (.pointer (some ⟨g, o, none⟩))) (hB : Blk w g bt cs) (hu : P.underlying t = some de) (hd : de.isRow = false) (hc : cs.toList[o]? = some v) : X P l (.load t x) ty w v w :=
  X.ldB hx hB hu hd (by rw [← Array.getElem?_toList]; exact hc)
/- ---------- stores ---------- -/
theorem run_store1 {a : Addr} (ht : (P.info? t).map (·.size) = some 1) (h1 : v.oneCell' = true) (hc : (w.cell? a).isSome = true) (hf : w.frozen? a = false) : (storeVar t a v).run P w = .ok () (w.setCell a v) := by
  obtain ⟨q, hq, hs⟩ := Option.map_eq_some_iff.1 ht
  obtain ⟨u, hu⟩ := Option.isSome_iff_exists.1 hc
  have hcs : v.cells = #[v] := by cases v <;> simp [Value.oneCell'] at h1 <;> rfl
  have ha : a.add 0 = a := by simp [Addr.add]
  have : (store a v).run P w = .ok () (w.setCell a v) := by rw [run_store P w a v .plain h1]; simp [hu, hf]
  have hz : (sizeOf t).run P w = .ok 1 w := by simp [sizeOf, typeInfo, hq, hs]
  unfold storeVar
  simp only [hcs, Sem.run_bind, hz, Result.andThen_ok]
  simp [storeCells, ha, this]
theorem Xs.st (hx : ev l x = some (.pointer (some ⟨g, o, none⟩))) (hy : ev l y = some v) (ht : (P.info? t).map (·.size) = some 1) (h1 : v.oneCell' = true) (hc : (w.cell? ⟨g, o, none⟩).isSome = true) (hf : w.frozen? ⟨g, o, none⟩ = false) :
    Xs P l (.store t x y) ty w (w.setCell ⟨g, o, none⟩ v) := fun ρ hρ => by
  unfold execOp
  simp [hρ _ _ hx, hρ _ _ hy, Instr.storeAt, Instr.sureAddr, run_store1 ht h1 hc hf]
/-- a store of one cell into a block known whole -/
theorem ssB {bt : TypeId} {cs : Array Value} (hx : ev l x = some (.pointer (some ⟨g, o, none⟩))) (hy : ev l y = some v) (hB : Blk w g bt cs) (ht : (P.info? t).map (·.size) = some 1) (h1 : v.oneCell' = true) (ho : o < cs.size)
    (h : ∀ w', Blk w' g bt (cs.setIfInBounds o v) → Chg (fun k => k = g) w w' → WL P N ds ops Q rest l w') : WL P N ds ops Q (⟨none, .store t x y, ty, pos, aft, none⟩ :: rest) l w :=
  ss (Xs.st hx hy ht h1 (by rw [hB.cell, Array.getElem?_eq_getElem ho]; rfl) (hB.frozen o)) (h _ (hB.set_ o v) ((Chg.refl (fun k => k = g) w).setCell (p := ⟨g, o, none⟩) (.inl rfl) v))
theorem ssBN {bt : TypeId} {old cells : Array Value} (hx : ev l x = some (.pointer (some ⟨g, 0, none⟩))) (hy : ev l y = some (.agg cells)) (hB : Blk w g bt old) (hi : (P.info? t).map (·.size) = some cells.size) (hs : old.size = cells.size) (h1 : cells.toList.all (·.oneCell') = true)
    (h : ∀ w', Blk w' g bt cells → Chg (fun k => k = g) w w' → WL P N ds ops Q rest l w') : WL P N ds ops Q (⟨none, .store t x y, ty, pos, aft, none⟩ :: rest) l w :=
  ss (w' := w.setRow g cells) (fun ρ hρ => by
    unfold execOp
    simp only [hρ _ _ hx, hρ _ _ hy, Instr.storeAt, Instr.sureAddr, Sem.run_bind, Sem.run_pure, Result.andThen_ok,
      run_storeVar_row w g bt t old cells hB hi hs (by rw [← Array.all_toList]; exact h1)])
    (h _ (setRow_heap _ _ _ _ _ _ hB) ((Chg.refl (fun k => k = g) w).setRow (.inl rfl) _))
/- ---------- new memory ---------- -/
theorem sal {cs : Array Value} {q : Value} {sz by_ : Nat} (hi : (P.info? t).map (fun i => (i.zero, i.size, i.bytes)) = some (some q, sz, by_)) (hq : q.cells = cs) (hd : Nat.blt d N = true)
    (h : ∀ g w', Blk w' g t cs → w.heap.size ≤ g → Below w.heap.size w w' → g < w'.heap.size → WL P N ds ops Q rest ((d, .pointer (some ⟨g, 0, none⟩)) :: l) w') : WL P N ds ops Q (⟨some d, .alloc t, ty, pos, aft, none⟩ :: rest) l w := by
  refine st (w' := w.alloc (.cells cs t)) (fun ρ _ => ?_) hd (h _ _ (Blk.new w t cs) (Nat.le_refl _) ((Below.refl _ _).alloc (Nat.le_refl _) _) (by simp))
  obtain ⟨i, h1, h2⟩ := Option.map_eq_some_iff.1 hi
  injection h2 with h2 h3
  unfold execOp
  simp [Instr.alloc, zeroValue, typeInfo, h1, h2, newVar, newRow, hq]
theorem salA {cs : Array Value} {sz by_ : Nat} (hi : (P.info? t).map (fun i => (i.zero, i.size, i.bytes)) = some (some (.agg cs), sz, by_)) (hd : Nat.blt d N = true)
    (h : ∀ g w', Blk w' g t cs → w.heap.size ≤ g → Below w.heap.size w w' → g < w'.heap.size → WL P N ds ops Q rest ((d, .pointer (some ⟨g, 0, none⟩)) :: l) w') : WL P N ds ops Q (⟨some d, .alloc t, ty, pos, aft, none⟩ :: rest) l w := sal hi rfl hd h
theorem sal1 {q : Value} {sz by_ : Nat} (hi : (P.info? t).map (fun i => (i.zero, i.size, i.bytes)) = some (some q, sz, by_)) (hq : q.cells = #[q]) (hd : Nat.blt d N = true)
    (h : ∀ g w', Blk w' g t #[q] → w.heap.size ≤ g → Below w.heap.size w w' → g < w'.heap.size → WL P N ds ops Q rest ((d, .pointer (some ⟨g, 0, none⟩)) :: l) w') : WL P N ds ops Q (⟨some d, .alloc t, ty, pos, aft, none⟩ :: rest) l w := sal hi hq hd h
theorem sboxA {cs : Array Value} (hx : ev l x = some (.agg cs)) (hd : Nat.blt d N = true)
    (h : ∀ g w', Blk w' g t cs → w.heap.size ≤ g → Below w.heap.size w w' → g < w'.heap.size → WL P N ds ops Q rest ((d, .pointer (some ⟨g, 0, none⟩)) :: l) w') : WL P N ds ops Q (⟨some d, .box t x, ty, pos, aft, none⟩ :: rest) l w := by
  refine st (w' := w.alloc (.cells cs t)) (fun ρ hρ => ?_) hd (h _ _ (Blk.new w t cs) (Nat.le_refl _) ((Below.refl _ _).alloc (Nat.le_refl _) _) (by simp))
  unfold execOp
  simp [hρ _ _ hx, Instr.box, newVar, newRow, Value.cells]
theorem sbox {cs : Array Value} (hx : ev l x = some v) (hq : v.cells = cs) (hd : Nat.blt d N = true)
    (h : ∀ g w', Blk w' g t cs → w.heap.size ≤ g → Below w.heap.size w w' → g < w'.heap.size → WL P N ds ops Q rest ((d, .pointer (some ⟨g, 0, none⟩)) :: l) w') : WL P N ds ops Q (⟨some d, .box t x, ty, pos, aft, none⟩ :: rest) l w := by
  refine st (w' := w.alloc (.cells cs t)) (fun ρ hρ => ?_) hd (h _ _ (Blk.new w t cs) (Nat.le_refl _) ((Below.refl _ _).alloc (Nat.le_refl _) _) (by simp))
  unfold execOp
  simp [hρ _ _ hx, Instr.box, newVar, newRow, hq]
def evp (l : Env) : List (Nat × Operand) → Option (List (Nat × Value))
  | [] => some []
  | (i, x) :: xs => match ev l x with
    | some v => match evp l xs with
      | some vs => some ((i, v) :: vs)
      | none => none
    | none => none
theorem evp_map {ρ : Operand → Value} (hρ : Knows l ρ) : ∀ {xs : List (Nat × Operand)} {vs : List (Nat × Value)}, evp l xs = some vs → xs.map (fun p => (p.1, ρ p.2)) = vs
  | [], vs, h => by injection h
  | (i, x) :: xs, vs, h => by
    unfold evp at h
    cases hx : ev l x with
    | none => rw [hx] at h; cases h
    | some v =>
      rw [hx] at h
      cases hxs : evp l xs with
      | none => rw [hxs] at h; cases h
      | some us =>
        rw [hxs] at h
        injection h with h
        subst h
        rw [List.map_cons, evp_map hρ hxs, hρ _ _ hx]
theorem X.bld {ps : List (Nat × Operand)} {vs : List (Nat × Value)} (hp : evp l ps = some vs) (hr : (Instr.build t vs.toArray).run P w = .ok v w) : X P l (.build t ps.toArray) ty w v w := fun ρ hρ => by
  unfold execOp
  have := evp_map hρ hp
  simp only [List.map_toArray, Sem.run_bind]
  rw [this, hr]
  rfl
/-- a literal of a slice, told by its run -/
theorem sbs {len e : Nat} {ps : List (Nat × Operand)} {vs : List (Nat × Value)} {cs : Array Value} (size : Nat) (hp : evp l ps = some vs) (hr : (Instr.buildSlice t len vs.toArray).run P w = .ok (.slice (some ⟨w.heap.size, 0, none⟩) len len) (w.alloc (.cells cs e))) (hn : len ≤ maxLen) (hc : cs.size = len * size) (hd : Nat.blt d N = true)
    (h : ∀ g w', Row w' e size (.slice (some ⟨g, 0, none⟩) len len) len cs.toList → w.heap.size ≤ g → Below w.heap.size w w' → WL P N ds ops Q rest ((d, .slice (some ⟨g, 0, none⟩) len len) :: l) w') : WL P N ds ops Q (⟨some d, .buildSlice t len ps.toArray, ty, pos, aft, none⟩ :: rest) l w := by
  refine st (w' := w.alloc (.cells cs e)) (fun ρ hρ => ?_) hd (h _ _ (Row.new w e size len cs hn hc) (Nat.le_refl _) ((Below.refl _ _).alloc (Nat.le_refl _) _))
  unfold execOp
  have := evp_map hρ hp
  simp only [List.map_toArray, Sem.run_bind]
  rw [this, hr]
  rfl
/-- a slice of one element -/
theorem run_buildSlice1 {e : TypeId} {i : TypeInfo} {z : Value} (w : World) (hu : P.underlying t = some (.slice e)) (hi : P.info? e = some i) (hz : i.zero = some z) (hs : v.cells.size = i.size) (hzs : z.cells.size = i.size) (h0 : 0 < i.size) (hle : i.size ≤ 1000) :
    (Instr.buildSlice t 1 #[(0, v)]).run P w = .ok (.slice (some ⟨w.heap.size, 0, none⟩) 1 1) (w.alloc (.cells v.cells e)) := by
  have hfill : ∀ cells : Array Value, cells.size = i.size → Instr.fill (fun i_1 => some (i_1 * i.size, i.size)) cells [(0, v)] = some v.cells := by
    intro cells hc
    unfold Instr.fill
    simp only [Nat.zero_mul, Nat.zero_add]
    rw [if_neg (by simp [hs, hc])]
    unfold Instr.fill
    congr 1
    apply Array.ext_getElem?
    intro j
    have key : ∀ (vs : List Value) (k : Nat) (cs : Array Value), k + vs.length ≤ cs.size → ((vs.zipIdx k).foldl (fun cs x => cs.setIfInBounds x.2 x.1) cs)[j]? = if k ≤ j ∧ j < k + vs.length then vs[j - k]? else cs[j]? := by
      intro vs
      induction vs with
      | nil => intro k cs _; simp; omega
      | cons u us ih =>
        intro k cs hk
        simp only [List.zipIdx_cons, List.foldl_cons]
        rw [ih (k + 1) _ (by simp at hk ⊢; omega)]
        by_cases h1 : k + 1 ≤ j ∧ j < k + 1 + us.length
        · rw [if_pos h1, if_pos (by simp; omega), show j - k = (j - (k + 1)) + 1 by omega, List.getElem?_cons_succ]
        · rw [if_neg h1]
          by_cases h2 : j = k
          · subst h2
            rw [if_pos (by simp)]
            rw [Array.getElem?_setIfInBounds_self]
            simp at hk
            rw [if_pos (by omega)]
            simp
          · rw [if_neg (by simp; omega), Array.getElem?_setIfInBounds_ne (by omega)]
    have := key v.cells.toList 0 cells (by simp; omega)
    simp only [Nat.zero_le, true_and, Nat.zero_add, Nat.sub_zero] at this
    rw [← Array.foldl_toList, Array.toList_zipIdx]
    rw [this]
    by_cases hj : j < v.cells.size
    · rw [if_pos (by simpa using hj)]; simp
    · rw [if_neg (by simpa using hj), Array.getElem?_eq_none (by omega), Array.getElem?_eq_none (by omega)]
  have h1 : ¬ (1 * i.size > 2 ^ 24) := by omega
  have h2 : ¬ (1 * i.size = 0) := by omega
  unfold Instr.buildSlice
  simp only [Sem.run_bind, run_underlying hu, Result.andThen_ok, sizeOf, typeInfo, run_program, hi, Sem.run_pure, if_neg h1, if_neg h2, zeroValue, hz]
  rw [hfill _ (by simp)]
  simp [newRow]
theorem info_of {t : TypeId} {z : Value} {size bytes : Nat} (h : (P.info? t).map (fun i => (i.zero, i.size, i.bytes)) = some (some z, size, bytes)) : ∃ i, P.info? t = some i ∧ i.zero = some z ∧ i.size = size ∧ i.bytes = bytes := by
  obtain ⟨i, hi, h2⟩ := Option.map_eq_some_iff.1 h
  simp only [Prod.mk.injEq] at h2
  exact ⟨i, hi, h2.1, h2.2.1, h2.2.2⟩
theorem sbs1 {e : TypeId} {z : Value} {size bytes : Nat} (hx : ev l x = some v) (hu : P.underlying t = some (.slice e)) (hinfo : (P.info? e).map (fun i => (i.zero, i.size, i.bytes)) = some (some z, size, bytes)) (hs : v.cells.size = size) (hzs : z.cells.size = size) (h0 : 0 < size) (hle : size ≤ 1000) (hd : Nat.blt d N = true)
    (h : ∀ g w', Row w' e size (.slice (some ⟨g, 0, none⟩) 1 1) 1 v.cells.toList → w.heap.size ≤ g → Below w.heap.size w w' → WL P N ds ops Q rest ((d, .slice (some ⟨g, 0, none⟩) 1 1) :: l) w') : WL P N ds ops Q (⟨some d, .buildSlice t 1 #[(0, x)], ty, pos, aft, none⟩ :: rest) l w := by
  obtain ⟨i, hi, hz, his, _⟩ := info_of hinfo
  subst his
  exact sbs (ps := [(0, x)]) (vs := [(0, v)]) i.size (by unfold evp; rw [hx]; rfl) (run_buildSlice1 w hu hi hz hs hzs h0 hle) (by simp [maxLen]) (by omega) hd h
/- ---------- append, copy, conversions ---------- -/
theorem sapp {e : TypeId} {z : Value} {size bytes : Nat} {xs news : List Value} {q : Nat} {tx : TypeId} (hx : ev l x = some v) (hy : ev l y = some u) (ht : P.underlying t = some (.slice e)) (hinfo : (P.info? e).map (fun i => (i.zero, i.size, i.bytes)) = some (some z, size, bytes)) (hzs : z.cells.size = size) (hsz : 0 < size) (hown : Row w e size v n xs) (hsrc : Src P size tx u q news w)
    (h63 : n + q ≤ maxLen) (hbytes : (n + q) * bytes ≤ 140737488355328) (hd : Nat.blt d N = true)
    (h : ∀ v' w', Row w' e size v' (n + q) (xs ++ news) → Chg (fun k => v.ownBlock = some k) w w' → (v'.ownBlock = v.ownBlock ∨ v'.ownBlock = some w.heap.size) → WL P N ds ops Q rest ((d, v') :: l) w') :
    WL P N ds ops Q (⟨some d, .call { callee := .builtin .append, args := #[x, y], argTypes := #[t, tx] }, ty, pos, aft, none⟩ :: rest) l w := by
  obtain ⟨i, hi, hz, hsize, hby⟩ := info_of hinfo
  obtain ⟨v', w', hr, h2, h3, h4⟩ := run_append_row (P := P) w t tx ty e i z size bytes ht hi hz hsize hby hzs hsz v n xs hown u q news hsrc h63 hbytes
  refine st (fun ρ hρ => ?_) hd (h v' w' h2 h3 h4)
  unfold execOp
  simp only [resolve, invoke, builtin, Sem.run_bind, Sem.run_pure, Result.andThen_ok, List.map_toArray, List.map_cons, List.map_nil, hρ _ _ hx, hρ _ _ hy, hr]
theorem Reads.src {size : Nat} {tx e' : TypeId} {q : Nat} {xs : List Value} (h : Reads w size u q xs) (hk : P.underlying tx = some (.slice e')) (h1 : ∀ u ∈ xs, u.oneCell' = true) : Src P size tx u q xs w := by
  obtain ⟨hl, a, cap, rfl, hc1, hc2, hr⟩ := h
  rcases Nat.eq_zero_or_pos q with h0 | h0
  · subst h0
    obtain rfl : xs = [] := List.eq_nil_of_length_eq_zero (by simpa using hl)
    cases a with
    | none => exact Src.ofNil w hk cap
    | some a => exact Src.ofSlice w hk a 0 cap [] (by simp) (fun j u hu => by simp at hu) h1
  · obtain ⟨g, o, rfl, _, hc⟩ := hr h0
    exact Src.ofSlice w hk ⟨g, o, none⟩ q cap xs hl (fun j u hu => by rw [Addr.add_mid]; exact hc j u hu) h1
/-- string(b) -/
theorem X.strOf {s : List UInt8} {src dst e : TypeId} {q : Nat} (hx : ev l x = some v) (hs : P.underlying src = some (.slice e)) (he : P.underlying e = some (.int .u8)) (hd : P.underlying dst = some .string) (hR : Reads w 1 v q (s.map bv)) : X P l (.convert src dst x) ty w (str s) w := fun ρ hρ => by
  have hr : (convert src dst v).run P w = .ok (.string ⟨s.toArray⟩) w := by
    obtain ⟨hl, a, cap, rfl, hc1, hc2, hr⟩ := hR
    have hl' : s.length = q := by simpa using hl
    subst hl'
    rcases Nat.eq_zero_or_pos s.length with h0 | h0
    · obtain rfl : s = [] := List.eq_nil_of_length_eq_zero h0
      cases a with
      | none => exact run_convert_bytes_nil (P := P) w src e hs he 0 cap dst hd
      | some a => exact run_convert_bytes_back (P := P) w src dst e a cap [] hs he hd (fun j hj => by simp at hj)
    · obtain ⟨g, o, rfl, _, hc⟩ := hr h0
      exact run_convert_bytes_back (P := P) w src dst e _ cap s hs he hd (fun j hj => by
        rw [Addr.add_mid]
        exact hc j _ (by rw [List.getElem?_map, List.getElem?_eq_getElem hj]; rfl))
  unfold execOp
  simp [hρ _ _ hx, hr, str]
/-- make([]T, n) -/
theorem smk {e : TypeId} {z : Value} {size bytes q : Nat} {k' : IntKind} {m' : Int} (hx : ev l x = some (.int k m)) (hy : ev l y = some (.int k' m')) (hm : m = (q : Int)) (hm' : m' = (q : Int)) (ht : P.underlying t = some (.slice e)) (hinfo : (P.info? e).map (fun i => (i.zero, i.size, i.bytes)) = some (some z, size, bytes)) (hbytes : bytes * q ≤ 281474976710656) (h63 : q ≤ maxLen) (hd : Nat.blt d N = true)
    (h : ∀ g w', Row w' e size (.slice (some ⟨g, 0, none⟩) q q) q (madeCells z.cells (q * size)).toList → w.heap.size ≤ g → Below w.heap.size w w' → WL P N ds ops Q rest ((d, .slice (some ⟨g, 0, none⟩) q q) :: l) w') :
    WL P N ds ops Q (⟨some d, .makeSlice t x y, ty, pos, aft, none⟩ :: rest) l w := by
  obtain ⟨i, hi, hz, hsize, hby⟩ := info_of hinfo
  subst hm hm' hsize hby
  have hb' : (i.bytes : Int) * (q : Int) ≤ 281474976710656 := by
    have h : ((i.bytes * q : Nat) : Int) ≤ 281474976710656 := by omega
    rwa [Int.natCast_mul] at h
  have hr := run_make (P := P) w t e i z ht hi hz k k' q q (by omega) (Int.le_refl _) hb' (by simp only [maxLen] at h63; omega)
  simp only [Int.toNat_natCast] at hr
  refine st (w' := w.alloc (.cells (madeCells z.cells (q * i.size)) e)) (fun ρ hρ => ?_) hd (h _ _ (Row.new w e i.size q _ h63 (by simp [madeCells])) (Nat.le_refl _) ((Below.refl _ _).alloc (Nat.le_refl _) _))
  unfold execOp
  simp [hρ _ _ hx, hρ _ _ hy, hr]
end
end Go.Proofs.YtnijmegalgoipaaGreatDoor
