/- slices.SortFunc over rows of my own. -/
import Derived.Test.YtnagmpnpgekhfaaDoorCmp
import Derived.Test.YtnagmpnpgekhfaaDoorSumKey
import Derived.Shelf.SlSortCmp.NoneTotal
namespace Go.Proofs.YtnagmpnpgekhfaaDoor
open Go.RowKit Go.Sort Go.Lib
section
variable {α : Type} [Inhabited α]
theorem flat_get (enc : α → List Value) (k : Nat) (hk : ∀ x, (enc x).length = k) : ∀ (l : List α) (j : Nat), j < l.length * k → (l.flatMap enc)[j]? = some ((flatK enc k l.toArray)[j]!)
  | l, j, hj => by
    have h0 : 0 < k := by rcases Nat.eq_zero_or_pos k with h | h; subst h; simp at hj; exact h
    have hq : j / k < l.length := Nat.div_lt_of_lt_mul (by rw [Nat.mul_comm]; exact hj)
    have hm : j % k < k := Nat.mod_lt _ h0
    rw [get_flatK enc k l.toArray j (by simpa using hj)]
    have hx : l[j / k]? = some l[j / k] := List.getElem?_eq_getElem hq
    have hf := flat_at enc k l (j / k) l[j / k] (fun a _ => hk a) hx
    have e1 : (l.flatMap enc)[j]? = (((l.flatMap enc).drop (j / k * k)).take k)[j % k]? := by
      rw [List.getElem?_take, if_pos hm, List.getElem?_drop]
      congr 1
      have := Nat.div_add_mod j k
      rw [Nat.mul_comm] at this
      omega
    rw [e1, hf]
    have e2 : l.toArray[j / k]! = l[j / k] := by simp [hq]
    rw [e2, List.getElem?_eq_getElem (by rw [hk]; exact hm)]
    rw [getElem!_pos _ _ (by rw [hk]; exact hm)]
theorem row_holds {w : World} {e : TypeId} {k g o n c : Nat} {enc : α → List Value} (hk : ∀ x, (enc x).length = k) {l : List α} (h : Row w e k (.slice (some ⟨g, o, none⟩) n c) n (l.flatMap enc)) (hn : l.length = n) : HoldsK enc k w g o l.toArray := by
  obtain ⟨h1, h2⟩ := h
  rcases h2 with ⟨h2, _⟩ | ⟨g', o', cap, cur, fz, hv, hg, hc1, hc2, hcs, hx, hz⟩
  · cases h2
  injection hv with hv _ hcap
  injection hv with hv
  injection hv with e1 e2
  subst e1 e2 hcap
  intro j hj
  rw [size_flatK] at hj
  have hj' : j < n * k := by rw [← hn]; simpa using hj
  have hle : n * k ≤ c * k := Nat.mul_le_mul_right k hc1
  have hfg := flat_get enc k hk l j (by rw [hn]; exact hj')
  have hcell : cur[o + j]? = some ((flatK enc k l.toArray)[j]!) := by
    rw [← hfg, ← hx, List.getElem?_take, if_pos hj', List.getElem?_drop, Array.getElem?_toList]
  refine ⟨?_, ?_⟩
  · show w.cell? ⟨g, o + j, none⟩ = _
    simp only [World.cell?, hg]
    exact hcell
  · simp only [World.frozen?, hg]
    have := hz (o + j) (by omega)
    simpa using this
theorem sort_row {w w' : World} {e : TypeId} {k g o n c n' : Nat} {enc : α → List Value} (hk : ∀ x, (enc x).length = k) {l : List α} (h : Row w e k (.slice (some ⟨g, o, none⟩) n c) n (l.flatMap enc)) (hn : l.length = n) {d' : Array α} {os : Array Obj} (hd : d'.size = n) (hw : w' = sortWorldK enc k w g o n' d' os) :
    Row w' e k (.slice (some ⟨g, o, none⟩) n c) n (d'.toList.flatMap enc) ∧ Chg (fun q => q = g) w w' := by
  have hH := row_holds hk h hn
  obtain ⟨h1, h2⟩ := h
  rcases h2 with ⟨h2, _⟩ | ⟨g', o', cap, cur, fz, hv, hg, hc1, hc2, hcs, hx, hz⟩
  · cases h2
  injection hv with hv _ hcap
  injection hv with hv
  injection hv with e1 e2
  subst e1 e2 hcap
  have hlt : g < w.heap.size := (Array.getElem?_eq_some_iff.1 hg).1
  have hH' := holdsK_sortWorldK enc k w g o n' l.toArray d' os hlt hH (by rw [hd]; simpa using hn.symm)
  have hle : n * k ≤ c * k := Nat.mul_le_mul_right k hc1
  have hgo : (sortWorldK enc k w g o n' d' os).heap[g]? = some (.cells (putCells id o (flatK enc k d') cur) e fz) := by
    show ((putRow id (Sort.ahead w n') g o (flatK enc k d')).heap ++ os)[g]? = _
    rw [Array.getElem?_append_left (by rw [size_putRow]; exact hlt)]
    show (w.heap.modify g _)[g]? = _
    rw [Array.getElem?_modify, if_pos rfl, hg]
    rfl
  have hsz : (putCells id o (flatK enc k d') cur).size = cur.size := by simp [putCells]
  refine ⟨⟨?_, .inr ⟨g, o, c, putCells id o (flatK enc k d') cur, fz, rfl, by rw [hw]; exact hgo, hc1, hc2, by rw [hsz]; exact hcs, ?_, by rw [hsz]; exact hz⟩⟩, ?_⟩
  · rw [flat_length enc k _ (fun a _ => hk a)]; simp [hd]
  · apply List.ext_getElem?
    intro j
    by_cases hj : j < n * k
    · rw [List.getElem?_take, if_pos hj, List.getElem?_drop, Array.getElem?_toList]
      have h3 := (hH' j (by rw [size_flatK, hd]; exact hj)).1
      simp only [World.cell?, hgo] at h3
      have h4 := flat_get enc k hk d'.toList j (by simpa [hd] using hj)
      rw [h4]
      exact h3
    · rw [List.getElem?_eq_none (by rw [List.length_take]; omega), List.getElem?_eq_none (by rw [flat_length enc k _ (fun a _ => hk a)]; simp [hd]; omega)]
  · rw [hw]
    refine ⟨rfl, rfl, rfl, ?_, fun q hq hne => ?_⟩
    · show w.heap.size ≤ ((putRow id (Sort.ahead w n') g o (flatK enc k d')).heap ++ os).size
      rw [Array.size_append, size_putRow]
      show w.heap.size ≤ w.heap.size + _
      omega
    · show ((putRow id (Sort.ahead w n') g o (flatK enc k d')).heap ++ os)[q]? = _
      rw [Array.getElem?_append_left (by rw [size_putRow]; exact hq)]
      show (w.heap.modify g _)[q]? = _
      rw [Array.getElem?_modify, if_neg (fun e => hne e.symm)]
end
end Go.Proofs.YtnagmpnpgekhfaaDoor
