/- Arguments opened: slices of records, and records by value. -/
import Derived.Test.YtnijmegalgoipaaGreatDoorFrame
import Derived.Test.YtnijmegalgoipaaGreatDoorManPlain
import Derived.Deep.Slices
import Derived.Lib.SmallJoins
namespace Go.Proofs.YtnijmegalgoipaaGreatDoor
open Go.ChangeShapes Go.WideShapes Go.ChangeAt Go.RowKit
section
variable {H : Type} {enc : TypeId × Value → H} {W : World} {base : Nat} {sp : Nat → Bool} {held : Bool}
/-- a slice of records, each read by 'f' -/
theorem open_rows {α : Type} [Inhabited α] (f : α → List Value) (p : α → Prop) {t e : TypeId} {k fuel : Nat} {cs : List Value} {x : DataW H × List MemPlace} (ht : Tryz.prog.underlying t = some (.slice e)) (hk : Tryz.prog.cellsOf e = k) (hk0 : 0 < k)
    (he : ∀ fuel cs x, DataW.trod enc Tryz.prog W base sp held fuel e cs = some x → ∃ a, cs = f a ∧ p a)
    (h : DataW.trod enc Tryz.prog W base sp held fuel t cs = some x) :
    ∃ (v : Value) (l : List α), cs = [v] ∧ Reads W k v l.length (l.flatMap f) ∧ ∀ a ∈ l, p a ∧ (f a).length = k := by
  rcases Go.Deep.open_slice ht h with ⟨rfl, _⟩ | ⟨a, len, cap, m, n, D, Pl, rfl, hb, hl, hm, hmm, rfl, hx⟩
  · exact ⟨_, [], rfl, ⟨by simp, none, 0, rfl, Nat.le_refl _, by simp [maxLen], fun h => absurd h (by simp)⟩, by simp⟩
  · rw [hk] at hx
    have hlm : len ≤ m := by rw [hmm]; split <;> omega
    obtain ⟨V, hV⟩ := Go.Deep.choose_lt (α := α) (p := fun i v => W.cells? base (a.add (i * k)) k = some (f v) ∧ p v) (n := m) (fun i hi => by
      obtain ⟨cs', h1, h2⟩ := hx i hi
      obtain ⟨v, rfl, hp⟩ := he _ _ _ h2
      exact ⟨v, h1, hp⟩)
    have hfl : ∀ i, i < m → (f (V i)).length = k := fun i hi => (World.cells?_some (hV i hi).1).2.1
    have hall : ∀ b ∈ (List.range len).map V, p b ∧ (f b).length = k := by
      intro b hb
      obtain ⟨i, hi, rfl⟩ := List.mem_map.1 hb
      have : i < m := by have := List.mem_range.1 hi; omega
      exact ⟨(hV i this).2, hfl i this⟩
    have hlen : (((List.range len).map V).flatMap f).length = len * k := by
      rw [flat_length f k _ (fun b hb => (hall b hb).2)]; simp
    refine ⟨_, (List.range len).map V, rfl, ⟨by simpa using hlen, some a, cap, by simp, by simpa using hl, hm, fun hn => ?_⟩, hall⟩
    have hn' : 0 < len := by simpa using hn
    obtain ⟨_, hl0, hc0⟩ := World.cells?_some (hV 0 (by omega)).1
    have h0 := hc0 0 (by omega)
    rw [List.getElem?_eq_getElem (by omega)] at h0
    obtain ⟨b, off, spot⟩ := a
    have hspot : spot = none := by simpa [Addr.add] using World.cell?_spot h0
    subst hspot
    refine ⟨b, off, rfl, by simpa [Addr.add] using World.block_lt_of_cell? W _ h0, fun j u hu => ?_⟩
    have hj := (List.getElem?_eq_some_iff.1 hu).1
    rw [hlen] at hj
    have hi : j / k < len := (Nat.div_lt_iff_lt_mul hk0).2 hj
    have hr : j % k < k := Nat.mod_lt _ hk0
    have hjk : j = j / k * k + j % k := by rw [Nat.mul_comm]; exact (Nat.div_add_mod j k).symm
    have hat : ((List.range len).map V)[j / k]? = some (V (j / k)) := by
      rw [List.getElem?_map, List.getElem?_range hi]; rfl
    have hfa := flat_at f k _ (j / k) _ (fun b hb => (hall b hb).2) hat
    have hu' : (f (V (j / k)))[j % k]? = some u := by
      rw [← hfa, List.getElem?_take_of_lt hr, List.getElem?_drop, ← hjk]
      exact hu
    have hcell := (World.cells?_some (hV (j / k) (by omega)).1).2.2 (j % k) hr
    rw [hu'] at hcell
    rw [← hcell]
    rw [Addr.add_lit, Addr.add_lit, Nat.add_assoc, ← hjk]
end
end Go.Proofs.YtnijmegalgoipaaGreatDoor
