/- Rows of rows that the call itself made. -/
import Derived.Test.YtnijmegalgoipaaGreatDoorGen
namespace Go.Proofs.YtnijmegalgoipaaGreatDoor
open Go.RowKit
section
variable {α : Type} {f : α → List Value} {q : TypeId} {k : Nat}
def RowsRow (q : TypeId) (k : Nat) (f : α → List Value) (w : World) (us : List Value) (ls : List (List α)) : Prop := us.length = ls.length ∧ ∀ (i : Nat) u l, us[i]? = some u → ls[i]? = some l → Row w q k u l.length (l.flatMap f)
theorem RowsRow.nil {w : World} : RowsRow q k f w [] [] := ⟨rfl, fun i u l h => by simp at h⟩
theorem RowsRow.bel {w w' : World} {us : List Value} {ls : List (List α)} (h : RowsRow q k f w us ls) (hb : Below w.heap.size w w') : RowsRow q k f w' us ls :=
  ⟨h.1, fun i u l hu hl => (h.2 i u l hu hl).bel hb⟩
theorem RowsRow.chgB {w w' : World} {us : List Value} {ls : List (List α)} {g : Nat} {t : TypeId} {cs : Array Value} (h : RowsRow q k f w us ls) (hc : Chg (fun k => k = g) w w') (hB : Blk w g t cs) (hne : q ≠ t) : RowsRow q k f w' us ls :=
  ⟨h.1, fun i u l hu hl => (h.2 i u l hu hl).chg hc (fun k hk e => (h.2 i u l hu hl).ne_ hB hne (by rw [← e]; exact hk))⟩
theorem RowsRow.chgR {w w' : World} {us : List Value} {ls : List (List α)} {e : TypeId} {size n : Nat} {v : Value} {xs : List Value} (h : RowsRow q k f w us ls) (hc : Chg (fun k => v.ownBlock = some k) w w') (hR : Row w e size v n xs) (hne : q ≠ e) : RowsRow q k f w' us ls :=
  ⟨h.1, fun i u l hu hl => (h.2 i u l hu hl).chg hc (fun k hk => (h.2 i u l hu hl).apart_ hR hne k hk)⟩
theorem RowsRow.snoc {w : World} {us : List Value} {ls : List (List α)} {u : Value} {l : List α} (h : RowsRow q k f w us ls) (hR : Row w q k u l.length (l.flatMap f)) : RowsRow q k f w (us ++ [u]) (ls ++ [l]) := by
  refine ⟨by simp [h.1], fun i a b ha hb => ?_⟩
  have h1 := h.1
  by_cases hi : i < us.length
  · rw [List.getElem?_append_left hi] at ha
    rw [List.getElem?_append_left (by omega)] at hb
    exact h.2 i a b ha hb
  · rw [List.getElem?_append_right (by omega)] at ha hb
    by_cases h0 : i - us.length = 0
    · rw [h0] at ha
      rw [show i - ls.length = 0 by omega] at hb
      simp at ha hb
      subst ha hb
      exact hR
    · rw [List.getElem?_eq_none (by simp; omega)] at ha
      cases ha
/-- rows of rows, read only -/
def RowsAt (k : Nat) (f : α → List Value) (w : World) (v : Value) (ls : List (List α)) : Prop := ∃ vs : List Value, Reads w 1 v ls.length vs ∧ ∀ (i : Nat) l, ls[i]? = some l → ∃ u, vs[i]? = some u ∧ Reads w k u l.length (l.flatMap f)
theorem RowsAt.bel {w w' : World} {v : Value} {ls : List (List α)} (h : RowsAt k f w v ls) (hb : Below w.heap.size w w') : RowsAt k f w' v ls := by
  obtain ⟨vs, h1, h2⟩ := h
  exact ⟨vs, h1.bel hb, fun i l hl => by obtain ⟨u, hu, hc⟩ := h2 i l hl; exact ⟨u, hu, hc.bel hb⟩⟩
theorem RowsRow.at_ {w : World} {us : List Value} {ls : List (List α)} {e : TypeId} {v : Value} (h : RowsRow q k f w us ls) (hR : Row w e 1 v ls.length us) : RowsAt k f w v ls := by
  refine ⟨us, hR.reads, fun i l hl => ?_⟩
  have hi := (List.getElem?_eq_some_iff.1 hl).1
  have hul := h.1
  obtain ⟨u, hu⟩ : ∃ u, us[i]? = some u := ⟨_, List.getElem?_eq_getElem (by omega)⟩
  exact ⟨u, hu, (h.2 i u l hu hl).reads⟩
/-- a record of a slice that is read -/
theorem Reads.rec_ {w : World} {g o c : Nat} {l : List α} (h : Reads w k (.slice (some ⟨g, o, none⟩) l.length c) l.length (l.flatMap f)) (hk : ∀ a ∈ l, (f a).length = k) {j : Nat} {x : α} (hx : l[j]? = some x) : w.rangeAt g (o + j * k) (f x) := by
  have hj := (List.getElem?_eq_some_iff.1 hx).1
  have := h.range j hj
  rwa [flat_at f k l j x hk hx] at this
end
end Go.Proofs.YtnijmegalgoipaaGreatDoor
