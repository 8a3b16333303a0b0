/- A hash told by the bytes that it has taken. -/
import Derived.Test.YtkfngeckojobbaaDoorShaOf
namespace Go.Proofs.YtkfngeckojobbaaDoor
open Go.RowKit Sha
/-- a hash that has taken the bytes m -/
def Taken (w : World) (S : Nat → Prop) (b : Nat) (m : List UInt8) : Prop := HashAt w S b (absorb begin_ m).1 (absorb begin_ m).2 m.length
def TookIs (w : World) (S : Nat → Prop) (b : Nat) (m : List UInt8) (e : Ending) (w' : World) : Prop := e = .returned (.tuple #[]) ∧ Taken w' (More S w) b m ∧ Chg S w w'
theorem Taken.mono {w : World} {S T : Nat → Prop} {b : Nat} {m : List UInt8} (h : Taken w S b m) (hs : ∀ k, S k → T k) : Taken w T b m := HashAt.mono h hs
theorem Taken.belowAll {w w' : World} {S : Nat → Prop} {b : Nat} {m : List UInt8} (h : Taken w S b m) (hb : Below w.heap.size w w') : Taken w' S b m := HashAt.belowAll h hb
theorem Taken.new {w : World} {S : Nat → Prop} {b : Nat} (h : HashAt w S b begin_ [] 0) : Taken w S b [] := h
theorem Write_taken (S : Nat → Prop) (b : Nat) (m : List UInt8) (s : ByteArray) (w : World) (h : Taken w S b m) (hK : ShaTabs w) (hS : NoTab S) (hn : m.length + s.size ≤ 4294960000) :
    Calls Tryd.prog 14 #[.pointer (some ⟨b, 0, none⟩), .string s] w (TookIs w S b (m ++ s.data.toList)) :=
  (Write_any S b _ _ _ s w h hK hS (by omega) (by rw [absorb_length]; omega)).mono fun e w' ⟨he, hX, hC⟩ => ⟨he, by
    rw [absorb_parts] at hX
    have e1 : m.length + s.size = (m ++ s.data.toList).length := by rw [List.length_append]; rfl
    rw [e1] at hX
    exact hX, hC⟩
theorem Sum_taken (S : Nat → Prop) (b : Nat) (m : List UInt8) (w : World) (h : Taken w S b m) (hK : ShaTabs w) (hn : m.length ≤ 4294960000) :
    Calls Tryd.prog 15 #[.pointer (some ⟨b, 0, none⟩)] w (SumIs w (sha m)) :=
  Sum_any S b _ _ _ w h hK (by omega) (by rw [absorb_length]; omega)
theorem Len_taken (S : Nat → Prop) (b : Nat) (m : List UInt8) (w : World) (h : Taken w S b m) :
    Calls Tryd.prog 16 #[.pointer (some ⟨b, 0, none⟩)] w fun e w' => e = .returned (.int .i64 m.length) ∧ w = w' := Len_any w S b _ _ _ h
end Go.Proofs.YtkfngeckojobbaaDoor
