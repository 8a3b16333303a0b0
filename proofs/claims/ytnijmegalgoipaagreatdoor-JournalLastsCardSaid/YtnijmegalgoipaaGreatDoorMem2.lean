/- More laws for whole blocks: guarded operations. -/
import Derived.Test.YtnijmegalgoipaaGreatDoorMem
namespace Go.Proofs.YtnijmegalgoipaaGreatDoor
open Go.RowKit
/-- a load of a whole block, where the operation's guard says yes -/
theorem wpList_load_blkG {P : Program} {ops : Array Oper} {rest : List Oper} {o : Oper} {a : Act} {w : World} {Q : Exit → Act → World → Prop} (hw : Region.wanted o (yielded ops a.tmps) = true) (ty : TypeId) (x : Operand) (ho : o.op = .load ty x)
    (g : Nat) (hx : a.eval x = .pointer (some ⟨g, 0, none⟩)) {t : TypeId} {cs : Array Value} {d : TypeDesc} (hB : Blk w g t cs)
    (hu : P.underlying ty = some d) (hd : (match d with | .struct _ | .array _ _ => true | _ => false) = true) (hi : (P.info? ty).map (·.size) = some cs.size)
    (h : wpList P ops Q rest (a.put o.dst (.agg cs)) w) : wpList P ops Q (o :: rest) a w :=
  wpList_step fun K hK => by
    rw [if_pos hw]
    exact wp_load_row ty x ho g hx t cs (0, 0) d hB hu hd hi (hK _ _ h)

/-- an allocation, told by its run -/
theorem wpList_alloc_of {P : Program} {ops : Array Oper} {rest : List Oper} {o : Oper} {a : Act} {w : World} {Q : Exit → Act → World → Prop} (hgd : o.guard = none) (ty : TypeId) (ho : o.op = .alloc ty) (cs : Array Value)
    (hr : ∀ w, (Instr.alloc ty true (.tuple #[])).run P w = .ok (.pointer (some ⟨w.heap.size, 0, none⟩)) (w.alloc (.cells cs ty)))
    (h : wpList P ops Q rest (a.put o.dst (.pointer (some ⟨w.heap.size, 0, none⟩))) (w.alloc (.cells cs ty))) : wpList P ops Q (o :: rest) a w := by
  refine wpList_plain hgd fun _ hK => ?_
  unfold Oper.wp execOp
  simp only [ho, Sem.run_bind, hr, Result.andThen_ok, Sem.run_pure]
  exact hK _ _ h
/- ---------- a slice that is only read ---------- -/
def Reads (w : World) (size : Nat) (v : Value) (n : Nat) (xs : List Value) : Prop :=
  xs.length = n * size ∧ ∃ a cap, v = .slice a n cap ∧ n ≤ cap ∧ cap ≤ maxLen ∧
    (0 < n → ∃ g off, a = some ⟨g, off, none⟩ ∧ g < w.heap.size ∧ ∀ j u, xs[j]? = some u → w.cell? ⟨g, off + j, none⟩ = some u)
theorem Reads.belowAll {w w' : World} {size : Nat} {v : Value} {n : Nat} {xs : List Value} (h : Reads w size v n xs) (hb : Below w.heap.size w w') : Reads w' size v n xs := by
  obtain ⟨h1, a, cap, h2, h3, h4, h5⟩ := h
  refine ⟨h1, a, cap, h2, h3, h4, fun hn => ?_⟩
  obtain ⟨g, off, e, hg, hc⟩ := h5 hn
  exact ⟨g, off, e, Nat.lt_of_lt_of_le hg hb.size, fun j u hu => (hb.cell (p := ⟨g, off + j, none⟩) hg).trans (hc j u hu)⟩
theorem Reads.chg {w w' : World} {size : Nat} {v : Value} {n : Nat} {xs : List Value} {S : Nat → Prop} (h : Reads w size v n xs) (hb : Chg S w w') (hn : ∀ k, k < w.heap.size → ¬ S k) : Reads w' size v n xs :=
  h.belowAll ⟨hb.os, hb.tape, hb.output, hb.size, fun k hk => hb.block k hk (hn k hk)⟩
theorem Row.reads {w : World} {e : TypeId} {size : Nat} {v : Value} {n : Nat} {xs : List Value} (h : Row w e size v n xs) : Reads w size v n xs := by
  obtain ⟨a, cap, hv, h1, h2⟩ := h.shape
  refine ⟨h.1, a, cap, hv, h1, h2, fun hn => ?_⟩
  obtain ⟨g, off, cap', hv', hob, _, _, hc, _⟩ := h.form hn
  rw [hv] at hv'
  injection hv' with ha _ _
  exact ⟨g, off, ha, h.lt g hob, hc⟩
theorem Reads.nle {w : World} {size : Nat} {v : Value} {n : Nat} {xs : List Value} (h : Reads w size v n xs) : n ≤ 9223372036854775807 := by
  obtain ⟨_, a, cap, _, h1, h2, _⟩ := h
  unfold maxLen at h2
  omega
end Go.Proofs.YtnijmegalgoipaaGreatDoor
