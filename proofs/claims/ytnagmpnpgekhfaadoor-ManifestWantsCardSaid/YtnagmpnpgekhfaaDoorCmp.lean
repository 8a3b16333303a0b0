/- What sha.Cmp computes (over bytes.Compare): walks. -/
import Derived.Test.YtnagmpnpgekhfaaDoorTypes
import Derived.Test.YtnagmpnpgekhfaaDoorGen
import Derived.Lib.Bytealg
import Derived.Sort.Grow
namespace Go.Proofs.YtnagmpnpgekhfaaDoor
open Go.RowKit
theorem run_loadBytes {P : Program} (w : World) : ∀ (l : List UInt8) (g off : Nat) (acc : ByteArray), (∀ j (hj : j < l.length), w.cell? ⟨g, off + j, none⟩ = some (.int .u8 (l[j].toNat : Int))) →
    (Extern.Bytes.loadBytes ⟨g, off, none⟩ l.length acc).run P w = .ok ⟨acc.data ++ l.toArray⟩ w
  | [], g, off, acc, _ => by simp [Extern.Bytes.loadBytes]
  | b :: l, g, off, acc, h => by
    have h0 := h 0 (by simp)
    have ih := run_loadBytes (P := P) w l g (off + 1) (acc.push b) (fun j hj => by
      have := h (j + 1) (by simpa using hj)
      rw [show off + 1 + j = off + (j + 1) from by omega]
      simpa using this)
    simp only [Nat.add_zero, List.getElem_cons_zero] at h0
    simp [Extern.Bytes.loadBytes, h0, Addr.add_lit]
    rw [ih]
    simp [ByteArray.push]
theorem bytealg_run (w : World) (g1 o1 c1 g2 o2 c2 : Nat) (l1 l2 : List UInt8) (h1 : ∀ j (hj : j < l1.length), w.cell? ⟨g1, o1 + j, none⟩ = some (.int .u8 (l1[j].toNat : Int))) (h2 : ∀ j (hj : j < l2.length), w.cell? ⟨g2, o2 + j, none⟩ = some (.int .u8 (l2[j].toNat : Int))) :
    (callFunc 67 #[.slice (some ⟨g1, o1, none⟩) l1.length c1, .slice (some ⟨g2, o2, none⟩) l2.length c2]).run Tryd.prog w = .ok (.value (.int .i64 (Lib.compareBytes l1 l2))) w := by
  rw [run_callFunc_extern Tryd.func67 (by kernel_rfl) (by kernel_rfl) (by kernel_rfl) (e := Extern.BytealgCompare.compare) (by kernel_rfl)]
  have e1 := run_loadBytes (P := Tryd.prog) w l1 g1 o1 .empty h1
  have e2 := run_loadBytes (P := Tryd.prog) w l2 g2 o2 .empty h2
  have e3 : (Extern.BytealgCompare.compare #[.slice (some ⟨g1, o1, none⟩) l1.length c1, .slice (some ⟨g2, o2, none⟩) l2.length c2]).run Tryd.prog w = .ok (.int .i64 (Lib.compareBytes l1 l2)) w := by
    change Sem.run Tryd.prog (do
      let x ← Extern.Bytes.bytesOf (.slice (some ⟨g1, o1, none⟩) l1.length c1)
      let y ← Extern.Bytes.bytesOf (.slice (some ⟨g2, o2, none⟩) l2.length c2)
      pure (goInt (Extern.BytealgCompare.cmp x y))) w = _
    simp only [Extern.Bytes.bytesOf, Sem.run_bind, e1, e2, Result.andThen_ok, Sem.run_pure, Lib.cmp_eq, goInt]
    simp
  rw [e3]
  rfl
/-- -1, 0 or 1 -/
def cmpSum (a b : List UInt8) : Int := Lib.compareBytes a b
/-- new blocks and draws alone -/
def Grows (w w' : World) : Prop := ∃ q os, w' = Sort.grow (w.drewN q) os
theorem Grows.bel {w w' : World} (h : Grows w w') : Below w.heap.size w w' := by
  obtain ⟨q, os, rfl⟩ := h
  refine ⟨rfl, rfl, rfl, ?_, fun k hk => ?_⟩
  · show w.heap.size ≤ (w.heap ++ os).size
    rw [Array.size_append]; omega
  · show (w.heap ++ os)[k]? = _
    rw [Array.getElem?_append_left hk]
theorem Grows.of2 (w : World) (o1 o2 : Obj) (n : Nat) : Grows w (((w.alloc o1).alloc o2).drewN n) := by
  refine ⟨n, #[o1, o2], ?_⟩
  simp only [World.alloc, Sort.grow, World.drewN, Array.push_eq_append, Array.append_assoc]
  rfl
def CmpIs (w : World) (n : Int) (e : Ending) (w' : World) : Prop := e = .returned (.int .i64 n) ∧ Grows w w'
theorem blk_bytes {w : World} {g : Nat} {t : TypeId} {l : List UInt8} (h : Blk w g t (l.map bv).toArray) : ∀ j (hj : j < l.length), w.cell? ⟨g, 0 + j, none⟩ = some (.int .u8 (l[j].toNat : Int)) := fun j hj => by
  rw [Nat.zero_add, h.cell, List.getElem?_toArray, List.getElem?_map, List.getElem?_eq_getElem hj]
  rfl
theorem Grows.refl (w : World) : Grows w w := ⟨0, #[], by simp [World.drewN]⟩
theorem Grows.drew {w w' : World} (h : Grows w w') : Grows w w'.drew := by
  obtain ⟨q, os, rfl⟩ := h
  exact ⟨q + 1, os, rfl⟩
theorem Grows.alloc {w w' : World} (h : Grows w w') (o : Obj) : Grows w (w'.alloc o) := by
  obtain ⟨q, os, rfl⟩ := h
  refine ⟨q, os.push o, ?_⟩
  simp only [World.alloc, Sort.grow, World.drewN, Array.push_eq_append, Array.append_assoc]
theorem X.extn {P : Program} {l : Env} {f : FuncId} {args : List Operand} {ats : Array TypeId} {ty : TypeId} {w w' : World} {v : Value} (vs : List Value) (hvs : evs l args = some vs) (hr : (callFunc f vs.toArray).run P w = .ok (.value v) w') : X P l (.call { callee := .value (.func f), args := args.toArray, argTypes := ats }) ty w v w' := fun ρ hρ => by
  have hvs' := evs_map hρ hvs
  have hfn := hρ (.func f) _ rfl
  unfold execOp
  simp only [resolve, invoke, hfn]
  simp [Deferred.ofValue, hvs', hr]
theorem Compare_any (g1 o1 n1 c1 g2 o2 n2 c2 : Nat) (l1 l2 : List UInt8) (w : World) (hl1 : l1.length = n1) (hl2 : l2.length = n2) (h1 : ∀ j (hj : j < l1.length), w.cell? ⟨g1, o1 + j, none⟩ = some (.int .u8 (l1[j].toNat : Int))) (h2 : ∀ j (hj : j < l2.length), w.cell? ⟨g2, o2 + j, none⟩ = some (.int .u8 (l2[j].toNat : Int))) :
    Calls Tryd.prog 62 #[.slice (some ⟨g1, o1, none⟩) n1 c1, .slice (some ⟨g2, o2, none⟩) n2 c2] w fun e w' => e = .returned (.int .i64 (Lib.compareBytes l1 l2)) ∧ w = w' := by
  subst hl1
  subst hl2
  have hr := bytealg_run w g1 o1 c1 g2 o2 c2 l1 l2 h1 h2
  refine W_enter (args := [.slice (some ⟨g1, o1, none⟩) l1.length c1, .slice (some ⟨g2, o2, none⟩) l2.length c2]) 8 Tryd.func62 rfl rfl rfl ?_
  refine W_sub [(0, .slice (some ⟨g1, o1, none⟩) l1.length c1), (1, .slice (some ⟨g2, o2, none⟩) l2.length c2)] ?_ ⟨rfl, rfl, trivial⟩
  refine W_rs ?_
  refine sa rfl rfl ?_
  refine Wn ?_
  refine tN ?_
  refine W_rs ?_
  refine sm rfl rfl ?_
  refine sm rfl rfl ?_
  refine st (X.extn _ rfl hr) rfl ?_
  refine sa rfl rfl ?_
  refine Wn ?_
  refine tN ?_
  refine W_ret ?_
  exact (rT rfl rfl ⟨rfl, rfl⟩).1
theorem X.boxA {P : Program} {l : Env} {x : Operand} {t ty : TypeId} {w : World} {cs : Array Value} (hx : ev l x = some (.agg cs)) : X P l (.box t x) ty w (.pointer (some ⟨w.heap.size, 0, none⟩)) (w.alloc (.cells cs t)) := fun ρ hρ => by
  unfold execOp
  simp [hρ _ _ hx, Instr.box, newVar, newRow, Value.cells]
set_option maxRecDepth 10000 in
theorem Cmp_any (a b : List UInt8) (ha : a.length = 32) (hb : b.length = 32) (w : World) :
    Calls Tryd.prog 57 #[.agg (a.map bv).toArray, .agg (b.map bv).toArray] w (CmpIs w (cmpSum a b)) := by
  have k0 : Blk ((w.alloc (.cells (a.map bv).toArray 53)).alloc (.cells (b.map bv).toArray 53)) w.heap.size 53 (a.map bv).toArray := (Blk.new w _ _).alloc _
  have k1 : Blk ((w.alloc (.cells (a.map bv).toArray 53)).alloc (.cells (b.map bv).toArray 53)) (w.alloc (.cells (a.map bv).toArray 53)).heap.size 53 (b.map bv).toArray := Blk.new _ _ _
  have hG : Grows w ((w.alloc (.cells (a.map bv).toArray 53)).alloc (.cells (b.map bv).toArray 53)) := ((Grows.refl w).alloc _).alloc _
  refine W_enter (args := [.agg (a.map bv).toArray, .agg (b.map bv).toArray]) 8 Tryd.func57 rfl rfl rfl ?_
  refine W_sub [(0, .agg (a.map bv).toArray), (1, .agg (b.map bv).toArray)] ?_ ⟨rfl, rfl, trivial⟩
  refine W_rs ?_
  refine st (X.boxA rfl) rfl ?_
  refine st (X.boxA rfl) rfl ?_
  refine sa rfl rfl ?_
  refine Wn (tN ?_)
  generalize (w.alloc (.cells (a.map bv).toArray 53)).heap.size = g2 at k1 ⊢
  generalize (w.alloc (.cells (a.map bv).toArray 53)).alloc (.cells (b.map bv).toArray 53) = w2 at k0 k1 hG ⊢
  refine W_drsN (fun _ => True) [0, 1, 2, 3] [true, true, false, true] (by kernel_rfl) (by kernel_rfl) trivial ?_
  refine oY rfl (fun W_ hW_ => X.slArr rfl Tryd.underlying53 siz5) rfl ?_
  refine oY rfl (fun W_ hW_ => X.slArr rfl Tryd.underlying53 siz5) rfl ?_
  refine oL rfl (fun Q_ hQ_ hP_ => ?_)
  refine sc _ Tryd.func62 rfl (by kernel_rfl) rfl rfl ((Compare_any w.heap.size 0 32 32 g2 0 32 32 a b _ ha hb (blk_bytes k0.drew) (blk_bytes k1.drew)).mono ?_)
  rintro e_ w_ ⟨rfl, rfl⟩
  refine cR ?_
  refine Wn (hQ_ _ _ trivial ?_)
  refine oY rfl (fun W_ hW_ => X.assign rfl) rfl ?_
  refine oN ?_
  refine nN ?_
  refine W_ret ?_
  exact (rT rfl rfl ⟨rfl, hG.drew⟩).1
end Go.Proofs.YtnagmpnpgekhfaaDoor
