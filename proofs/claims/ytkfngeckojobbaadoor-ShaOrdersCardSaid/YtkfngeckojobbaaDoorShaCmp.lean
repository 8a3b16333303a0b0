/- What sha.Cmp computes (over bytes.Compare): walks. -/
import Derived.Test.YtkfngeckojobbaaDoorShaHex
import Derived.Test.YtkfngeckojobbaaDoorMem2
import Derived.Lib.Bytealg
namespace Go.Proofs.YtkfngeckojobbaaDoor
open Go.RowKit Sha

theorem run_loadBytes {P : Program} (w : World) : ∀ (l : List UInt8) (g off : Nat) (acc : ByteArray), (∀ j (hj : j < l.length), w.cell? ⟨g, off + j, none⟩ = some (.int .u8 (l[j].toNat : Int))) →
    (Extern.Bytes.loadBytes ⟨g, off, none⟩ l.length acc).run P w = .ok ⟨acc.data ++ l.toArray⟩ w
  | [], g, off, acc, _ => by simp [Extern.Bytes.loadBytes]
  | b :: l, g, off, acc, h => by
    have h0 := h 0 (by simp)
    have ih := run_loadBytes (P := P) w l g (off + 1) (acc.push b) (fun j hj => by
      have := h (j + 1) (by simpa using hj)
      rw [show off + 1 + j = off + (j + 1) from by omega]
      simpa using this)
    simp only [Nat.add_zero, List.getElem_cons_zero] at h0
    simp [Extern.Bytes.loadBytes, h0, Addr.add_lit]
    rw [ih]
    simp [ByteArray.push]
theorem bytealg_run (w : World) (g1 o1 c1 g2 o2 c2 : Nat) (l1 l2 : List UInt8) (h1 : ∀ j (hj : j < l1.length), w.cell? ⟨g1, o1 + j, none⟩ = some (.int .u8 (l1[j].toNat : Int))) (h2 : ∀ j (hj : j < l2.length), w.cell? ⟨g2, o2 + j, none⟩ = some (.int .u8 (l2[j].toNat : Int))) :
    (callFunc 30 #[.slice (some ⟨g1, o1, none⟩) l1.length c1, .slice (some ⟨g2, o2, none⟩) l2.length c2]).run Tryd.prog w = .ok (.value (.int .i64 (Lib.compareBytes l1 l2))) w := by
  rw [run_callFunc_extern Tryd.func30 (by kernel_rfl) (by kernel_rfl) (by kernel_rfl) (e := Extern.BytealgCompare.compare) (by kernel_rfl)]
  have e1 := run_loadBytes (P := Tryd.prog) w l1 g1 o1 .empty h1
  have e2 := run_loadBytes (P := Tryd.prog) w l2 g2 o2 .empty h2
  have e3 : (Extern.BytealgCompare.compare #[.slice (some ⟨g1, o1, none⟩) l1.length c1, .slice (some ⟨g2, o2, none⟩) l2.length c2]).run Tryd.prog w = .ok (.int .i64 (Lib.compareBytes l1 l2)) w := by
    change Sem.run Tryd.prog (do
      let x ← Extern.Bytes.bytesOf (.slice (some ⟨g1, o1, none⟩) l1.length c1)
      let y ← Extern.Bytes.bytesOf (.slice (some ⟨g2, o2, none⟩) l2.length c2)
      pure (goInt (Extern.BytealgCompare.cmp x y))) w = _
    simp only [Extern.Bytes.bytesOf, Sem.run_bind, e1, e2, Result.andThen_ok, Sem.run_pure, Lib.cmp_eq, goInt]
    simp
  rw [e3]
  rfl
theorem Compare_any (g1 o1 n1 c1 g2 o2 n2 c2 : Nat) (l1 l2 : List UInt8) (w : World) (hl1 : l1.length = n1) (hl2 : l2.length = n2) (h1 : ∀ j (hj : j < l1.length), w.cell? ⟨g1, o1 + j, none⟩ = some (.int .u8 (l1[j].toNat : Int))) (h2 : ∀ j (hj : j < l2.length), w.cell? ⟨g2, o2 + j, none⟩ = some (.int .u8 (l2[j].toNat : Int))) :
    Calls Tryd.prog 23 #[.slice (some ⟨g1, o1, none⟩) n1 c1, .slice (some ⟨g2, o2, none⟩) n2 c2] w fun e w' => e = .returned (.int .i64 (Lib.compareBytes l1 l2)) ∧ w = w' := by
  subst hl1
  subst hl2
  have hr := bytealg_run w g1 o1 c1 g2 o2 c2 l1 l2 h1 h2
  have Hr := Lib.hid hr
  clear h1 h2 hr
  go_enter Tryd.func23, Tryd.ntmps23
  go_wp2
  rw [Hr.out]
  rw [Oper.upon_value]
  go_wp2
  go_ret
  exact ⟨rfl, rfl⟩

/-- -1, 0 or 1 -/
def cmpSum (a b : List UInt8) : Int := Lib.compareBytes a b
def CmpIs (w : World) (n : Int) (e : Ending) (w' : World) : Prop := e = .returned (.int .i64 n) ∧ Below w.heap.size w w'
theorem blk_bytes {w : World} {g : Nat} {t : TypeId} {l : List UInt8} (h : Blk w g t (l.map bv).toArray) : ∀ j (hj : j < l.length), w.cell? ⟨g, 0 + j, none⟩ = some (.int .u8 (l[j].toNat : Int)) := fun j hj => by
  rw [Nat.zero_add, h.cell, List.getElem?_toArray, List.getElem?_map, List.getElem?_eq_getElem hj]
  rfl
set_option maxHeartbeats 1000000 in
theorem Cmp_any (a b : List UInt8) (ha : a.length = 32) (hb : b.length = 32) (w : World) :
    Calls Tryd.prog 12 #[.agg (a.map bv).toArray, .agg (b.map bv).toArray] w (CmpIs w (cmpSum a b)) := by
  have k0 : Blk ((w.alloc (.cells (a.map bv).toArray 24)).alloc (.cells (b.map bv).toArray 24)) w.heap.size 24 (a.map bv).toArray := (Blk.new w _ _).alloc _
  have k1 : Blk ((w.alloc (.cells (a.map bv).toArray 24)).alloc (.cells (b.map bv).toArray 24)) (w.heap.size + 1) 24 (b.map bv).toArray := by
    have := Blk.new (w.alloc (.cells (a.map bv).toArray 24)) 24 (b.map bv).toArray
    simpa using this
  have Hk0 := Lib.hid k0; clear k0
  have Hk1 := Lib.hid k1; clear k1
  have Ha := Lib.hid ha; clear ha
  have Hb := Lib.hid hb; clear hb
  go_enter Tryd.func12, Tryd.ntmps12
  go_wp2_with fail
  go_quiet ((go_at_call 23; exact quiet_left (Compare_any _ _ _ _ _ _ _ _ a b _ Ha.out Hb.out (blk_bytes (Hk0.out.drewN _)) (blk_bytes (Hk1.out.drewN _)))))
  go_wp2
  go_ret
  exact ⟨rfl, ((((Chg.refl _ w).alloc _).alloc _).drewN _).belowAll⟩
end Go.Proofs.YtkfngeckojobbaaDoor
