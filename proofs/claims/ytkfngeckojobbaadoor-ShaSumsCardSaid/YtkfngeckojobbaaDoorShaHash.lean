/- What sha's Hash does: the walks of its methods. -/
import Derived.Test.YtkfngeckojobbaaDoorShaBlock
import Derived.Deep.LoopGhost
import Derived.Deep.DeepMust
namespace Go.Proofs.YtkfngeckojobbaaDoor
open Go.RowKit Sha

def HashAt (w : World) (S : Nat → Prop) (b : Nat) (v : St) (rest : List UInt8) (n : Nat) : Prop :=
  ∃ rv, Blk w b 52 (hashCells v rv (.int .i64 n)) ∧ Row w 5 1 rv rest.length (rest.map bv) ∧ S b ∧ ∀ k, rv.ownBlock = some k → S k
/-- the tables of the package, as its initialisers lay them -/
structure ShaTabs (w : World) : Prop where
  k : ∀ j, j < 64 → w.cell? ⟨1, j, none⟩ = some (.int .u32 (kTab.getD j 0).toNat)
  b : ∀ j, w.cell? ⟨0, j, none⟩ = (stCells begin_)[j]?
  kl : 1 < w.heap.size
  bl : 0 < w.heap.size
/-- a set of blocks that has none of the tables -/
def NoTab (S : Nat → Prop) : Prop := ¬ S 1 ∧ ¬ S 0
theorem ShaTabs.chg {S : Nat → Prop} {w w' : World} (h : ShaTabs w) (hc : Chg S w w') (hn : NoTab S) : ShaTabs w' :=
  ⟨fun j hj => (hc.cell (p := ⟨1, j, none⟩) h.kl hn.1).trans (h.k j hj), fun j => (hc.cell (p := ⟨0, j, none⟩) h.bl hn.2).trans (h.b j), Nat.lt_of_lt_of_le h.kl hc.size, Nat.lt_of_lt_of_le h.bl hc.size⟩
theorem ShaTabs.belowAll {w w' : World} (h : ShaTabs w) (hb : Below w.heap.size w w') : ShaTabs w' := h.chg (Chg.of_below hb (fun _ => False)) ⟨fun f => f, fun f => f⟩
theorem ShaTabs.alloc {w : World} (h : ShaTabs w) (o : Obj) : ShaTabs (w.alloc o) := h.chg ((Chg.refl (fun _ => False) w).alloc o) ⟨fun f => f, fun f => f⟩
theorem noTab_from {w : World} (h : ShaTabs w) {B : Nat} (hB : w.heap.size ≤ B) : NoTab (fun k => B ≤ k) := ⟨by have := h.kl; omega, by have := h.bl; omega⟩
theorem byteCells_bv (s : ByteArray) : byteCells s = s.data.toList.map bv := rfl

def WritePost (w : World) (S : Nat → Prop) (b : Nat) (v : St) (l : List UInt8) (n : Nat) (e : Ending) (w' : World) : Prop :=
  e = .returned (.tuple #[]) ∧ HashAt w' (More S w) b (absorb v l).1 (absorb v l).2 n ∧ Chg S w w'

theorem info_u8 : (Tryd.prog.info? 5).map (fun i => (i.zero, i.size, i.bytes)) = some (some (.int .u8 0), 1, 1) := by kernel_rfl

set_option maxHeartbeats 1000000 in
theorem Write_any (S : Nat → Prop) (b : Nat) (v : St) (rest : List UInt8) (n : Nat) (s : ByteArray) (w : World) (hH : HashAt w S b v rest n) (hK : ShaTabs w) (hS : NoTab S)
    (hn : n + s.size ≤ 4611686018427387904) (hr : rest.length + s.size ≤ 4294967296) :
    Calls Tryd.prog 14 #[.pointer (some ⟨b, 0, none⟩), .string s] w (WritePost w S b v (rest ++ s.data.toList) (n + s.size)) := by
  obtain ⟨rv, hB, hR, hSb, hSr⟩ := hH
  obtain ⟨i0, hi, hz0, hz1, hz2⟩ := info_parts info_u8
  have hc := hB.cell
  have hf := hB.frozen
  unfold hashCells at hc
  have HB := Lib.hid hB; clear hB
  have HR := Lib.hid hR; clear hR
  go_enter Tryd.func14, Tryd.ntmps14
  go_wp2_with (at_builtin; go_must (refine wpList_append_row _ rfl (.tmp 19) (.tmp 20) 44 9 rfl 5 i0 _ 1 1 Tryd.underlying44 hi hz0 hz1 hz2 rfl (by omega) rv rest.length (rest.map bv) rfl (HR.out.far (HR.out.ne_ HB.out (by decide)) _) (.string s) s.size (s.data.toList.map bv) rfl (Src.ofString _ Tryd.underlying9 s) (by simp only [maxLen]; omega) (by omega) ?_); intro v1 w1 hR1 hC1 hv1; obtain ⟨a1, cap1, rfl, hcap1, hcap1'⟩ := hR1.shape; have hB1 : Blk w1 b 52 #[.int .u32 v.a.toNat, .int .u32 v.b.toNat, .int .u32 v.c.toNat, .int .u32 v.d.toNat, .int .u32 v.e.toNat, .int .u32 v.f.toNat, .int .u32 v.g.toNat, .int .u32 v.h.toNat, rv, .int .i64 ((n : Int) + s.size)] := (HB.out.set_ 9 _).chg hC1 (HR.out.ne_ HB.out (by decide)); have hcc1 := hB1.cell; have hff1 := hB1.frozen; clear hc hf)
  have hnb : (Value.slice a1 (rest.length + s.size) cap1).ownBlock ≠ some b := hR1.ne_ hB1 (by decide)
  have hsz1 : w.heap.size ≤ w1.heap.size := by have := hC1.size; simpa [World.setCell] using this
  have hCh : Chg S w w1 := ((Chg.refl S w).setCell (.inl hSb) _).trans hC1 (fun k _ hk => hSr k hk)
  have hown1 : ∀ k, (Value.slice a1 (rest.length + s.size) cap1).ownBlock = some k → More S w k := fun k hk => by
    rcases hv1 with h | h
    · exact .inl (hSr k (h.symm.trans hk))
    · rw [h] at hk
      injection hk with hk
      subst hk
      exact .inr (by simp [World.setCell])
  go_loopg [] (rest.length + s.size) (fun k wr => ∃ v' rest', k = rest'.length ∧ HashAt wr (More S w) b v' rest' (n + s.size) ∧ absorb v' rest' = absorb v (rest ++ s.data.toList) ∧ Chg S w wr)
  case atStart =>
    refine ⟨v, rest ++ s.data.toList, by rw [List.length_append]; rfl, ⟨_, ?_, ?_, .inl hSb, hown1⟩, rfl, hCh.setCell (.inl hSb) _⟩
    · exact hB1.set_ 8 _
    · have := hR1.far (p := ⟨b, 8, none⟩) hnb (.slice a1 (rest.length + s.size) cap1)
      rw [List.map_append, List.length_append]
      exact this
  case round =>
    obtain ⟨v', rest', rfl, ⟨rv', hB', hR', _, hSr'⟩, habs, hcw⟩ := hrel
    have Habs := Lib.hid habs; clear habs
    clear hcc1 hff1
    have hc' := hB'.cell
    have hf' := hB'.frozen
    unfold hashCells at hc'
    by_cases hlen : 64 ≤ rest'.length
    · obtain ⟨g, off, cap, rfl, hob, hcap2, hcap3, hcells, hfr⟩ := hR'.form (by omega)
      unfold maxLen at hcap3
      have HR' := Lib.hid hR'; clear hR'
      have HB' := Lib.hid hB'; clear hB'
      have Hcells := Lib.hid hcells; clear hcells
      have Hfr := Lib.hid hfr; clear hfr
      have hlenI : (64 : Int) ≤ (rest'.length : Int) := by omega
      have hl' : rest'.length ≤ 9223372036854775807 := by omega
      go_wp2_with fail
      have hgs : g < wr.heap.size := HR'.out.lt g hob
      have hkt : ShaTabs wr := hK.chg hcw hS
      refine (block_any b g off cap v' _ _ (rest'.take 64) wr HB'.out hgs (by omega) (by omega) (fun j hj => Hcells.out j _ (by rw [List.getElem?_map]; simp [List.getElem?_eq_getElem (show j < rest'.length by omega), hj, bv])) hkt.k hkt.kl).mono ?_
      rintro e w2 ⟨rfl, hB2, hC2⟩
      have hc2 := hB2.cell
      have hf2 := hB2.frozen
      unfold hashCells at hc2
      clear hc' hf'
      have hR2 := HR'.out.chg hC2 (fun k hk => by rintro rfl; exact HR'.out.ne_ HB'.out (by decide) hk)
      have hcut := hR2.cut rfl 64 rest'.length hlen (Nat.le_refl _)
      have HR2 := Lib.hid hR2; clear hR2
      have Hcut := Lib.hid hcut; clear hcut
      have HB2 := Lib.hid hB2; clear hB2
      go_wp2_with fail
      all_goals
        go_roundg (rest'.length - 64)
        case measure => omega
        case rel =>
          refine ⟨block v' (rest'.take 64), rest'.drop 64, by rw [List.length_drop], ⟨_, HB2.out.set_ 8 _, ?_, .inl hSb, ?_⟩, by rw [← Habs.out, absorb_step v' rest' hlen], (hcw.trans hC2 (fun i _ h => by rw [h]; exact hSb)).setCell (.inl hSb) _⟩
          · have h1 := Hcut.out.far (p := ⟨b, 8, none⟩) (fun hk => HR2.out.ne_ HB2.out (by decide) (ownBlock_sliced hk)) (sliced (some ⟨g, off, none⟩) 64 rest'.length cap 1)
            simp only [Nat.mul_one, List.take_of_length_le (show (List.map bv rest').length ≤ rest'.length by simp), sliced] at h1
            simpa [*, Addr.add_lit] using h1
          · intro k hk
            apply hSr' k
            simpa [Value.ownBlock] using hk
    · obtain ⟨a', cap', rfl, hca, hcb⟩ := hR'.shape
      have HR' := Lib.hid hR'; clear hR'
      have HB' := Lib.hid hB'; clear hB'
      go_wp2_with fail
      go_end0
      rw [absorb_end v' rest' (by omega)] at Habs
      refine ⟨rfl, ?_, hcw⟩
      rw [← Habs.out]
      exact ⟨_, HB'.out, HR'.out, .inl hSb, hSr'⟩
end Go.Proofs.YtkfngeckojobbaaDoor
