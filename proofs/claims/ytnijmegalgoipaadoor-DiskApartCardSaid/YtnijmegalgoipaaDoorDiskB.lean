/- disk: over, Clone, lasts. -/
import Derived.Test.YtnijmegalgoipaaDoorDiskA
import Derived.Test.YtnijmegalgoipaaDoorSliceW
import Derived.Lib.SliceRun
namespace Go.Proofs.YtnijmegalgoipaaDoor
open Go.RowKit
theorem over_any (v : Value) (l : List UInt8) (at_ : Nat) (d : List UInt8) (w : World) (hR : Row w 5 1 v l.length (l.map bv)) (hat : at_ ≤ l.length) (hlen : at_ + d.length ≤ 70368744177664) (hll : l.length ≤ 70368744177664) :
    Calls Tryd.prog 86 #[v, .int .i64 at_, str d] w fun e w' => ∃ v', e = .returned v' ∧ Row w' 5 1 v' (overM l at_ d).length ((overM l at_ d).map bv) ∧ Chg (fun k => v.ownBlock = some k) w w' ∧ ∀ k, v'.ownBlock = some k → v.ownBlock = some k ∨ w.heap.size ≤ k := by
  obtain ⟨a0, c0, rfl, hc0, _⟩ := hR.shape
  refine W_enter (args := [.slice a0 l.length c0, .int .i64 at_, str d]) 23 Tryd.func86 rfl rfl rfl ?_
  refine W_sub [(0, .slice a0 l.length c0), (1, .int .i64 at_), (2, str d)] ?_ ⟨rfl, rfl, rfl, trivial⟩
  have hcw := Chg.refl (fun k => (Value.slice a0 l.length c0).ownBlock = some k) w
  refine W_rs ?_
  refine sa rfl rfl ?_
  refine Wn ?_
  refine tN ?_
  refine W_seq ?_
  refine W_block ?_
  refine W_lp (fun nw1_ lw1_ w1 => ∃ j : Nat, ∃ a : Option Addr, ∃ c : Nat, nw1_ = (at_ + d.length - l.length) - j ∧ lw1_ = ([(0, .slice a (l.length + j) c), (1, .int .i64 at_), (2, str d)] : Env) ∧ (j ≤ at_ + d.length - l.length) ∧ (Chg (fun k => (Value.slice a0 l.length c0).ownBlock = some k) w w1) ∧ (Row w1 5 1 (.slice a (l.length + j) c) (l.length + j) ((l ++ List.replicate j 0).map bv)) ∧ (∀ k, (Value.slice a (l.length + j) c).ownBlock = some k → (Value.slice a0 l.length c0).ownBlock = some k ∨ w.heap.size ≤ k)) _ ⟨_, ⟨0, a0, c0, rfl, rfl, by omega, hcw, by simpa using hR, fun k hk => .inl hk⟩, ⟨rfl, rfl, rfl, trivial⟩⟩ ?_
  clear hcw
  rintro nw1_ lw1_ w1 ⟨j, a, c, rfl, rfl, hj, hcw, hR, hO⟩
  refine W_seq ?_
  refine W_rs ?_
  refine sm rfl rfl ?_
  refine st (X.lenL rfl rfl Tryd.underlying92) rfl ?_
  refine sm rfl rfl ?_
  refine sm rfl rfl ?_
  refine st (X.lenS rfl rfl Tryd.underlying9) rfl ?_
  refine st (X.add64 rfl rfl (by omega)) rfl ?_
  refine st (X.lss rfl rfl) rfl ?_
  refine Wn ?_
  refine tN ?_
  refine W_if rfl (fun h13 => ?_) (fun h13 => ?_)
  · first | replace h13 := of_decide_eq_true h13 | replace h13 := of_decide_eq_false (notT h13) | replace h13 := notT h13 | skip
    refine W_skip ?_
    refine tN ?_
    refine W_block ?_
    refine W_reg ?_
    refine sm rfl rfl ?_
    refine sbs1 rfl Tryd.underlying92 inf5 rfl rfl (by decide) (by decide) rfl (fun g15 w2 hR15 hg15 hb => ?_)
    replace hcw := hcw.then_below hb
    replace hR := hR.bel hb
    have hz_w2 := hb.size
    clear hb
    have hl15 := hR15.blt (by decide)
    refine sapp rfl rfl Tryd.underlying92 inf5 rfl (by decide) hR (hR15.src Tryd.underlying92 (bv_one [0])) (by simp only [maxLen]; omega) (by omega) rfl (fun v' w3 hR2 hC2 hv => ?_)
    obtain ⟨a', c', rfl, _, _⟩ := hR2.shape
    have hzz := hcw.size
    replace hcw := hcw.next hC2 (fun i hi => hO i hi)
    replace hO : ∀ k, (Value.slice a' (l.length + (j + 1)) c').ownBlock = some k → (Value.slice a0 l.length c0).ownBlock = some k ∨ w.heap.size ≤ k := fun k hk => by
      rcases hv with hv | hv
      · exact hO k (hv.symm.trans hk)
      · rw [show (Value.slice a' (l.length + (j + 1)) c').ownBlock = _ from hv] at hk
        injection hk with hk
        omega
    replace hR : Row w3 5 1 (.slice a' (l.length + (j + 1)) c') (l.length + (j + 1)) ((l ++ List.replicate (j + 1) 0).map bv) := by
      rw [List.replicate_succ', ← List.append_assoc, List.map_append]
      exact hR2
    refine sa rfl rfl ?_
    refine Wn ?_
    refine bN ?_
    refine tN ⟨_, _, ?_, ⟨j + 1, a', c', rfl, rfl, by omega, hcw, hR, hO⟩, ⟨rfl, rfl, rfl, trivial⟩⟩
    omega
  · first | replace h13 := of_decide_eq_false h13 | replace h13 := of_decide_eq_true (notF h13) | replace h13 := notF h13 | skip
    have hj2 : j = at_ + d.length - l.length := by omega
    refine W_exit (tE (tE (bH ?_)))
    refine tN ?_
    refine W_rs ?_
    refine sm rfl rfl ?_
    refine sm rfl rfl ?_
    refine st (X.fromL (i := at_) rfl rfl Tryd.underlying92 siz5 rfl (by omega)) rfl ?_
    refine sm rfl rfl ?_
    refine scpW (i := at_) rfl rfl Tryd.underlying92 siz5 hR (by omega) rfl (fun w4 hR3 hC3 => ?_)
    replace hcw := hcw.next hC3 (fun i hi => hO i hi)
    refine Wn ?_
    refine tN ?_
    refine W_rs ?_
    refine sm rfl rfl ?_
    refine sa rfl rfl ?_
    refine Wn ?_
    refine tN ?_
    refine W_ret ?_
    refine (rT rfl rfl ⟨_, rfl, ?_, hcw, hO⟩).1
    have e1 : l.length + j = (overM l at_ d).length := by rw [overM_length hat]; omega
    have e2 : ((l ++ List.replicate j 0).map bv).take at_ ++ d.map bv ++ ((l ++ List.replicate j 0).map bv).drop (at_ + d.length) = (overM l at_ d).map bv := by
      unfold overM
      rw [List.map_append, List.map_append, List.take_append_of_le_length (by simpa using hat), ← List.map_take]
      by_cases hz : at_ + d.length ≤ l.length
      · obtain rfl : j = 0 := by omega
        simp
      · rw [List.drop_of_length_le (by simp; omega), List.drop_of_length_le (by omega)]
        simp
    rw [e2] at hR3
    rw [← e1]
    exact hR3
theorem Row.one1 {w : World} {e : TypeId} {size n : Nat} {v : Value} {xs : List Value} (h : Row w e size v n xs) : v.oneCell' = true := by
  obtain ⟨a, c, rfl, _⟩ := h.shape
  rfl
/- ---------- slices.Clone ---------- -/
theorem bslB (w : World) : (Instr.buildSlice 92 0 #[]).run Tryd.prog w = .ok (.slice (some ⟨w.heap.size, 0, none⟩) 0 0) (w.alloc (.cells #[] 5)) := by kernel_rfl
theorem bslW (w : World) : (Instr.buildSlice 93 0 #[]).run Tryd.prog w = .ok (.slice (some ⟨w.heap.size, 0, none⟩) 0 0) (w.alloc (.cells #[] 109)) := by kernel_rfl
theorem X.slNil {P : Program} {l : Env} {x : Operand} {w : World} {t t' ty e : TypeId} {a : Option Addr} {n c : Nat} (hu : P.underlying t = some (.slice e)) (hx : ev l x = some (.slice a n c)) : X P l (.binOp .eql t x (.const (.slice none 0 0)) t') ty w (.bool a.isNone) w :=
  X.bin hx rfl (fun _ _ => by unfold eqGuard; simp) (Lib.run_eql_slice_nil w _ _ a n c 0 0 hu)
theorem CloneB_any (v : Value) (l : List UInt8) (w : World) (hR : Row w 5 1 v l.length (l.map bv)) (hl : l.length ≤ 70368744177664) :
    Calls Tryd.prog 66 #[v] w fun e w' => ∃ v', e = .returned v' ∧ Row w' 5 1 v' l.length (l.map bv) ∧ (∀ k, v'.ownBlock = some k → w.heap.size ≤ k) ∧ Below w.heap.size w w' := by
  obtain ⟨a, c, rfl, _, _⟩ := hR.shape
  refine W_enter (args := [.slice a l.length c]) 8 Tryd.func66 rfl rfl rfl ?_
  refine W_sub [(0, .slice a l.length c)] ?_ ⟨rfl, trivial⟩
  have hbw := Below.refl w.heap.size w
  refine W_rs ?_
  refine sa rfl rfl ?_
  refine Wn ?_
  refine tN ?_
  refine W_seq ?_
  refine W_rs ?_
  refine sm rfl rfl ?_
  refine st (X.slNil Tryd.underlying92 rfl) rfl ?_
  refine Wn ?_
  refine tN ?_
  refine W_if rfl (fun h4 => ?_) (fun h4 => ?_)
  · first | replace h4 := of_decide_eq_true h4 | replace h4 := of_decide_eq_false (notT h4) | replace h4 := notT h4 | skip
    obtain rfl : a = none := Option.isNone_iff_eq_none.1 h4
    have h0 : l = [] := by
      rcases hR.2 with ⟨_, h0⟩ | ⟨g, off, cap, cur, fz, hv, _⟩
      · exact List.eq_nil_of_length_eq_zero h0
      · cases hv
    refine W_rs ?_
    refine sa rfl rfl ?_
    refine Wn ?_
    refine tN ?_
    refine W_ret (tR ?_)
    subst h0
    exact (rT rfl rfl ⟨_, rfl, Row.nil _ _ _, fun k hk => by simp [Value.ownBlock] at hk, hbw⟩).1
  · first | replace h4 := of_decide_eq_false h4 | replace h4 := of_decide_eq_true (notF h4) | replace h4 := notF h4 | skip
    refine W_skip ?_
    refine tN ?_
    refine W_rs ?_
    refine sbs (ps := []) (vs := []) (cs := #[]) 1 rfl (bslB _) (by simp [maxLen]) rfl rfl (fun g5 w1 hR5 hg5 hb => ?_)
    replace hbw := bthen hbw hb
    have hz5 := hb.size
    clear hb
    refine sm rfl rfl ?_
    refine sapp rfl rfl Tryd.underlying92 inf5 rfl (by decide) hR5 ((hR.bel hbw).src Tryd.underlying92 (bv_one l)) (by simp only [maxLen]; omega) (by omega) rfl (fun v' w2 hR2 hC2 hv => ?_)
    have hO : ∀ k, v'.ownBlock = some k → w.heap.size ≤ k := own_next hv (fun k hk => by simp [Value.ownBlock] at hk; omega) (by omega)
    replace hbw := bapp hbw hC2 (fun k hk => by simp [Value.ownBlock] at hk; omega)
    refine sa rfl rfl ?_
    refine Wn ?_
    refine tN ?_
    refine W_ret ?_
    refine (rT rfl rfl ⟨v', rfl, ?_, hO, hbw⟩).1
    rw [Nat.zero_add] at hR2
    exact hR2
theorem CloneW_any (v : Value) (l : List (Nat × List UInt8)) (w : World) (hR : Row w 109 2 v l.length (l.flatMap putCells)) (hl : l.length ≤ 1099511627776) :
    Calls Tryd.prog 67 #[v] w fun e w' => ∃ v', e = .returned v' ∧ Row w' 109 2 v' l.length (l.flatMap putCells) ∧ (∀ k, v'.ownBlock = some k → w.heap.size ≤ k) ∧ Below w.heap.size w w' := by
  obtain ⟨a, c, rfl, _, _⟩ := hR.shape
  refine W_enter (args := [.slice a l.length c]) 8 Tryd.func67 rfl rfl rfl ?_
  refine W_sub [(0, .slice a l.length c)] ?_ ⟨rfl, trivial⟩
  have hbw := Below.refl w.heap.size w
  refine W_rs ?_
  refine sa rfl rfl ?_
  refine Wn ?_
  refine tN ?_
  refine W_seq ?_
  refine W_rs ?_
  refine sm rfl rfl ?_
  refine st (X.slNil Tryd.underlying93 rfl) rfl ?_
  refine Wn ?_
  refine tN ?_
  refine W_if rfl (fun h4 => ?_) (fun h4 => ?_)
  · first | replace h4 := of_decide_eq_true h4 | replace h4 := of_decide_eq_false (notT h4) | replace h4 := notT h4 | skip
    obtain rfl : a = none := Option.isNone_iff_eq_none.1 h4
    have h0 : l = [] := by
      rcases hR.2 with ⟨_, h0⟩ | ⟨g, off, cap, cur, fz, hv, _⟩
      · exact List.eq_nil_of_length_eq_zero h0
      · cases hv
    refine W_rs ?_
    refine sa rfl rfl ?_
    refine Wn ?_
    refine tN ?_
    refine W_ret (tR ?_)
    subst h0
    exact (rT rfl rfl ⟨_, rfl, Row.nil _ _ _, fun k hk => by simp [Value.ownBlock] at hk, hbw⟩).1
  · first | replace h4 := of_decide_eq_false h4 | replace h4 := of_decide_eq_true (notF h4) | replace h4 := notF h4 | skip
    refine W_skip ?_
    refine tN ?_
    refine W_rs ?_
    refine sbs (ps := []) (vs := []) (cs := #[]) 2 rfl (bslW _) (by simp [maxLen]) rfl rfl (fun g5 w1 hR5 hg5 hb => ?_)
    replace hbw := bthen hbw hb
    have hz5 := hb.size
    clear hb
    refine sm rfl rfl ?_
    refine sapp rfl rfl Tryd.underlying93 inf109 rfl (by decide) hR5 ((hR.bel hbw).src Tryd.underlying93 (puts_one l)) (by simp only [maxLen]; omega) (by omega) rfl (fun v' w2 hR2 hC2 hv => ?_)
    have hO : ∀ k, v'.ownBlock = some k → w.heap.size ≤ k := own_next hv (fun k hk => by simp [Value.ownBlock] at hk; omega) (by omega)
    replace hbw := bapp hbw hC2 (fun k hk => by simp [Value.ownBlock] at hk; omega)
    refine sa rfl rfl ?_
    refine Wn ?_
    refine tN ?_
    refine W_ret ?_
    refine (rT rfl rfl ⟨v', rfl, ?_, hO, hbw⟩).1
    rw [Nat.zero_add] at hR2
    exact hR2
/- ---------- a file's ---------- -/
theorem lasts_any (g : Nat) (vl vn vp : Value) (l : List UInt8) (w : World) (hB : Blk w g 95 #[vl, vn, vp]) (hN : Row w 5 1 vn l.length (l.map bv)) (hl : l.length ≤ 70368744177664) :
    Calls Tryd.prog 59 #[.pointer (some ⟨g, 0, none⟩)] w fun e w' => e = .returned (.tuple #[]) ∧ ∃ vl', Blk w' g 95 #[vl', vn, .slice none 0 0] ∧ Row w' 5 1 vl' l.length (l.map bv) ∧ Row w' 5 1 vn l.length (l.map bv) ∧ (∀ k, vl'.ownBlock = some k → w.heap.size ≤ k) ∧ Chg (fun k => k = g) w w' := by
  have hlt := hB.lt
  refine W_enter (args := [.pointer (some ⟨g, 0, none⟩)]) 13 Tryd.func59 rfl rfl rfl ?_
  refine W_sub [(0, .pointer (some ⟨g, 0, none⟩))] ?_ ⟨rfl, trivial⟩
  have hcw := Chg.refl (fun k => k = g) w
  refine W_reg ?_
  refine sm rfl rfl ?_
  refine sm rfl rfl ?_
  refine sm rfl rfl ?_
  refine st (X.nilChk rfl) rfl ?_
  refine st (X.fa fa95_1 rfl) rfl ?_
  refine st (X.ldL rfl hB Tryd.underlying92 rfl rfl) rfl ?_
  refine sc _ Tryd.func66 rfl (by kernel_rfl) rfl rfl ((CloneB_any vn l _ hN hl).mono ?_)
  rintro e_ w1 ⟨v', rfl, hV, hO, hb⟩
  refine cR ?_
  replace hcw := hcw.then_below hb
  replace hN := hN.bel hb
  replace hB := hB.bel hb
  have hz_w1 := hb.size
  clear hb
  refine st (X.nilChk rfl) rfl ?_
  refine st (X.fa fa95_0 rfl) rfl ?_
  refine ssB rfl rfl hB siz92 hV.one1 (by simp) (fun w2 hB1 hC1 => ?_)
  replace hV := hV.chg hC1 (fun k hk e => hV.ne_ hB (by decide) (by rw [← e]; exact hk))
  replace hN := hN.chg hC1 (fun k hk e => hN.ne_ hB (by decide) (by rw [← e]; exact hk))
  replace hcw := hcw.next hC1 (fun i hi => .inl hi)
  refine st (X.nilChk rfl) rfl ?_
  refine st (X.fa fa95_2 rfl) rfl ?_
  refine ssB rfl rfl hB1 siz93 rfl (by simp) (fun w3 hB2 hC2 => ?_)
  replace hV := hV.chg hC2 (fun k hk e => hV.ne_ hB1 (by decide) (by rw [← e]; exact hk))
  replace hN := hN.chg hC2 (fun k hk e => hN.ne_ hB1 (by decide) (by rw [← e]; exact hk))
  replace hcw := hcw.next hC2 (fun i hi => .inl hi)
  refine Wn ?_
  exact (r0 rfl ⟨rfl, v', hB2, hV, hN, hO, hcw⟩).2
end Go.Proofs.YtnijmegalgoipaaDoor
