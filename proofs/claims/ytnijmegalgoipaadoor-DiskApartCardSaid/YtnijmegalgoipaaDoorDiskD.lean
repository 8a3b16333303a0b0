/- disk: New, Stop, Create, Append, Write, Size, Read, Sync. -/
import Derived.Test.YtnijmegalgoipaaDoorDiskC
namespace Go.Proofs.YtnijmegalgoipaaDoor
open Go.RowKit
/-- what a call that answers a number leaves -/
def DPost (g : Nat) (S : Nat → Prop) (w : World) (x : Int × DiskD) (e : Ending) (w' : World) : Prop := e = .returned (.int .i64 x.1) ∧ DiskAt w' g x.2 (Ext S w w') ∧ Chg S w w'
/-- what has been written is not too much -/
structure DBud (D : DiskD) : Prop where
  pend : ∀ n f, mget D.files n = some f → pendLen f.pend ≤ 1099511627776 ∧ f.pend.length ≤ 1099511627776
  ref : D.refused ≤ 4611686018427387904
theorem tick_bud {D : DiskD} (h : DBud D) : DBud (tickM D) := by
  unfold tickM
  split
  · exact ⟨h.pend, h.ref⟩
  · exact h
theorem opM_live {D : DiskD} (hl : ¬ (D.stops = true ∧ D.left = 0)) (k : DiskD → Int × DiskD) : opM D k = k (tickM D) := if_neg hl
theorem opM_dead {D : DiskD} (hl : D.stops = true ∧ D.left = 0) (k : DiskD → Int × DiskD) : opM D k = (19, D) := if_pos hl
theorem fileM_some {D : DiskD} {n : Key} {f : FileD} (h : mget D.files n = some f) (k : FileD → Int × DiskD) : fileM D n k = k f := by unfold fileM; rw [h]
theorem fileM_none {D : DiskD} {n : Key} (h : mget D.files n = none) (k : FileD → Int × DiskD) : fileM D n k = (15, D) := by unfold fileM; rw [h]
theorem tick_get {D : DiskD} {n : Key} {o : Option FileD} (h : mget D.files n = o) : mget (tickM D).files n = o := by rw [tick_files]; exact h
section
variable {w w1 w' : World} {g : Nat} {S : Nat → Prop} {D : DiskD} {x : Int × DiskD} {e : Ending}
theorem DPost.same (h : DiskAt w g D S) (hb : Below w.heap.size w w') {i : Int} (he : x = (i, D)) : DPost g S w x (.returned (.int .i64 i)) w' := by
  subst he
  exact ⟨rfl, (h.bel hb).mono Ext.of, Chg.of_below hb S⟩
theorem DPost.of {b : Nat} {rs : List (Key × FRec)} (h : DiskIn w' g b D rs S) (hC : Chg S w w') {i : Int} (he : x = (i, D)) : DPost g S w x (.returned (.int .i64 i)) w' := by
  subst he
  exact ⟨rfl, ⟨b, rs, h.mono Ext.of⟩, hC⟩
theorem Ext.up (hz : w.heap.size ≤ w1.heap.size) : ∀ k, Ext S w1 w' k → Ext S w w' k := fun k hk => hk.imp id (fun e => ⟨by omega, e.2⟩)
theorem DPost.up (hC : Chg S w w1) (hD : DiskAt w' g x.2 (Ext S w1 w')) (hC2 : Chg S w1 w') {y : Int × DiskD} (he : y = x) : DPost g S w y (.returned (.int .i64 x.1)) w' := by
  subst he
  exact ⟨rfl, hD.mono (Ext.up hC.size), hC.next hC2 (fun _ h => .inl h)⟩
end
theorem bdisk (b : Nat) (n : Int) (w : World) : (Instr.build 88 #[(0, .map (some b)), (1, .int .i64 n)]).run Tryd.prog w = .ok (.agg (diskCells b (newM n))) w := by kernel_rfl
theorem New_ok (n : Int) (w : World) (hn : 0 ≤ n ∧ n ≤ 16777216) :
    Calls Tryd.prog 23 #[.int .i64 n] w fun e w' => ∃ g S, e = .returned (.tuple #[.pointer (some ⟨g, 0, none⟩), .int .i64 0]) ∧ DiskAt w' g (newM n) S ∧ (∀ k, S k → w.heap.size ≤ k ∧ k < w'.heap.size) ∧ Below w.heap.size w w' := by
  refine W_enter (args := [.int .i64 n]) 14 Tryd.func23 rfl rfl rfl ?_
  refine W_sub [(0, .int .i64 n)] ?_ ⟨rfl, trivial⟩
  have hbw := Below.refl w.heap.size w
  refine W_rs ?_
  refine sa rfl rfl ?_
  refine sa rfl rfl ?_
  refine Wn ?_
  refine tN ?_
  refine W_seq ?_
  refine W_rs ?_
  refine sm rfl rfl ?_
  refine st (X.lss rfl rfl) rfl ?_
  refine sb rfl rfl (fun h6 => ?_) (fun h6 => ?_)
  · first | replace h6 := of_decide_eq_true h6 | replace h6 := of_decide_eq_false (notT h6) | replace h6 := notT h6 | skip
    omega
  · first | replace h6 := of_decide_eq_false h6 | replace h6 := of_decide_eq_true (notF h6) | replace h6 := notF h6 | skip
    refine gY (g := 6) rfl rfl rfl ?_
    refine sm rfl rfl ?_
    refine gY (g := 6) rfl rfl rfl ?_
    refine st (X.gtr rfl rfl) rfl ?_
    refine st (X.pickF rfl rfl) rfl ?_
    refine Wn ?_
    refine tN ?_
    refine W_no rfl (decide_eq_false (by omega)) ?_
    refine W_skip ?_
    refine tN ?_
    refine W_rs ?_
    refine smm (κ := Key) (enc := str) (encv := encPtr) rfl (fun b w1 hM hbg hb hbl => ?_)
    replace hbw := bthen hbw hb
    clear hb
    refine sm rfl rfl ?_
    refine st (X.bld rfl (bdisk _ _ _)) rfl ?_
    refine sboxA rfl rfl (fun g13 w2 hB13 hg13 hb hl13 => ?_)
    have hpend := hb
    replace hbw := bthen hbw hb
    have hz_w2 := hb.size
    clear hb
    refine sa rfl rfl ?_
    refine sa rfl rfl ?_
    refine Wn ?_
    refine tN ?_
    replace hM := hM.bel hpend
    clear hpend
    refine W_ret ?_
    have hM' := hM
    have hMl := hM'.lt
    refine (rTT rfl rfl rfl ⟨g13, fun k => k = g13 ∨ k = b, rfl, ⟨b, [], hB13, hM', fun n => rfl, fun n r hr => (by cases hr), fun n m r s k hr => (by cases hr), ⟨.inl rfl, .inr rfl⟩, fun n r k hr => (by cases hr)⟩, fun k hk => ?_, hbw⟩).1
    rcases hk with rfl | rfl <;> omega
theorem New_bad (n : Int) (w : World) (hn : ¬ (0 ≤ n ∧ n ≤ 16777216)) :
    Calls Tryd.prog 23 #[.int .i64 n] w fun e w' => e = .returned (.tuple #[.pointer none, .int .i64 1]) ∧ Below w.heap.size w w' := by
  refine W_enter (args := [.int .i64 n]) 14 Tryd.func23 rfl rfl rfl ?_
  refine W_sub [(0, .int .i64 n)] ?_ ⟨rfl, trivial⟩
  have hbw := Below.refl w.heap.size w
  refine W_rs ?_
  refine sa rfl rfl ?_
  refine sa rfl rfl ?_
  refine Wn ?_
  refine tN ?_
  refine W_seq ?_
  refine W_rs ?_
  refine sm rfl rfl ?_
  refine st (X.lss rfl rfl) rfl ?_
  refine sb rfl rfl (fun h6 => ?_) (fun h6 => ?_)
  · first | replace h6 := of_decide_eq_true h6 | replace h6 := of_decide_eq_false (notT h6) | replace h6 := notT h6 | skip
    refine gN (g := 6) rfl rfl rfl rfl ?_
    refine gN (g := 6) rfl rfl rfl rfl ?_
    refine st (X.pickT rfl rfl) rfl ?_
    refine Wn ?_
    refine tN ?_
    refine W_yes rfl (rfl) ?_
    refine W_rs ?_
    refine sa rfl rfl ?_
    refine sa rfl rfl ?_
    refine Wn ?_
    refine tN ?_
    refine W_ret (tR ?_)
    exact (rTT rfl rfl rfl ⟨rfl, hbw⟩).1
  · first | replace h6 := of_decide_eq_false h6 | replace h6 := of_decide_eq_true (notF h6) | replace h6 := notF h6 | skip
    refine gY (g := 6) rfl rfl rfl ?_
    refine sm rfl rfl ?_
    refine gY (g := 6) rfl rfl rfl ?_
    refine st (X.gtr rfl rfl) rfl ?_
    refine st (X.pickF rfl rfl) rfl ?_
    refine Wn ?_
    refine tN ?_
    refine W_yes rfl (decide_eq_true (by omega)) ?_
    refine W_rs ?_
    refine sa rfl rfl ?_
    refine sa rfl rfl ?_
    refine Wn ?_
    refine tN ?_
    refine W_ret (tR ?_)
    exact (rTT rfl rfl rfl ⟨rfl, hbw⟩).1
theorem Stop_any (g : Nat) (D : DiskD) (S : Nat → Prop) (n : Int) (w : World) (h : DiskAt w g D S) :
    Calls Tryd.prog 38 #[.pointer (some ⟨g, 0, none⟩), .int .i64 n] w fun e w' => e = .returned (.tuple #[]) ∧ DiskAt w' g (stopM D n) S ∧ Chg S w w' := by
  obtain ⟨b, rs, h⟩ := h
  have hB : Blk w g 88 #[.map (some b), .int .i64 D.limit, .int .i64 D.used, .int .i64 D.refused, .bool D.stops, .int .i64 D.left] := h.blk
  have hlt := hB.lt
  refine W_enter (args := [.pointer (some ⟨g, 0, none⟩), .int .i64 n]) 15 Tryd.func38 rfl rfl rfl ?_
  refine W_sub [(0, .pointer (some ⟨g, 0, none⟩)), (1, .int .i64 n)] ?_ ⟨rfl, rfl, trivial⟩
  have hcw := Chg.refl (fun k => k = g) w
  refine W_rs ?_
  refine sm rfl rfl ?_
  refine st (X.dNe rfl) rfl ?_
  refine Wn ?_
  refine tN ?_
  refine W_yes rfl (rfl) ?_
  refine W_reg ?_
  refine sm rfl rfl ?_
  refine sm rfl rfl ?_
  refine sm rfl rfl ?_
  refine st (X.geq rfl rfl) rfl ?_
  refine sm rfl rfl ?_
  refine st (X.nilChk rfl) rfl ?_
  refine st (X.fa fa88_4 rfl) rfl ?_
  refine ssB rfl rfl hB siz4 rfl (by first | decide | simp) (fun w1 hB_ hc_ => ?_)
  replace hB := hB_
  clear hB_
  replace hcw := hcw.next hc_ (fun i_ hi_ => by first | exact .inl hi_ | (right; subst hi_; omega))
  have hz_w1 := hc_.size
  clear hc_
  refine st (X.nilChk rfl) rfl ?_
  refine st (X.fa fa88_5 rfl) rfl ?_
  refine ssB rfl rfl hB siz3 rfl (by first | decide | simp) (fun w2 hB_ hc_ => ?_)
  replace hB := hB_
  clear hB_
  replace hcw := hcw.next hc_ (fun i_ hi_ => by first | exact .inl hi_ | (right; subst hi_; omega))
  have hz_w2 := hc_.size
  clear hc_
  refine Wn ?_
  refine (r0 rfl ⟨rfl, ⟨b, rs, h.self hcw hB rfl⟩, hcw.mono (fun k _ hk => by rw [hk]; exact h.inS.1)⟩).2
theorem Stop_nil (n : Int) (w : World) : Calls Tryd.prog 38 #[.pointer none, .int .i64 n] w fun e w' => e = .returned (.tuple #[]) ∧ Below w.heap.size w w' := by
  refine W_enter (args := [.pointer none, .int .i64 n]) 15 Tryd.func38 rfl rfl rfl ?_
  refine W_sub [(0, .pointer none), (1, .int .i64 n)] ?_ ⟨rfl, rfl, trivial⟩
  have hbw := Below.refl w.heap.size w
  refine W_rs ?_
  refine sm rfl rfl ?_
  refine st (X.dNe rfl) rfl ?_
  refine Wn ?_
  refine tN ?_
  refine W_no rfl (rfl) ?_
  refine W_skip ?_
  exact (r0 rfl ⟨rfl, hbw⟩).2
/- ---------- what reads ---------- -/
theorem Used_any (g : Nat) (D : DiskD) (S : Nat → Prop) (w : World) (h : DiskAt w g D S) : Calls Tryd.prog 30 #[.pointer (some ⟨g, 0, none⟩)] w fun e w' => e = .returned (.int .i64 D.used) ∧ Below w.heap.size w w' := by
  obtain ⟨b, rs, h⟩ := h
  have hB : Blk w g 88 #[.map (some b), .int .i64 D.limit, .int .i64 D.used, .int .i64 D.refused, .bool D.stops, .int .i64 D.left] := h.blk
  refine W_enter (args := [.pointer (some ⟨g, 0, none⟩)]) 9 Tryd.func30 rfl rfl rfl ?_
  refine W_sub [(0, .pointer (some ⟨g, 0, none⟩))] ?_ ⟨rfl, trivial⟩
  have hbw := Below.refl w.heap.size w
  refine W_rs ?_
  refine sa rfl rfl ?_
  refine Wn ?_
  refine tN ?_
  refine W_seq ?_
  refine W_rs ?_
  refine sm rfl rfl ?_
  refine st (X.dEq rfl) rfl ?_
  refine Wn ?_
  refine tN ?_
  refine W_no rfl (rfl) ?_
  refine W_skip ?_
  refine tN ?_
  refine W_rs ?_
  refine sm rfl rfl ?_
  refine st (X.nilChk rfl) rfl ?_
  refine st (X.fa fa88_2 rfl) rfl ?_
  refine st (X.ldL rfl hB Tryd.underlying3 rfl rfl) rfl ?_
  refine sa rfl rfl ?_
  refine Wn ?_
  refine tN ?_
  refine W_ret ?_
  exact (rT rfl rfl ⟨rfl, hbw⟩).1
theorem Used_nil (w : World) : Calls Tryd.prog 30 #[.pointer none] w fun e w' => e = .returned (.int .i64 0) ∧ Below w.heap.size w w' := by
  refine W_enter (args := [.pointer none]) 9 Tryd.func30 rfl rfl rfl ?_
  refine W_sub [(0, .pointer none)] ?_ ⟨rfl, trivial⟩
  have hbw := Below.refl w.heap.size w
  refine W_rs ?_
  refine sa rfl rfl ?_
  refine Wn ?_
  refine tN ?_
  refine W_seq ?_
  refine W_rs ?_
  refine sm rfl rfl ?_
  refine st (X.dEq rfl) rfl ?_
  refine Wn ?_
  refine tN ?_
  refine W_yes rfl (rfl) ?_
  refine W_rs ?_
  refine sa rfl rfl ?_
  refine Wn ?_
  refine tN ?_
  refine W_ret (tR ?_)
  exact (rT rfl rfl ⟨rfl, hbw⟩).1
theorem Limit_any (g : Nat) (D : DiskD) (S : Nat → Prop) (w : World) (h : DiskAt w g D S) : Calls Tryd.prog 41 #[.pointer (some ⟨g, 0, none⟩)] w fun e w' => e = .returned (.int .i64 D.limit) ∧ Below w.heap.size w w' := by
  obtain ⟨b, rs, h⟩ := h
  have hB : Blk w g 88 #[.map (some b), .int .i64 D.limit, .int .i64 D.used, .int .i64 D.refused, .bool D.stops, .int .i64 D.left] := h.blk
  refine W_enter (args := [.pointer (some ⟨g, 0, none⟩)]) 9 Tryd.func41 rfl rfl rfl ?_
  refine W_sub [(0, .pointer (some ⟨g, 0, none⟩))] ?_ ⟨rfl, trivial⟩
  have hbw := Below.refl w.heap.size w
  refine W_rs ?_
  refine sa rfl rfl ?_
  refine Wn ?_
  refine tN ?_
  refine W_seq ?_
  refine W_rs ?_
  refine sm rfl rfl ?_
  refine st (X.dEq rfl) rfl ?_
  refine Wn ?_
  refine tN ?_
  refine W_no rfl (rfl) ?_
  refine W_skip ?_
  refine tN ?_
  refine W_rs ?_
  refine sm rfl rfl ?_
  refine st (X.nilChk rfl) rfl ?_
  refine st (X.fa fa88_1 rfl) rfl ?_
  refine st (X.ldL rfl hB Tryd.underlying3 rfl rfl) rfl ?_
  refine sa rfl rfl ?_
  refine Wn ?_
  refine tN ?_
  refine W_ret ?_
  exact (rT rfl rfl ⟨rfl, hbw⟩).1
theorem Limit_nil (w : World) : Calls Tryd.prog 41 #[.pointer none] w fun e w' => e = .returned (.int .i64 0) ∧ Below w.heap.size w w' := by
  refine W_enter (args := [.pointer none]) 9 Tryd.func41 rfl rfl rfl ?_
  refine W_sub [(0, .pointer none)] ?_ ⟨rfl, trivial⟩
  have hbw := Below.refl w.heap.size w
  refine W_rs ?_
  refine sa rfl rfl ?_
  refine Wn ?_
  refine tN ?_
  refine W_seq ?_
  refine W_rs ?_
  refine sm rfl rfl ?_
  refine st (X.dEq rfl) rfl ?_
  refine Wn ?_
  refine tN ?_
  refine W_yes rfl (rfl) ?_
  refine W_rs ?_
  refine sa rfl rfl ?_
  refine Wn ?_
  refine tN ?_
  refine W_ret (tR ?_)
  exact (rT rfl rfl ⟨rfl, hbw⟩).1
theorem Refused_any (g : Nat) (D : DiskD) (S : Nat → Prop) (w : World) (h : DiskAt w g D S) : Calls Tryd.prog 40 #[.pointer (some ⟨g, 0, none⟩)] w fun e w' => e = .returned (.int .i64 D.refused) ∧ Below w.heap.size w w' := by
  obtain ⟨b, rs, h⟩ := h
  have hB : Blk w g 88 #[.map (some b), .int .i64 D.limit, .int .i64 D.used, .int .i64 D.refused, .bool D.stops, .int .i64 D.left] := h.blk
  refine W_enter (args := [.pointer (some ⟨g, 0, none⟩)]) 9 Tryd.func40 rfl rfl rfl ?_
  refine W_sub [(0, .pointer (some ⟨g, 0, none⟩))] ?_ ⟨rfl, trivial⟩
  have hbw := Below.refl w.heap.size w
  refine W_rs ?_
  refine sa rfl rfl ?_
  refine Wn ?_
  refine tN ?_
  refine W_seq ?_
  refine W_rs ?_
  refine sm rfl rfl ?_
  refine st (X.dEq rfl) rfl ?_
  refine Wn ?_
  refine tN ?_
  refine W_no rfl (rfl) ?_
  refine W_skip ?_
  refine tN ?_
  refine W_rs ?_
  refine sm rfl rfl ?_
  refine st (X.nilChk rfl) rfl ?_
  refine st (X.fa fa88_3 rfl) rfl ?_
  refine st (X.ldL rfl hB Tryd.underlying3 rfl rfl) rfl ?_
  refine sa rfl rfl ?_
  refine Wn ?_
  refine tN ?_
  refine W_ret ?_
  exact (rT rfl rfl ⟨rfl, hbw⟩).1
theorem Refused_nil (w : World) : Calls Tryd.prog 40 #[.pointer none] w fun e w' => e = .returned (.int .i64 0) ∧ Below w.heap.size w w' := by
  refine W_enter (args := [.pointer none]) 9 Tryd.func40 rfl rfl rfl ?_
  refine W_sub [(0, .pointer none)] ?_ ⟨rfl, trivial⟩
  have hbw := Below.refl w.heap.size w
  refine W_rs ?_
  refine sa rfl rfl ?_
  refine Wn ?_
  refine tN ?_
  refine W_seq ?_
  refine W_rs ?_
  refine sm rfl rfl ?_
  refine st (X.dEq rfl) rfl ?_
  refine Wn ?_
  refine tN ?_
  refine W_yes rfl (rfl) ?_
  refine W_rs ?_
  refine sa rfl rfl ?_
  refine Wn ?_
  refine tN ?_
  refine W_ret (tR ?_)
  exact (rT rfl rfl ⟨rfl, hbw⟩).1
theorem Size_any (g : Nat) (D : DiskD) (S : Nat → Prop) (n : Key) (w : World) (h : DiskAt w g D S) : Calls Tryd.prog 34 #[.pointer (some ⟨g, 0, none⟩), str n] w fun e w' => e = .returned (.tuple #[.int .i64 (sizeM D n).1, .int .i64 (sizeM D n).2]) ∧ Below w.heap.size w w' := by
  obtain ⟨b, rs, h⟩ := h
  unfold sizeM
  rw [h.files]
  cases hr : mget rs n with
  | none =>
    refine W_enter (args := [.pointer (some ⟨g, 0, none⟩), str n]) 22 Tryd.func34 rfl rfl rfl ?_
    refine W_sub [(0, .pointer (some ⟨g, 0, none⟩)), (1, str n)] ?_ ⟨rfl, rfl, trivial⟩
    have hbw := Below.refl w.heap.size w
    refine W_rs ?_
    refine sa rfl rfl ?_
    refine sa rfl rfl ?_
    refine Wn ?_
    refine tN ?_
    refine W_rs ?_
    refine sm rfl rfl ?_
    refine sm rfl rfl ?_
    refine sc _ Tryd.func57 rfl (by kernel_rfl) rfl rfl ((find_none g b D rs S n _ (h.bel hbw) hr).mono ?_)
    rintro e_ w1 ⟨rfl, hb⟩
    refine cR ?_
    replace hbw := bthen hbw hb
    have hz_w1 := hb.size
    clear hb
    refine sm rfl rfl ?_
    refine st (X.ext rfl rfl) rfl ?_
    refine st (X.ext rfl rfl) rfl ?_
    refine sa rfl rfl ?_
    refine sa rfl rfl ?_
    refine Wn ?_
    refine tN ?_
    refine W_seq ?_
    refine W_rs ?_
    refine sm rfl rfl ?_
    refine st (X.neq rfl rfl) rfl ?_
    refine Wn ?_
    refine tN ?_
    refine W_yes rfl (rfl) ?_
    refine W_rs ?_
    refine sm rfl rfl ?_
    refine sa rfl rfl ?_
    refine sa rfl rfl ?_
    refine Wn ?_
    refine tN ?_
    refine W_ret (tR ?_)
    exact (rTT rfl rfl rfl ⟨rfl, hbw⟩).1
  | some r =>
    have hfile := h.at_ n r hr
    have hF := hfile.blk
    obtain ⟨a, c, hvn, _⟩ := hfile.now.shape
    rw [hvn] at hF
    refine W_enter (args := [.pointer (some ⟨g, 0, none⟩), str n]) 22 Tryd.func34 rfl rfl rfl ?_
    refine W_sub [(0, .pointer (some ⟨g, 0, none⟩)), (1, str n)] ?_ ⟨rfl, rfl, trivial⟩
    have hbw := Below.refl w.heap.size w
    refine W_rs ?_
    refine sa rfl rfl ?_
    refine sa rfl rfl ?_
    refine Wn ?_
    refine tN ?_
    refine W_rs ?_
    refine sm rfl rfl ?_
    refine sm rfl rfl ?_
    refine sc _ Tryd.func57 rfl (by kernel_rfl) rfl rfl ((find_some g b D rs S n r _ (h.bel hbw) hr).mono ?_)
    rintro e_ w1 ⟨rfl, hb⟩
    refine cR ?_
    replace hbw := bthen hbw hb
    replace hF := hF.bel hb
    have hz_w1 := hb.size
    clear hb
    refine sm rfl rfl ?_
    refine st (X.ext rfl rfl) rfl ?_
    refine st (X.ext rfl rfl) rfl ?_
    refine sa rfl rfl ?_
    refine sa rfl rfl ?_
    refine Wn ?_
    refine tN ?_
    refine W_seq ?_
    refine W_rs ?_
    refine sm rfl rfl ?_
    refine st (X.neq rfl rfl) rfl ?_
    refine Wn ?_
    refine tN ?_
    refine W_no rfl (rfl) ?_
    refine W_skip ?_
    refine tN ?_
    refine W_rs ?_
    refine sm rfl rfl ?_
    refine st (X.nilChk rfl) rfl ?_
    refine st (X.fa fa95_1 rfl) rfl ?_
    refine st (X.ldL rfl hF Tryd.underlying92 rfl rfl) rfl ?_
    refine st (X.lenL rfl rfl Tryd.underlying92) rfl ?_
    refine sa rfl rfl ?_
    refine sa rfl rfl ?_
    refine Wn ?_
    refine tN ?_
    refine W_ret ?_
    exact (rTT rfl rfl rfl ⟨rfl, hbw⟩).1
theorem Size_nil (n : Key) (w : World) : Calls Tryd.prog 34 #[.pointer none, str n] w fun e w' => e = .returned (.tuple #[.int .i64 0, .int .i64 2]) ∧ Below w.heap.size w w' := by
  refine W_enter (args := [.pointer none, str n]) 22 Tryd.func34 rfl rfl rfl ?_
  refine W_sub [(0, .pointer none), (1, str n)] ?_ ⟨rfl, rfl, trivial⟩
  have hbw := Below.refl w.heap.size w
  refine W_rs ?_
  refine sa rfl rfl ?_
  refine sa rfl rfl ?_
  refine Wn ?_
  refine tN ?_
  refine W_rs ?_
  refine sm rfl rfl ?_
  refine sm rfl rfl ?_
  refine sc _ Tryd.func57 rfl (by kernel_rfl) rfl rfl ((find_nil n _).mono ?_)
  rintro e_ w1 ⟨rfl, hb⟩
  refine cR ?_
  replace hbw := bthen hbw hb
  have hz_w1 := hb.size
  clear hb
  refine sm rfl rfl ?_
  refine st (X.ext rfl rfl) rfl ?_
  refine st (X.ext rfl rfl) rfl ?_
  refine sa rfl rfl ?_
  refine sa rfl rfl ?_
  refine Wn ?_
  refine tN ?_
  refine W_seq ?_
  refine W_rs ?_
  refine sm rfl rfl ?_
  refine st (X.neq rfl rfl) rfl ?_
  refine Wn ?_
  refine tN ?_
  refine W_yes rfl (rfl) ?_
  refine W_rs ?_
  refine sm rfl rfl ?_
  refine sa rfl rfl ?_
  refine sa rfl rfl ?_
  refine Wn ?_
  refine tN ?_
  refine W_ret (tR ?_)
  exact (rTT rfl rfl rfl ⟨rfl, hbw⟩).1
theorem Read_nil (n : Key) (i k : Int) (w : World) : Calls Tryd.prog 29 #[.pointer none, str n, .int .i64 i, .int .i64 k] w fun e w' => e = .returned (.tuple #[str [], .int .i64 2]) ∧ Below w.heap.size w w' := by
  refine W_enter (args := [.pointer none, str n, .int .i64 i, .int .i64 k]) 56 Tryd.func29 rfl rfl rfl ?_
  refine W_sub [(0, .pointer none), (1, str n), (2, .int .i64 i), (3, .int .i64 k)] ?_ ⟨rfl, rfl, rfl, rfl, trivial⟩
  have hbw := Below.refl w.heap.size w
  refine W_rs ?_
  refine sa rfl rfl ?_
  refine sa rfl rfl ?_
  refine Wn ?_
  refine tN ?_
  refine W_rs ?_
  refine sm rfl rfl ?_
  refine sm rfl rfl ?_
  refine sc _ Tryd.func57 rfl (by kernel_rfl) rfl rfl ((find_nil n _).mono ?_)
  rintro e_ w1 ⟨rfl, hb⟩
  refine cR ?_
  replace hbw := bthen hbw hb
  have hz_w1 := hb.size
  clear hb
  refine sm rfl rfl ?_
  refine st (X.ext rfl rfl) rfl ?_
  refine st (X.ext rfl rfl) rfl ?_
  refine sa rfl rfl ?_
  refine sa rfl rfl ?_
  refine Wn ?_
  refine tN ?_
  refine W_seq ?_
  refine W_block ?_
  refine W_rs ?_
  refine sm rfl rfl ?_
  refine st (X.neq rfl rfl) rfl ?_
  refine sa rfl rfl ?_
  refine Wn ?_
  refine tN ?_
  refine W_yes rfl (rfl) ?_
  refine W_rs ?_
  refine sm rfl rfl ?_
  refine sa rfl rfl ?_
  refine sa rfl rfl ?_
  refine Wn ?_
  refine tN ?_
  refine W_ret (bR (tR ?_))
  exact (rTT rfl rfl rfl ⟨rfl, hbw⟩).1
set_option maxRecDepth 10000 in
theorem Read_any (g : Nat) (D : DiskD) (S : Nat → Prop) (n : Key) (i k : Int) (w : World) (h : DiskAt w g D S) (hok : DOk D) : Calls Tryd.prog 29 #[.pointer (some ⟨g, 0, none⟩), str n, .int .i64 i, .int .i64 k] w fun e w' => e = .returned (.tuple #[str (readM D n i k).1, .int .i64 (readM D n i k).2]) ∧ Below w.heap.size w w' := by
  obtain ⟨b, rs, h⟩ := h
  unfold readM
  have hff := h.files n
  cases hr : mget rs n with
  | none =>
    rw [h.files, hr]
    refine W_enter (args := [.pointer (some ⟨g, 0, none⟩), str n, .int .i64 i, .int .i64 k]) 56 Tryd.func29 rfl rfl rfl ?_
    refine W_sub [(0, .pointer (some ⟨g, 0, none⟩)), (1, str n), (2, .int .i64 i), (3, .int .i64 k)] ?_ ⟨rfl, rfl, rfl, rfl, trivial⟩
    have hbw := Below.refl w.heap.size w
    refine W_rs ?_
    refine sa rfl rfl ?_
    refine sa rfl rfl ?_
    refine Wn ?_
    refine tN ?_
    refine W_rs ?_
    refine sm rfl rfl ?_
    refine sm rfl rfl ?_
    refine sc _ Tryd.func57 rfl (by kernel_rfl) rfl rfl ((find_none g b D rs S n _ (h.bel hbw) hr).mono ?_)
    rintro e_ w1 ⟨rfl, hb⟩
    refine cR ?_
    replace hbw := bthen hbw hb
    have hz_w1 := hb.size
    clear hb
    refine sm rfl rfl ?_
    refine st (X.ext rfl rfl) rfl ?_
    refine st (X.ext rfl rfl) rfl ?_
    refine sa rfl rfl ?_
    refine sa rfl rfl ?_
    refine Wn ?_
    refine tN ?_
    refine W_seq ?_
    refine W_block ?_
    refine W_rs ?_
    refine sm rfl rfl ?_
    refine st (X.neq rfl rfl) rfl ?_
    refine sa rfl rfl ?_
    refine Wn ?_
    refine tN ?_
    refine W_yes rfl (rfl) ?_
    refine W_rs ?_
    refine sm rfl rfl ?_
    refine sa rfl rfl ?_
    refine sa rfl rfl ?_
    refine Wn ?_
    refine tN ?_
    refine W_ret (bR (tR ?_))
    exact (rTT rfl rfl rfl ⟨rfl, hbw⟩).1
  | some r =>
    rw [hr] at hff
    rw [hff]
    have hfile := h.at_ n r hr
    have hF := hfile.blk
    have hNo := hfile.now
    have hlen := (hok.len hff).1
    obtain ⟨a, c, hvn, hc1, _⟩ := hfile.now.shape
    rw [hvn] at hF hNo
    simp only [Option.map_some]
    refine W_enter (args := [.pointer (some ⟨g, 0, none⟩), str n, .int .i64 i, .int .i64 k]) 56 Tryd.func29 rfl rfl rfl ?_
    refine W_sub [(0, .pointer (some ⟨g, 0, none⟩)), (1, str n), (2, .int .i64 i), (3, .int .i64 k)] ?_ ⟨rfl, rfl, rfl, rfl, trivial⟩
    have hbw := Below.refl w.heap.size w
    refine W_rs ?_
    refine sa rfl rfl ?_
    refine sa rfl rfl ?_
    refine Wn ?_
    refine tN ?_
    refine W_rs ?_
    refine sm rfl rfl ?_
    refine sm rfl rfl ?_
    refine sc _ Tryd.func57 rfl (by kernel_rfl) rfl rfl ((find_some g b D rs S n r _ (h.bel hbw) hr).mono ?_)
    rintro e_ w1 ⟨rfl, hb⟩
    refine cR ?_
    replace hbw := bthen hbw hb
    replace hF := hF.bel hb
    replace hNo := hNo.bel hb
    have hz_w1 := hb.size
    clear hb
    refine sm rfl rfl ?_
    refine st (X.ext rfl rfl) rfl ?_
    refine st (X.ext rfl rfl) rfl ?_
    refine sa rfl rfl ?_
    refine sa rfl rfl ?_
    refine Wn ?_
    refine tN ?_
    refine W_seq ?_
    refine W_block ?_
    refine W_rs ?_
    refine sm rfl rfl ?_
    refine st (X.neq rfl rfl) rfl ?_
    refine sa rfl rfl ?_
    refine Wn ?_
    refine tN ?_
    refine W_no rfl (rfl) ?_
    refine W_rs ?_
    refine sm rfl rfl ?_
    refine st (X.lss rfl rfl) rfl ?_
    refine sb rfl rfl (fun h25 => ?_) (fun h25 => ?_)
    · first | replace h25 := of_decide_eq_true h25 | replace h25 := of_decide_eq_false (notT h25) | replace h25 := notT h25 | skip
      refine gN (g := 25) rfl rfl rfl rfl ?_
      refine gN (g := 25) rfl rfl rfl rfl ?_
      refine st (X.pickT rfl rfl) rfl ?_
      refine sm rfl rfl ?_
      refine gN (g := 29) rfl rfl rfl rfl ?_
      refine gN (g := 29) rfl rfl rfl rfl ?_
      refine gN (g := 29) rfl rfl rfl rfl ?_
      refine gN (g := 29) rfl rfl rfl rfl ?_
      refine gN (g := 29) rfl rfl rfl rfl ?_
      refine gN (g := 29) rfl rfl rfl rfl ?_
      refine gN (g := 29) rfl rfl rfl rfl ?_
      refine st (X.pickT rfl rfl) rfl ?_
      refine sa rfl rfl ?_
      refine Wn ?_
      refine tN ?_
      refine W_yes rfl (rfl) ?_
      refine W_rs ?_
      refine sa rfl rfl ?_
      refine sa rfl rfl ?_
      refine Wn ?_
      refine tN ?_
      refine W_ret (bR (tR ?_))
      rw [if_pos (by omega)]
      exact (rTT rfl rfl rfl ⟨rfl, hbw⟩).1
    · first | replace h25 := of_decide_eq_false h25 | replace h25 := of_decide_eq_true (notF h25) | replace h25 := notF h25 | skip
      refine gY (g := 25) rfl rfl rfl ?_
      refine sm rfl rfl ?_
      refine gY (g := 25) rfl rfl rfl ?_
      refine st (X.lss rfl rfl) rfl ?_
      refine st (X.pickF rfl rfl) rfl ?_
      refine sb rfl rfl (fun h29 => ?_) (fun h29 => ?_)
      · first | replace h29 := of_decide_eq_true h29 | replace h29 := of_decide_eq_false (notT h29) | replace h29 := notT h29 | skip
        refine gN (g := 29) rfl rfl rfl rfl ?_
        refine gN (g := 29) rfl rfl rfl rfl ?_
        refine gN (g := 29) rfl rfl rfl rfl ?_
        refine gN (g := 29) rfl rfl rfl rfl ?_
        refine gN (g := 29) rfl rfl rfl rfl ?_
        refine gN (g := 29) rfl rfl rfl rfl ?_
        refine gN (g := 29) rfl rfl rfl rfl ?_
        refine st (X.pickT rfl rfl) rfl ?_
        refine sa rfl rfl ?_
        refine Wn ?_
        refine tN ?_
        refine W_yes rfl (rfl) ?_
        refine W_rs ?_
        refine sa rfl rfl ?_
        refine sa rfl rfl ?_
        refine Wn ?_
        refine tN ?_
        refine W_ret (bR (tR ?_))
        rw [if_pos (by omega)]
        exact (rTT rfl rfl rfl ⟨rfl, hbw⟩).1
      · first | replace h29 := of_decide_eq_false h29 | replace h29 := of_decide_eq_true (notF h29) | replace h29 := notF h29 | skip
        refine gY (g := 29) rfl rfl rfl ?_
        refine sm rfl rfl ?_
        refine gY (g := 29) rfl rfl rfl ?_
        refine sm rfl rfl ?_
        refine gY (g := 29) rfl rfl rfl ?_
        refine st (X.nilChk rfl) rfl ?_
        refine gY (g := 29) rfl rfl rfl ?_
        refine st (X.fa fa95_1 rfl) rfl ?_
        refine gY (g := 29) rfl rfl rfl ?_
        refine st (X.ldL rfl hF Tryd.underlying92 rfl rfl) rfl ?_
        refine gY (g := 29) rfl rfl rfl ?_
        refine st (X.lenL rfl rfl Tryd.underlying92) rfl ?_
        refine gY (g := 29) rfl rfl rfl ?_
        refine st (X.gtr rfl rfl) rfl ?_
        refine st (X.pickF rfl rfl) rfl ?_
        refine sa rfl rfl ?_
        refine Wn ?_
        refine tN ?_
        refine W_if rfl (fun h22 => ?_) (fun h22 => ?_)
        · first | replace h22 := of_decide_eq_true h22 | replace h22 := of_decide_eq_false (notT h22) | replace h22 := notT h22 | skip
          refine W_rs ?_
          refine sa rfl rfl ?_
          refine sa rfl rfl ?_
          refine Wn ?_
          refine tN ?_
          refine W_ret (bR (tR ?_))
          rw [if_pos (by omega)]
          exact (rTT rfl rfl rfl ⟨rfl, hbw⟩).1
        · first | replace h22 := of_decide_eq_false h22 | replace h22 := of_decide_eq_true (notF h22) | replace h22 := notF h22 | skip
          refine W_skip ?_
          refine bN ?_
          refine tN ?_
          refine W_still_s 18 (by kernel_rfl) (by kernel_rfl) ?_
          obtain ⟨w2, hw_⟩ : ∃ w2 : World, w2 = World.drew w1 := ⟨_, rfl⟩
          rw [← hw_]
          have hb : Below w1.heap.size w1 w2 := by rw [hw_]; exact bdrew (Below.refl _ _)
          clear hw_
          replace hbw := bthen hbw hb
          replace hF := hF.bel hb
          replace hNo := hNo.bel hb
          have hz_w2 := hb.size
          clear hb
          refine hY (X.move rfl) rfl ?_
          refine hY (X.nilChk rfl) rfl ?_
          refine hY (X.fa fa95_1 rfl) rfl ?_
          refine hY (X.ldL rfl hF Tryd.underlying92 rfl rfl) rfl ?_
          refine hY (X.move rfl) rfl ?_
          refine hY (X.move rfl) rfl ?_
          refine hY (X.move rfl) rfl ?_
          refine hY (X.move rfl) rfl ?_
          refine hY (X.nilChk rfl) rfl ?_
          refine hY (X.fa fa95_1 rfl) rfl ?_
          refine hY (X.ldL rfl hF Tryd.underlying92 rfl rfl) rfl ?_
          refine hY (X.lenL rfl rfl Tryd.underlying92) rfl ?_
          refine hY (X.move rfl) rfl ?_
          refine hY (X.sub64 rfl rfl (by omega)) rfl ?_
          have hmn : (i.toNat + min k.toNat (r.f.now.length - i.toNat) : Nat) = i + (if (r.f.now.length : Int) - i < k then (r.f.now.length : Int) - i else k) := by split <;> omega
          refine hY (X.min2 rfl rfl rfl) rfl ?_
          refine hY (X.add64 rfl rfl (by omega)) rfl ?_
          refine hY (X.cutL (i := i.toNat) (j := i.toNat + min k.toNat (r.f.now.length - i.toNat)) rfl rfl rfl Tryd.underlying92 siz5 (by omega) (by rw [← hmn]) (by omega) (by omega)) rfl ?_
          refine hY (X.strOf (s := (r.f.now.take (i.toNat + min k.toNat (r.f.now.length - i.toNat))).drop i.toNat) (q := i.toNat + min k.toNat (r.f.now.length - i.toNat) - i.toNat) rfl Tryd.underlying92 Tryd.underlying5 Tryd.underlying9 (by
  have := (hNo.cut rfl i.toNat (i.toNat + min k.toNat (r.f.now.length - i.toNat)) (by omega) (by omega)).reads
  rw [Nat.mul_one, Nat.mul_one, ← List.map_take, ← List.map_drop] at this
  exact this)) rfl ?_
          refine hN ?_
          refine sa rfl rfl ?_
          refine sa rfl rfl ?_
          refine Wn ?_
          refine tN ?_
          refine W_ret ?_
          rw [if_neg (by omega)]
          refine (rTT rfl rfl rfl ⟨?_, hbw⟩).1
          rw [List.drop_take, Nat.add_sub_cancel_left]
          have e1 : (r.f.now.drop i.toNat).take k.toNat = (r.f.now.drop i.toNat).take (min k.toNat (r.f.now.length - i.toNat)) := by rw [List.take_eq_take_min, List.length_drop]
          rw [e1]
end Go.Proofs.YtnijmegalgoipaaDoor
