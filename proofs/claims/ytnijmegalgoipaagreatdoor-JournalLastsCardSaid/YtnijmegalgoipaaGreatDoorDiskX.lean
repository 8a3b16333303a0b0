/- law01: Few, first, does. -/
import Derived.Test.YtnijmegalgoipaaGreatDoorDiskW
import Derived.Test.YtnijmegalgoipaaGreatDoorOpVal
namespace Go.Proofs.YtnijmegalgoipaaGreatDoor
open Go.RowKit
def fewO (o : OpM) : Bool := decide (o.name.length ≤ 300) && decide (o.to_.length ≤ 300) && decide (o.data.length ≤ 300) && decide (o.picks.length ≤ 100)
def fewM (l : List OpM) : Bool := decide (l.length ≤ 60) && l.all fewO
theorem few_of {l : List OpM} (h : fewM l = true) : l.length ≤ 60 ∧ ∀ q ∈ l, fewO q = true := by
  unfold fewM at h
  simp only [Bool.and_eq_true, decide_eq_true_eq] at h
  exact ⟨h.1, List.all_eq_true.1 h.2⟩
theorem few_at {l : List OpM} {i : Nat} {o : OpM} (h : l[i]? = some o) (ho : fewO o = false) : l.all fewO = false := by
  rw [List.all_eq_false]
  exact ⟨o, List.mem_of_getElem? h, by simp [ho]⟩
theorem few_next {l : List OpM} {i : Nat} {o : OpM} (h : l[i]? = some o) (hp : (l.take i).all fewO = true) (ho : fewO o = true) : (l.take (i + 1)).all fewO = true := by
  rw [take_next' h, List.all_append, hp]
  simp [ho]
section
variable {P : Program} {fn : Func} {R : Ending → World → Prop} {l : Env} {w : World}
theorem r3 {x y z : ResultVar} {v u s : Value} (hf : fn.results = #[x, y, z]) (hx : ResVar P l w x v) (hy : ResVar P l w y u) (hz : ResVar P l w z s) (hR : R (.returned (.tuple #[v, u, s])) w) : fnPost P fn R .ret l w ∧ fnPost P fn R .normal l w := by
  have h : ∃ v, (∀ a : Array Value, (∀ t v, lk l t = some v → a.getD t undef = v) → (results fn a).run P w = .ok v w) ∧ R (.returned v) w := ⟨.tuple #[v, u, s], fun a ha => by
    have h1 := run_resVar hx a ha
    have h2 := run_resVar hy a ha
    have h3 := run_resVar hz a ha
    rw [results_eq, hf]
    simp only [List.mapM_toArray, List.mapM_cons, List.mapM_nil, Sem.run_bind, Sem.run_pure, map_eq_pure_bind]
    simp only [h1, h2, h3, Result.andThen_ok]
    rfl, hR⟩
  exact ⟨h, h⟩
theorem rTTT {t t2 t3 : Nat} {v v2 v3 : Value} (hf : fn.results = #[.tmp t, .tmp t2, .tmp t3]) (hx : lk l t = some v) (hy : lk l t2 = some v2) (hz : lk l t3 = some v3) (hR : R (.returned (.tuple #[v, v2, v3])) w) : fnPost P fn R .ret l w ∧ fnPost P fn R .normal l w := r3 hf hx hy hz hR
end
/-- the cells of one call among many -/
theorem op_cell {w : World} {g o n c : Nat} {ops : List OpM} (h : Reads w 7 (.slice (some ⟨g, o, none⟩) n c) n (ops.flatMap OpM.cells)) (hn : ops.length = n) {i j : Nat} {q : OpM} {v : Value} (hq : ops[i]? = some q) (hv : q.cells[j]? = some v) : w.cell? ⟨g, o + i * 7 + j, none⟩ = some v := by
  subst hn
  exact h.rec_ (f := OpM.cells) (fun a _ => OpM.cells_length a) hq j v hv
theorem first_any (s : List UInt8) (w : World) (hs : s.length ≤ 9223372036854775807) : Calls Tryz.prog 49 #[str s] w fun e w' => e = .returned (.int .u8 (s.headD 0).toNat) ∧ Below w.heap.size w w' := by
  refine W_enter (args := [str s]) 7 Tryz.func49 rfl rfl rfl ?_
  refine W_sub [(0, str s)] ?_ ⟨rfl, trivial⟩
  have hbw := Below.refl w.heap.size w
  refine W_rs ?_
  refine sa rfl rfl ?_
  refine Wn ?_
  refine tN ?_
  refine W_seq ?_
  refine W_rs ?_
  refine sm rfl rfl ?_
  refine st (X.eqS rfl rfl) rfl ?_
  refine Wn ?_
  refine tN ?_
  refine W_if rfl (fun h4 => ?_) (fun h4 => ?_)
  · first | replace h4 := of_decide_eq_true h4 | replace h4 := of_decide_eq_false (notT h4) | replace h4 := notT h4 | skip
    subst h4
    refine W_rs ?_
    refine sa rfl rfl ?_
    refine Wn ?_
    refine tN ?_
    refine W_ret (tR ?_)
    exact (rT rfl rfl ⟨rfl, hbw⟩).1
  · first | replace h4 := of_decide_eq_false h4 | replace h4 := of_decide_eq_true (notF h4) | replace h4 := notF h4 | skip
    obtain ⟨x, l, rfl⟩ : ∃ x l, s = x :: l := by
      cases s with
      | nil => exact absurd rfl h4
      | cons x l => exact ⟨x, l, rfl⟩
    refine W_skip ?_
    refine tN ?_
    refine W_rs ?_
    refine sm rfl rfl ?_
    refine st (X.idxS (q := 0) rfl rfl Tryz.underlying9 rfl (Nat.succ_pos _)) rfl ?_
    refine sa rfl rfl ?_
    refine Wn ?_
    refine tN ?_
    refine W_ret ?_
    exact (rT rfl rfl ⟨rfl, hbw⟩).1
theorem Few_any (v : Value) (l : List OpM) (w : World) (h : OpsAt w v l) : Calls Tryz.prog 11 #[v] w fun e w' => e = .returned (.bool (fewM l)) ∧ Below w.heap.size w w' := by
  obtain ⟨a, c, rfl, hc1, hc2⟩ := h.1.shape
  have hR := h.1
  have hnn := hR.nle
  refine W_enter (args := [.slice a l.length c]) 47 Tryz.func11 rfl rfl rfl ?_
  refine W_sub [(0, .slice a l.length c)] ?_ ⟨rfl, trivial⟩
  have hbw := Below.refl w.heap.size w
  refine W_rs ?_
  refine sa rfl rfl ?_
  refine Wn ?_
  refine tN ?_
  refine W_seq ?_
  refine W_rs ?_
  refine sm rfl rfl ?_
  refine st (X.lenL rfl rfl Tryz.underlying22) rfl ?_
  refine st (X.gtr rfl rfl) rfl ?_
  refine Wn ?_
  refine tN ?_
  refine W_if rfl (fun h6 => ?_) (fun h6 => ?_)
  · first | replace h6 := of_decide_eq_true h6 | replace h6 := of_decide_eq_false (notT h6) | replace h6 := notT h6 | skip
    refine W_rs ?_
    refine sa rfl rfl ?_
    refine Wn ?_
    refine tN ?_
    refine W_ret (tR ?_)
    refine (rT rfl rfl ⟨?_, hbw⟩).1
    unfold fewM
    rw [decide_eq_false (by omega), Bool.false_and]
  · first | replace h6 := of_decide_eq_false h6 | replace h6 := of_decide_eq_true (notF h6) | replace h6 := notF h6 | skip
    refine W_skip ?_
    refine tN ?_
    refine W_seq ?_
    refine W_rs ?_
    refine sa rfl rfl ?_
    refine Wn ?_
    refine tN ?_
    refine W_block ?_
    refine W_lp (fun nw1_ lw1_ w1 => ∃ i : Nat, nw1_ = l.length - i ∧ lw1_ = ([(0, .slice a l.length c), (3, .int .i64 i)] : Env) ∧ (i ≤ l.length) ∧ (Below w.heap.size w w1) ∧ ((l.take i).all fewO = true) ∧ (Reads w1 7 (.slice a l.length c) l.length (l.flatMap OpM.cells))) _ ⟨_, ⟨0, rfl, rfl, Nat.zero_le _, hbw, rfl, hR⟩, ⟨rfl, rfl, trivial⟩⟩ ?_
    clear hbw hR
    rintro nw1_ lw1_ w1 ⟨i, rfl, rfl, hi, hbw, hp, hR⟩
    have hz_w1 := hbw.size
    refine W_seq ?_
    refine W_rs ?_
    refine sm rfl rfl ?_
    refine sm rfl rfl ?_
    refine st (X.lenL rfl rfl Tryz.underlying22) rfl ?_
    refine st (X.lss rfl rfl) rfl ?_
    refine Wn ?_
    refine tN ?_
    refine W_if rfl (fun h10 => ?_) (fun h10 => ?_)
    · first | replace h10 := of_decide_eq_true h10 | replace h10 := of_decide_eq_false (notT h10) | replace h10 := notT h10 | skip
      obtain ⟨q, hq⟩ : ∃ q, l[i]? = some q := ⟨_, List.getElem?_eq_getElem (by omega)⟩
      obtain ⟨g1, o1, c', hv, hg1⟩ := hR.some_ (by omega)
      injection hv with e1 _ e3
      subst e1 e3
      obtain ⟨ap, cp, hvp, hcp, _⟩ := (h.2 q (List.mem_of_getElem? hq)).picks.shape
      refine W_skip ?_
      refine tN ?_
      refine W_seq ?_
      refine W_block ?_
      refine W_rs ?_
      refine sm rfl rfl ?_
      refine sm rfl rfl ?_
      refine st (X.idxA rfl rfl Tryz.underlying22 siz36 rfl (by omega)) rfl ?_
      refine st (X.fa fa36_1 rfl) rfl ?_
      refine st (X.ld rfl Tryz.underlying9 rfl (op_cell hR rfl hq rfl)) rfl ?_
      refine st (X.lenS rfl rfl Tryz.underlying9) rfl ?_
      refine st (X.gtr rfl rfl) rfl ?_
      refine sb rfl rfl (fun h20 => ?_) (fun h20 => ?_)
      · first | replace h20 := of_decide_eq_true h20 | replace h20 := of_decide_eq_false (notT h20) | replace h20 := notT h20 | skip
        refine gN (g := 20) rfl rfl rfl rfl ?_
        refine gN (g := 20) rfl rfl rfl rfl ?_
        refine gN (g := 20) rfl rfl rfl rfl ?_
        refine gN (g := 20) rfl rfl rfl rfl ?_
        refine gN (g := 20) rfl rfl rfl rfl ?_
        refine gN (g := 20) rfl rfl rfl rfl ?_
        refine gN (g := 20) rfl rfl rfl rfl ?_
        refine st (X.pickT rfl rfl) rfl ?_
        refine sm rfl rfl ?_
        refine gN (g := 29) rfl rfl rfl rfl ?_
        refine gN (g := 29) rfl rfl rfl rfl ?_
        refine gN (g := 29) rfl rfl rfl rfl ?_
        refine gN (g := 29) rfl rfl rfl rfl ?_
        refine gN (g := 29) rfl rfl rfl rfl ?_
        refine gN (g := 29) rfl rfl rfl rfl ?_
        refine gN (g := 29) rfl rfl rfl rfl ?_
        refine st (X.pickT rfl rfl) rfl ?_
        refine sm rfl rfl ?_
        refine gN (g := 38) rfl rfl rfl rfl ?_
        refine gN (g := 38) rfl rfl rfl rfl ?_
        refine gN (g := 38) rfl rfl rfl rfl ?_
        refine gN (g := 38) rfl rfl rfl rfl ?_
        refine gN (g := 38) rfl rfl rfl rfl ?_
        refine gN (g := 38) rfl rfl rfl rfl ?_
        refine gN (g := 38) rfl rfl rfl rfl ?_
        refine st (X.pickT rfl rfl) rfl ?_
        refine Wn ?_
        refine tN ?_
        refine W_yes rfl (rfl) ?_
        refine W_rs ?_
        refine sa rfl rfl ?_
        refine Wn ?_
        refine tN ?_
        refine W_ret (bR (tR (tR (bR (tR ?_)))))
        refine (rT rfl rfl ⟨?_, hbw⟩).1
        unfold fewM
        rw [few_at hq (by unfold fewO; simp only [Bool.and_eq_false_iff, decide_eq_false_iff_not]; omega), Bool.and_false]
      · first | replace h20 := of_decide_eq_false h20 | replace h20 := of_decide_eq_true (notF h20) | replace h20 := notF h20 | skip
        refine gY (g := 20) rfl rfl rfl ?_
        refine sm rfl rfl ?_
        refine gY (g := 20) rfl rfl rfl ?_
        refine sm rfl rfl ?_
        refine gY (g := 20) rfl rfl rfl ?_
        refine st (X.idxA rfl rfl Tryz.underlying22 siz36 rfl (by omega)) rfl ?_
        refine gY (g := 20) rfl rfl rfl ?_
        refine st (X.fa fa36_2 rfl) rfl ?_
        refine gY (g := 20) rfl rfl rfl ?_
        refine st (X.ld rfl Tryz.underlying9 rfl (op_cell hR rfl hq rfl)) rfl ?_
        refine gY (g := 20) rfl rfl rfl ?_
        refine st (X.lenS rfl rfl Tryz.underlying9) rfl ?_
        refine gY (g := 20) rfl rfl rfl ?_
        refine st (X.gtr rfl rfl) rfl ?_
        refine st (X.pickF rfl rfl) rfl ?_
        refine sb rfl rfl (fun h29 => ?_) (fun h29 => ?_)
        · first | replace h29 := of_decide_eq_true h29 | replace h29 := of_decide_eq_false (notT h29) | replace h29 := notT h29 | skip
          refine gN (g := 29) rfl rfl rfl rfl ?_
          refine gN (g := 29) rfl rfl rfl rfl ?_
          refine gN (g := 29) rfl rfl rfl rfl ?_
          refine gN (g := 29) rfl rfl rfl rfl ?_
          refine gN (g := 29) rfl rfl rfl rfl ?_
          refine gN (g := 29) rfl rfl rfl rfl ?_
          refine gN (g := 29) rfl rfl rfl rfl ?_
          refine st (X.pickT rfl rfl) rfl ?_
          refine sm rfl rfl ?_
          refine gN (g := 38) rfl rfl rfl rfl ?_
          refine gN (g := 38) rfl rfl rfl rfl ?_
          refine gN (g := 38) rfl rfl rfl rfl ?_
          refine gN (g := 38) rfl rfl rfl rfl ?_
          refine gN (g := 38) rfl rfl rfl rfl ?_
          refine gN (g := 38) rfl rfl rfl rfl ?_
          refine gN (g := 38) rfl rfl rfl rfl ?_
          refine st (X.pickT rfl rfl) rfl ?_
          refine Wn ?_
          refine tN ?_
          refine W_yes rfl (rfl) ?_
          refine W_rs ?_
          refine sa rfl rfl ?_
          refine Wn ?_
          refine tN ?_
          refine W_ret (bR (tR (tR (bR (tR ?_)))))
          refine (rT rfl rfl ⟨?_, hbw⟩).1
          unfold fewM
          rw [few_at hq (by unfold fewO; simp only [Bool.and_eq_false_iff, decide_eq_false_iff_not]; omega), Bool.and_false]
        · first | replace h29 := of_decide_eq_false h29 | replace h29 := of_decide_eq_true (notF h29) | replace h29 := notF h29 | skip
          refine gY (g := 29) rfl rfl rfl ?_
          refine sm rfl rfl ?_
          refine gY (g := 29) rfl rfl rfl ?_
          refine sm rfl rfl ?_
          refine gY (g := 29) rfl rfl rfl ?_
          refine st (X.idxA rfl rfl Tryz.underlying22 siz36 rfl (by omega)) rfl ?_
          refine gY (g := 29) rfl rfl rfl ?_
          refine st (X.fa fa36_5 rfl) rfl ?_
          refine gY (g := 29) rfl rfl rfl ?_
          refine st (X.ld rfl Tryz.underlying9 rfl (op_cell hR rfl hq rfl)) rfl ?_
          refine gY (g := 29) rfl rfl rfl ?_
          refine st (X.lenS rfl rfl Tryz.underlying9) rfl ?_
          refine gY (g := 29) rfl rfl rfl ?_
          refine st (X.gtr rfl rfl) rfl ?_
          refine st (X.pickF rfl rfl) rfl ?_
          refine sb rfl rfl (fun h38 => ?_) (fun h38 => ?_)
          · first | replace h38 := of_decide_eq_true h38 | replace h38 := of_decide_eq_false (notT h38) | replace h38 := notT h38 | skip
            refine gN (g := 38) rfl rfl rfl rfl ?_
            refine gN (g := 38) rfl rfl rfl rfl ?_
            refine gN (g := 38) rfl rfl rfl rfl ?_
            refine gN (g := 38) rfl rfl rfl rfl ?_
            refine gN (g := 38) rfl rfl rfl rfl ?_
            refine gN (g := 38) rfl rfl rfl rfl ?_
            refine gN (g := 38) rfl rfl rfl rfl ?_
            refine st (X.pickT rfl rfl) rfl ?_
            refine Wn ?_
            refine tN ?_
            refine W_yes rfl (rfl) ?_
            refine W_rs ?_
            refine sa rfl rfl ?_
            refine Wn ?_
            refine tN ?_
            refine W_ret (bR (tR (tR (bR (tR ?_)))))
            refine (rT rfl rfl ⟨?_, hbw⟩).1
            unfold fewM
            rw [few_at hq (by unfold fewO; simp only [Bool.and_eq_false_iff, decide_eq_false_iff_not]; omega), Bool.and_false]
          · first | replace h38 := of_decide_eq_false h38 | replace h38 := of_decide_eq_true (notF h38) | replace h38 := notF h38 | skip
            refine gY (g := 38) rfl rfl rfl ?_
            refine sm rfl rfl ?_
            refine gY (g := 38) rfl rfl rfl ?_
            refine sm rfl rfl ?_
            refine gY (g := 38) rfl rfl rfl ?_
            refine st (X.idxA rfl rfl Tryz.underlying22 siz36 rfl (by omega)) rfl ?_
            refine gY (g := 38) rfl rfl rfl ?_
            refine st (X.fa fa36_6 rfl) rfl ?_
            refine gY (g := 38) rfl rfl rfl ?_
            refine st (X.ld rfl Tryz.underlying34 rfl (op_cell hR rfl hq (v := .slice ap q.picks.length cp) (by rw [← hvp]; rfl))) rfl ?_
            refine gY (g := 38) rfl rfl rfl ?_
            refine st (X.lenL rfl rfl Tryz.underlying34) rfl ?_
            refine gY (g := 38) rfl rfl rfl ?_
            refine st (X.gtr rfl rfl) rfl ?_
            refine st (X.pickF rfl rfl) rfl ?_
            refine Wn ?_
            refine tN ?_
            refine W_if rfl (fun h46 => ?_) (fun h46 => ?_)
            · first | replace h46 := of_decide_eq_true h46 | replace h46 := of_decide_eq_false (notT h46) | replace h46 := notT h46 | skip
              refine W_rs ?_
              refine sa rfl rfl ?_
              refine Wn ?_
              refine tN ?_
              refine W_ret (bR (tR (tR (bR (tR ?_)))))
              refine (rT rfl rfl ⟨?_, hbw⟩).1
              unfold fewM
              rw [few_at hq (by unfold fewO; simp only [Bool.and_eq_false_iff, decide_eq_false_iff_not]; omega), Bool.and_false]
            · first | replace h46 := of_decide_eq_false h46 | replace h46 := of_decide_eq_true (notF h46) | replace h46 := notF h46 | skip
              refine W_skip ?_
              refine bN ?_
              refine tN ?_
              refine W_reg ?_
              refine sm rfl rfl ?_
              refine st (X.add64 rfl rfl (by omega)) rfl ?_
              refine sa rfl rfl ?_
              refine Wn ?_
              refine tN ⟨_, _, ?_, ⟨i + 1, rfl, rfl, by omega, hbw, few_next hq hp (by unfold fewO; simp only [Bool.and_eq_true, decide_eq_true_eq]; omega), hR⟩, ⟨rfl, rfl, trivial⟩⟩
              omega
    · first | replace h10 := of_decide_eq_false h10 | replace h10 := of_decide_eq_true (notF h10) | replace h10 := notF h10 | skip
      obtain rfl : i = l.length := by omega
      refine W_exit (tE (tE (bH ?_)))
      refine tN ?_
      refine W_rs ?_
      refine sa rfl rfl ?_
      refine Wn ?_
      refine tN ?_
      refine W_ret ?_
      refine (rT rfl rfl ⟨?_, hbw⟩).1
      unfold fewM
      rw [List.take_length] at hp
      rw [hp, decide_eq_true (by omega), Bool.and_self]
/- ---------- a call ---------- -/
def doesM (D : DiskD) (o : OpM) : (List UInt8 × Int × Int) × DiskD :=
  if o.ask = 0 then (([], 0, (createM D o.name).1), (createM D o.name).2)
  else if o.ask = 1 then (([], 0, (appendM D o.name o.data).1), (appendM D o.name o.data).2)
  else if o.ask = 2 then (([], 0, (writeM D o.name o.at_ o.data).1), (writeM D o.name o.at_ o.data).2)
  else if o.ask = 3 then (([], 0, (syncM D o.name).1), (syncM D o.name).2)
  else if o.ask = 4 then (([], 0, (renameM D o.name o.to_).1), (renameM D o.name o.to_).2)
  else if o.ask = 5 then (([], 0, (removeM D o.name).1), (removeM D o.name).2)
  else if o.ask = 6 then (([], 0, 0), crashD D o.picks)
  else if o.ask = 7 then (([], 0, (rotM D o.name o.at_ (o.data.headD 0)).1), (rotM D o.name o.at_ (o.data.headD 0)).2)
  else if o.ask = 8 then (((readM D o.name o.at_ o.n).1, 0, (readM D o.name o.at_ o.n).2), D)
  else if o.ask = 9 then (([], 0, 0), stopM D o.n)
  else (([], (sizeM D o.name).1, (sizeM D o.name).2), D)
theorem does_good {n : Nat} {D : DiskD} {o : OpM} (h : Good n D) (hf : fewO o = true) (hn : o.n ≤ 9223372036854775807) : Good (n + 301) (doesM D o).2 := by
  have hd : o.data.length ≤ 300 := by
    unfold fewO at hf
    simp only [Bool.and_eq_true, decide_eq_true_eq] at hf
    omega
  unfold doesM
  split
  · exact (create_good h _).mono (by omega)
  split
  · exact (append_good h _ _).mono (by omega)
  split
  · exact (write_good h _ _ _).mono (by omega)
  split
  · exact (sync_good h _).mono (by omega)
  split
  · exact (rename_good h _ _).mono (by omega)
  split
  · exact (remove_good h _).mono (by omega)
  split
  · exact (crash_good h _).mono (by omega)
  split
  · exact (rot_good h _ _ _).mono (by omega)
  split
  · exact h.mono (by omega)
  split
  · exact (stop_good h hn).mono (by omega)
  · exact h.mono (by omega)
set_option maxRecDepth 10000 in
theorem does_any (g : Nat) (D : DiskD) (S : Nat → Prop) (o : OpM) (n : Nat) (w : World) (hd : DiskAt w g D S) (hg : Good n D) (hn : n ≤ 900000) (ho : o.ok w) (hf : fewO o = true) (hPS : 0 < o.picks.length → ∀ k, o.vp.ownBlock = some k → ¬ S k) (hSw : ∀ k, S k → k < w.heap.size) :
    Calls Tryz.prog 13 #[.pointer (some ⟨g, 0, none⟩), .agg o.cells.toArray] w fun e w' => e = .returned (.tuple #[str (doesM D o).1.1, .int .i64 (doesM D o).1.2.1, .int .i64 (doesM D o).1.2.2]) ∧ DiskAt w' g (doesM D o).2 (Ext S w w') ∧ Chg S w w' := by
  have hdl : o.data.length ≤ 300 := by
    unfold fewO at hf
    simp only [Bool.and_eq_true, decide_eq_true_eq] at hf
    omega
  have hK := ho.picks
  obtain ⟨ap, cp, hvp, hcp, _⟩ := hK.shape
  rw [hvp] at hK hPS
  have hcells : o.cells.toArray = #[.int .i64 o.ask, str o.name, str o.to_, .int .i64 o.at_, .int .i64 o.n, str o.data, .slice ap o.picks.length cp] := by rw [← hvp]; rfl
  rw [hcells]
  unfold doesM
  refine W_enter (args := [.pointer (some ⟨g, 0, none⟩), .agg #[.int .i64 o.ask, str o.name, str o.to_, .int .i64 o.at_, .int .i64 o.n, str o.data, .slice ap o.picks.length cp]]) 104 Tryz.func13 rfl rfl rfl ?_
  refine W_sub [(0, .pointer (some ⟨g, 0, none⟩)), (1, .agg #[.int .i64 o.ask, str o.name, str o.to_, .int .i64 o.at_, .int .i64 o.n, str o.data, .slice ap o.picks.length cp])] ?_ ⟨rfl, rfl, trivial⟩
  have hbw := Below.refl w.heap.size w
  refine W_rs ?_
  refine sboxA rfl rfl (fun g3 w1 hB3 hg3 hb hl3 => ?_)
  replace hbw := bthen hbw hb
  replace hd := hd.bel hb
  replace hK := hK.bel hb
  have hz_w1 := hb.size
  clear hb
  refine sa rfl rfl ?_
  refine sa rfl rfl ?_
  refine sa rfl rfl ?_
  refine Wn ?_
  refine tN ?_
  refine W_seq ?_
  refine W_rs ?_
  refine st (X.fa fa36_0 rfl) rfl ?_
  refine st (X.ldL rfl hB3 Tryz.underlying3 rfl rfl) rfl ?_
  refine Wn ?_
  refine tN ?_
  refine W_block ?_
  refine W_rs ?_
  refine st (X.eql rfl rfl) rfl ?_
  refine sa rfl rfl ?_
  refine Wn ?_
  refine tN ?_
  refine W_if rfl (fun h13 => ?_) (fun h13 => ?_)
  · first | replace h13 := of_decide_eq_true h13 | replace h13 := of_decide_eq_false (notT h13) | replace h13 := notT h13 | skip
    refine W_rs ?_
    refine sm rfl rfl ?_
    refine st (X.fa fa36_1 rfl) rfl ?_
    refine st (X.ldL rfl hB3 Tryz.underlying9 rfl rfl) rfl ?_
    refine sc _ Tryz.func41 rfl (by kernel_rfl) rfl rfl ((Create_any g D S o.name _ hd hg.ok).mono ?_)
    rintro e_ w2 ⟨rfl, h1, hX⟩
    refine cR ?_
    refine sa rfl rfl ?_
    refine sa rfl rfl ?_
    refine sa rfl rfl ?_
    refine Wn ?_
    refine tN ?_
    refine W_ret (bR (tR ?_))
    simp only [if_pos h13]
    exact (rTTT rfl rfl rfl rfl ⟨rfl, h1.mono (Ext.up hbw.size), (Chg.of_below hbw S).next hX (fun i hi => .inl hi)⟩).1
  · first | replace h13 := of_decide_eq_false h13 | replace h13 := of_decide_eq_true (notF h13) | replace h13 := notF h13 | skip
    refine W_rs ?_
    refine st (X.eql rfl rfl) rfl ?_
    refine sa rfl rfl ?_
    refine Wn ?_
    refine tN ?_
    refine W_if rfl (fun h19 => ?_) (fun h19 => ?_)
    · first | replace h19 := of_decide_eq_true h19 | replace h19 := of_decide_eq_false (notT h19) | replace h19 := notT h19 | skip
      refine W_rs ?_
      refine sm rfl rfl ?_
      refine st (X.fa fa36_1 rfl) rfl ?_
      refine st (X.ldL rfl hB3 Tryz.underlying9 rfl rfl) rfl ?_
      refine st (X.fa fa36_5 rfl) rfl ?_
      refine st (X.ldL rfl hB3 Tryz.underlying9 rfl rfl) rfl ?_
      refine sc _ Tryz.func42 rfl (by kernel_rfl) rfl rfl ((Append_any g D S o.name o.data _ hd hg.ok (hg.bud (by omega)) (by omega)).mono ?_)
      rintro e_ w3 ⟨rfl, h1, hX⟩
      refine cR ?_
      refine sa rfl rfl ?_
      refine sa rfl rfl ?_
      refine sa rfl rfl ?_
      refine Wn ?_
      refine tN ?_
      refine W_ret (bR (tR ?_))
      simp only [if_neg h13, if_pos h19]
      exact (rTTT rfl rfl rfl rfl ⟨rfl, h1.mono (Ext.up hbw.size), (Chg.of_below hbw S).next hX (fun i hi => .inl hi)⟩).1
    · first | replace h19 := of_decide_eq_false h19 | replace h19 := of_decide_eq_true (notF h19) | replace h19 := notF h19 | skip
      refine W_rs ?_
      refine st (X.eql rfl rfl) rfl ?_
      refine sa rfl rfl ?_
      refine Wn ?_
      refine tN ?_
      refine W_if rfl (fun h27 => ?_) (fun h27 => ?_)
      · first | replace h27 := of_decide_eq_true h27 | replace h27 := of_decide_eq_false (notT h27) | replace h27 := notT h27 | skip
        refine W_rs ?_
        refine sm rfl rfl ?_
        refine st (X.fa fa36_1 rfl) rfl ?_
        refine st (X.ldL rfl hB3 Tryz.underlying9 rfl rfl) rfl ?_
        refine st (X.fa fa36_3 rfl) rfl ?_
        refine st (X.ldL rfl hB3 Tryz.underlying3 rfl rfl) rfl ?_
        refine st (X.fa fa36_5 rfl) rfl ?_
        refine st (X.ldL rfl hB3 Tryz.underlying9 rfl rfl) rfl ?_
        refine sc _ Tryz.func44 rfl (by kernel_rfl) rfl rfl ((Write_any g D S o.name o.at_ o.data _ hd hg.ok (hg.bud (by omega)) (by omega)).mono ?_)
        rintro e_ w4 ⟨rfl, h1, hX⟩
        refine cR ?_
        refine sa rfl rfl ?_
        refine sa rfl rfl ?_
        refine sa rfl rfl ?_
        refine Wn ?_
        refine tN ?_
        refine W_ret (bR (tR ?_))
        simp only [if_neg h13, if_neg h19, if_pos h27]
        exact (rTTT rfl rfl rfl rfl ⟨rfl, h1.mono (Ext.up hbw.size), (Chg.of_below hbw S).next hX (fun i hi => .inl hi)⟩).1
      · first | replace h27 := of_decide_eq_false h27 | replace h27 := of_decide_eq_true (notF h27) | replace h27 := notF h27 | skip
        refine W_rs ?_
        refine st (X.eql rfl rfl) rfl ?_
        refine sa rfl rfl ?_
        refine Wn ?_
        refine tN ?_
        refine W_if rfl (fun h37 => ?_) (fun h37 => ?_)
        · first | replace h37 := of_decide_eq_true h37 | replace h37 := of_decide_eq_false (notT h37) | replace h37 := notT h37 | skip
          refine W_rs ?_
          refine sm rfl rfl ?_
          refine st (X.fa fa36_1 rfl) rfl ?_
          refine st (X.ldL rfl hB3 Tryz.underlying9 rfl rfl) rfl ?_
          refine sc _ Tryz.func43 rfl (by kernel_rfl) rfl rfl ((Sync_any g D S o.name _ hd hg.ok).mono ?_)
          rintro e_ w5 ⟨rfl, h1, hX⟩
          refine cR ?_
          refine sa rfl rfl ?_
          refine sa rfl rfl ?_
          refine sa rfl rfl ?_
          refine Wn ?_
          refine tN ?_
          refine W_ret (bR (tR ?_))
          simp only [if_neg h13, if_neg h19, if_neg h27, if_pos h37]
          exact (rTTT rfl rfl rfl rfl ⟨rfl, h1.mono (Ext.up hbw.size), (Chg.of_below hbw S).next hX (fun i hi => .inl hi)⟩).1
        · first | replace h37 := of_decide_eq_false h37 | replace h37 := of_decide_eq_true (notF h37) | replace h37 := notF h37 | skip
          refine W_rs ?_
          refine st (X.eql rfl rfl) rfl ?_
          refine sa rfl rfl ?_
          refine Wn ?_
          refine tN ?_
          refine W_if rfl (fun h43 => ?_) (fun h43 => ?_)
          · first | replace h43 := of_decide_eq_true h43 | replace h43 := of_decide_eq_false (notT h43) | replace h43 := notT h43 | skip
            refine W_rs ?_
            refine sm rfl rfl ?_
            refine st (X.fa fa36_1 rfl) rfl ?_
            refine st (X.ldL rfl hB3 Tryz.underlying9 rfl rfl) rfl ?_
            refine st (X.fa fa36_2 rfl) rfl ?_
            refine st (X.ldL rfl hB3 Tryz.underlying9 rfl rfl) rfl ?_
            refine sc _ Tryz.func46 rfl (by kernel_rfl) rfl rfl ((Rename_any g D S o.name o.to_ _ hd hg.ok).mono ?_)
            rintro e_ w6 ⟨rfl, h1, hX⟩
            refine cR ?_
            refine sa rfl rfl ?_
            refine sa rfl rfl ?_
            refine sa rfl rfl ?_
            refine Wn ?_
            refine tN ?_
            refine W_ret (bR (tR ?_))
            simp only [if_neg h13, if_neg h19, if_neg h27, if_neg h37, if_pos h43]
            exact (rTTT rfl rfl rfl rfl ⟨rfl, h1.mono (Ext.up hbw.size), (Chg.of_below hbw S).next hX (fun i hi => .inl hi)⟩).1
          · first | replace h43 := of_decide_eq_false h43 | replace h43 := of_decide_eq_true (notF h43) | replace h43 := notF h43 | skip
            refine W_rs ?_
            refine st (X.eql rfl rfl) rfl ?_
            refine sa rfl rfl ?_
            refine Wn ?_
            refine tN ?_
            refine W_if rfl (fun h51 => ?_) (fun h51 => ?_)
            · first | replace h51 := of_decide_eq_true h51 | replace h51 := of_decide_eq_false (notT h51) | replace h51 := notT h51 | skip
              refine W_rs ?_
              refine sm rfl rfl ?_
              refine st (X.fa fa36_1 rfl) rfl ?_
              refine st (X.ldL rfl hB3 Tryz.underlying9 rfl rfl) rfl ?_
              refine sc _ Tryz.func47 rfl (by kernel_rfl) rfl rfl ((Remove_any g D S o.name _ hd hg.ok).mono ?_)
              rintro e_ w7 ⟨rfl, h1, hX⟩
              refine cR ?_
              refine sa rfl rfl ?_
              refine sa rfl rfl ?_
              refine sa rfl rfl ?_
              refine Wn ?_
              refine tN ?_
              refine W_ret (bR (tR ?_))
              simp only [if_neg h13, if_neg h19, if_neg h27, if_neg h37, if_neg h43, if_pos h51]
              exact (rTTT rfl rfl rfl rfl ⟨rfl, h1.mono (Ext.up hbw.size), (Chg.of_below hbw S).next hX (fun i hi => .inl hi)⟩).1
            · first | replace h51 := of_decide_eq_false h51 | replace h51 := of_decide_eq_true (notF h51) | replace h51 := notF h51 | skip
              refine W_rs ?_
              refine st (X.eql rfl rfl) rfl ?_
              refine sa rfl rfl ?_
              refine Wn ?_
              refine tN ?_
              refine W_if rfl (fun h57 => ?_) (fun h57 => ?_)
              · first | replace h57 := of_decide_eq_true h57 | replace h57 := of_decide_eq_false (notT h57) | replace h57 := notT h57 | skip
                refine W_rs ?_
                refine sm rfl rfl ?_
                refine st (X.fa fa36_6 rfl) rfl ?_
                refine st (X.ldL rfl hB3 Tryz.underlying34 rfl rfl) rfl ?_
                refine sc _ Tryz.func23 rfl (by kernel_rfl) rfl rfl ((Crash_any g D S _ o.picks _ hd hg.ok (hg.bud (by omega)) (by have := hg.few; omega) hK hPS).mono ?_)
                rintro e_ w8 ⟨rfl, h1, hX⟩
                refine cR ?_
                refine Wn ?_
                refine tN ?_
                refine W_rs ?_
                refine sa rfl rfl ?_
                refine sa rfl rfl ?_
                refine sa rfl rfl ?_
                refine Wn ?_
                refine tN ?_
                refine W_ret (bR (tR ?_))
                simp only [if_neg h13, if_neg h19, if_neg h27, if_neg h37, if_neg h43, if_neg h51, if_pos h57]
                exact (rTTT rfl rfl rfl rfl ⟨rfl, h1.mono (Ext.up hbw.size), (Chg.of_below hbw S).next hX (fun i hi => .inl hi)⟩).1
              · first | replace h57 := of_decide_eq_false h57 | replace h57 := of_decide_eq_true (notF h57) | replace h57 := notF h57 | skip
                refine W_rs ?_
                refine st (X.eql rfl rfl) rfl ?_
                refine sa rfl rfl ?_
                refine Wn ?_
                refine tN ?_
                refine W_if rfl (fun h63 => ?_) (fun h63 => ?_)
                · first | replace h63 := of_decide_eq_true h63 | replace h63 := of_decide_eq_false (notT h63) | replace h63 := notT h63 | skip
                  refine W_drsN (fun W_ => Blk W_ g3 36 #[.int .i64 o.ask, str o.name, str o.to_, .int .i64 o.at_, .int .i64 o.n, str o.data, .slice ap o.picks.length cp]) [0, 1, 2, 3, 4, 5, 6, 7, 8, 9, 10, 11] [true, true, true, true, true, true, true, false, false, true, true, true] (by kernel_rfl) (by kernel_rfl) (hB3.drew) ?_
                  obtain ⟨w9, hw_⟩ : ∃ w9 : World, w9 = World.drew w1 := ⟨_, rfl⟩
                  rw [← hw_]
                  have hb : Below w1.heap.size w1 w9 := by rw [hw_]; exact bdrew (Below.refl _ _)
                  clear hw_
                  have hS := hb
                  replace hbw := bthen hbw hb
                  replace hd := hd.bel hb
                  replace hK := hK.bel hb
                  replace hB3 := hB3.bel hb
                  have hz_w9 := hb.size
                  clear hb
                  refine oY rfl (fun W_ hW_ => (X.move rfl)) rfl ?_
                  refine oY rfl (fun W_ hW_ => (X.fa fa36_1 rfl)) rfl ?_
                  refine oY rfl (fun W_ hW_ => (X.ldL rfl hW_ Tryz.underlying9 rfl rfl)) rfl ?_
                  refine oY rfl (fun W_ hW_ => (X.fa fa36_3 rfl)) rfl ?_
                  refine oY rfl (fun W_ hW_ => (X.ldL rfl hW_ Tryz.underlying3 rfl rfl)) rfl ?_
                  refine oY rfl (fun W_ hW_ => (X.fa fa36_5 rfl)) rfl ?_
                  refine oY rfl (fun W_ hW_ => (X.ldL rfl hW_ Tryz.underlying9 rfl rfl)) rfl ?_
                  refine oL rfl (fun Q_ hQ_ hP_ => ?_)
                  refine sc _ Tryz.func49 rfl (by kernel_rfl) rfl rfl ((first_any o.data _ (by omega)).mono ?_)
                  rintro e_ w10 ⟨rfl, hb⟩
                  refine cR ?_
                  replace hbw := bthen hbw hb
                  replace hd := hd.bel hb
                  replace hK := hK.bel hb
                  replace hB3 := hB3.bel hb
                  have hz_w10 := hb.size
                  clear hb
                  refine Wn (hQ_ _ _ (hB3) ?_)
                  clear hQ_ hP_ Q_
                  refine oL rfl (fun Q_ hQ_ hP_ => ?_)
                  refine sc _ Tryz.func48 rfl (by kernel_rfl) rfl rfl ((Rot_any g D S o.name o.at_ _ _ hd hg.ok).mono ?_)
                  rintro e_ w11 ⟨rfl, h1, hX⟩
                  refine cR ?_
                  replace hB3 := hB3.chg hX (fun e => by have := hSw _ e; omega)
                  refine Wn (hQ_ _ _ (hB3) ?_)
                  clear hQ_ hP_ Q_
                  refine oY rfl (fun W_ hW_ => (X.assign rfl)) rfl ?_
                  refine oY rfl (fun W_ hW_ => (X.assign rfl)) rfl ?_
                  refine oY rfl (fun W_ hW_ => (X.assign rfl)) rfl ?_
                  refine oN ?_
                  refine nN ?_
                  refine W_ret (bR (tR ?_))
                  simp only [if_neg h13, if_neg h19, if_neg h27, if_neg h37, if_neg h43, if_neg h51, if_neg h57, if_pos h63]
                  exact (rTTT rfl rfl rfl rfl ⟨rfl, h1.mono (Ext.up hbw.size), (Chg.of_below hbw S).next hX (fun i hi => .inl hi)⟩).1
                · first | replace h63 := of_decide_eq_false h63 | replace h63 := of_decide_eq_true (notF h63) | replace h63 := notF h63 | skip
                  refine W_rs ?_
                  refine st (X.eql rfl rfl) rfl ?_
                  refine sa rfl rfl ?_
                  refine Wn ?_
                  refine tN ?_
                  refine W_if rfl (fun h74 => ?_) (fun h74 => ?_)
                  · first | replace h74 := of_decide_eq_true h74 | replace h74 := of_decide_eq_false (notT h74) | replace h74 := notT h74 | skip
                    refine W_rs ?_
                    refine sm rfl rfl ?_
                    refine st (X.fa fa36_1 rfl) rfl ?_
                    refine st (X.ldL rfl hB3 Tryz.underlying9 rfl rfl) rfl ?_
                    refine st (X.fa fa36_3 rfl) rfl ?_
                    refine st (X.ldL rfl hB3 Tryz.underlying3 rfl rfl) rfl ?_
                    refine st (X.fa fa36_4 rfl) rfl ?_
                    refine st (X.ldL rfl hB3 Tryz.underlying3 rfl rfl) rfl ?_
                    refine sc _ Tryz.func45 rfl (by kernel_rfl) rfl rfl ((Read_any g D S o.name o.at_ o.n _ hd hg.ok).mono ?_)
                    rintro e_ w12 ⟨rfl, hb⟩
                    refine cR ?_
                    replace hbw := bthen hbw hb
                    replace hd := hd.bel hb
                    replace hK := hK.bel hb
                    replace hB3 := hB3.bel hb
                    have hz_w12 := hb.size
                    clear hb
                    refine sm rfl rfl ?_
                    refine st (X.ext rfl rfl) rfl ?_
                    refine st (X.ext rfl rfl) rfl ?_
                    refine sa rfl rfl ?_
                    refine sa rfl rfl ?_
                    refine Wn ?_
                    refine tN ?_
                    refine W_rs ?_
                    refine sm rfl rfl ?_
                    refine sm rfl rfl ?_
                    refine sa rfl rfl ?_
                    refine sa rfl rfl ?_
                    refine sa rfl rfl ?_
                    refine Wn ?_
                    refine tN ?_
                    refine W_ret (bR (tR ?_))
                    simp only [if_neg h13, if_neg h19, if_neg h27, if_neg h37, if_neg h43, if_neg h51, if_neg h57, if_neg h63, if_pos h74]
                    exact (rTTT rfl rfl rfl rfl ⟨rfl, hd.mono Ext.of, Chg.of_below hbw S⟩).1
                  · first | replace h74 := of_decide_eq_false h74 | replace h74 := of_decide_eq_true (notF h74) | replace h74 := notF h74 | skip
                    refine W_rs ?_
                    refine st (X.eql rfl rfl) rfl ?_
                    refine sa rfl rfl ?_
                    refine Wn ?_
                    refine tN ?_
                    refine W_if rfl (fun h89 => ?_) (fun h89 => ?_)
                    · first | replace h89 := of_decide_eq_true h89 | replace h89 := of_decide_eq_false (notT h89) | replace h89 := notT h89 | skip
                      refine W_rs ?_
                      refine sm rfl rfl ?_
                      refine st (X.fa fa36_4 rfl) rfl ?_
                      refine st (X.ldL rfl hB3 Tryz.underlying3 rfl rfl) rfl ?_
                      refine sc _ Tryz.func32 rfl (by kernel_rfl) rfl rfl ((Stop_any g D S o.n _ hd).mono ?_)
                      rintro e_ w13 ⟨rfl, h1, hX⟩
                      refine cR ?_
                      refine Wn ?_
                      refine tN ?_
                      refine W_rs ?_
                      refine sa rfl rfl ?_
                      refine sa rfl rfl ?_
                      refine sa rfl rfl ?_
                      refine Wn ?_
                      refine tN ?_
                      refine W_ret (bR (tR ?_))
                      simp only [if_neg h13, if_neg h19, if_neg h27, if_neg h37, if_neg h43, if_neg h51, if_neg h57, if_neg h63, if_neg h74, if_pos h89]
                      exact (rTTT rfl rfl rfl rfl ⟨rfl, h1.mono Ext.of, (Chg.of_below hbw S).next hX (fun i hi => .inl hi)⟩).1
                    · first | replace h89 := of_decide_eq_false h89 | replace h89 := of_decide_eq_true (notF h89) | replace h89 := notF h89 | skip
                      refine W_skip ?_
                      refine bN ?_
                      refine tN ?_
                      refine W_rs ?_
                      refine sm rfl rfl ?_
                      refine st (X.fa fa36_1 rfl) rfl ?_
                      refine st (X.ldL rfl hB3 Tryz.underlying9 rfl rfl) rfl ?_
                      refine sc _ Tryz.func22 rfl (by kernel_rfl) rfl rfl ((Size_any g D S o.name _ hd).mono ?_)
                      rintro e_ w14 ⟨rfl, hb⟩
                      refine cR ?_
                      replace hbw := bthen hbw hb
                      replace hd := hd.bel hb
                      replace hK := hK.bel hb
                      replace hB3 := hB3.bel hb
                      have hz_w14 := hb.size
                      clear hb
                      refine sm rfl rfl ?_
                      refine st (X.ext rfl rfl) rfl ?_
                      refine st (X.ext rfl rfl) rfl ?_
                      refine sa rfl rfl ?_
                      refine sa rfl rfl ?_
                      refine Wn ?_
                      refine tN ?_
                      refine W_rs ?_
                      refine sm rfl rfl ?_
                      refine sm rfl rfl ?_
                      refine sa rfl rfl ?_
                      refine sa rfl rfl ?_
                      refine sa rfl rfl ?_
                      refine Wn ?_
                      refine tN ?_
                      refine W_ret ?_
                      simp only [if_neg h13, if_neg h19, if_neg h27, if_neg h37, if_neg h43, if_neg h51, if_neg h57, if_neg h63, if_neg h74, if_neg h89]
                      exact (rTTT rfl rfl rfl rfl ⟨rfl, hd.mono Ext.of, Chg.of_below hbw S⟩).1
set_option maxRecDepth 10000 in
theorem does_nil (o : OpM) (w : World) (ho : o.ok w) (hf : fewO o = true) :
    Calls Tryz.prog 13 #[.pointer none, .agg o.cells.toArray] w fun e w' => e = .returned (.tuple #[str [], .int .i64 0, .int .i64 (if o.ask = 6 ∨ o.ask = 9 then 0 else 2)]) ∧ Below w.heap.size w w' := by
  have hdl : o.data.length ≤ 300 := by
    unfold fewO at hf
    simp only [Bool.and_eq_true, decide_eq_true_eq] at hf
    omega
  have hK := ho.picks
  obtain ⟨ap, cp, hvp, hcp, _⟩ := hK.shape
  have hcells : o.cells.toArray = #[.int .i64 o.ask, str o.name, str o.to_, .int .i64 o.at_, .int .i64 o.n, str o.data, .slice ap o.picks.length cp] := by rw [← hvp]; rfl
  rw [hcells]
  refine W_enter (args := [.pointer none, .agg #[.int .i64 o.ask, str o.name, str o.to_, .int .i64 o.at_, .int .i64 o.n, str o.data, .slice ap o.picks.length cp]]) 104 Tryz.func13 rfl rfl rfl ?_
  refine W_sub [(0, .pointer none), (1, .agg #[.int .i64 o.ask, str o.name, str o.to_, .int .i64 o.at_, .int .i64 o.n, str o.data, .slice ap o.picks.length cp])] ?_ ⟨rfl, rfl, trivial⟩
  have hbw := Below.refl w.heap.size w
  refine W_rs ?_
  refine sboxA rfl rfl (fun g3 w1 hB3 hg3 hb hl3 => ?_)
  replace hbw := bthen hbw hb
  have hz_w1 := hb.size
  clear hb
  refine sa rfl rfl ?_
  refine sa rfl rfl ?_
  refine sa rfl rfl ?_
  refine Wn ?_
  refine tN ?_
  refine W_seq ?_
  refine W_rs ?_
  refine st (X.fa fa36_0 rfl) rfl ?_
  refine st (X.ldL rfl hB3 Tryz.underlying3 rfl rfl) rfl ?_
  refine Wn ?_
  refine tN ?_
  refine W_block ?_
  refine W_rs ?_
  refine st (X.eql rfl rfl) rfl ?_
  refine sa rfl rfl ?_
  refine Wn ?_
  refine tN ?_
  refine W_if rfl (fun h13 => ?_) (fun h13 => ?_)
  · first | replace h13 := of_decide_eq_true h13 | replace h13 := of_decide_eq_false (notT h13) | replace h13 := notT h13 | skip
    refine W_rs ?_
    refine sm rfl rfl ?_
    refine st (X.fa fa36_1 rfl) rfl ?_
    refine st (X.ldL rfl hB3 Tryz.underlying9 rfl rfl) rfl ?_
    refine sc _ Tryz.func41 rfl (by kernel_rfl) rfl rfl ((Create_nil o.name _).mono ?_)
    rintro e_ w2 ⟨rfl, hb⟩
    refine cR ?_
    replace hbw := bthen hbw hb
    replace hB3 := hB3.bel hb
    have hz_w2 := hb.size
    clear hb
    refine sa rfl rfl ?_
    refine sa rfl rfl ?_
    refine sa rfl rfl ?_
    refine Wn ?_
    refine tN ?_
    refine W_ret (bR (tR ?_))
    rw [if_neg (by omega)]
    exact (rTTT rfl rfl rfl rfl ⟨rfl, hbw⟩).1
  · first | replace h13 := of_decide_eq_false h13 | replace h13 := of_decide_eq_true (notF h13) | replace h13 := notF h13 | skip
    refine W_rs ?_
    refine st (X.eql rfl rfl) rfl ?_
    refine sa rfl rfl ?_
    refine Wn ?_
    refine tN ?_
    refine W_if rfl (fun h19 => ?_) (fun h19 => ?_)
    · first | replace h19 := of_decide_eq_true h19 | replace h19 := of_decide_eq_false (notT h19) | replace h19 := notT h19 | skip
      refine W_rs ?_
      refine sm rfl rfl ?_
      refine st (X.fa fa36_1 rfl) rfl ?_
      refine st (X.ldL rfl hB3 Tryz.underlying9 rfl rfl) rfl ?_
      refine st (X.fa fa36_5 rfl) rfl ?_
      refine st (X.ldL rfl hB3 Tryz.underlying9 rfl rfl) rfl ?_
      refine sc _ Tryz.func42 rfl (by kernel_rfl) rfl rfl ((Append_nil o.name o.data _).mono ?_)
      rintro e_ w3 ⟨rfl, hb⟩
      refine cR ?_
      replace hbw := bthen hbw hb
      replace hB3 := hB3.bel hb
      have hz_w3 := hb.size
      clear hb
      refine sa rfl rfl ?_
      refine sa rfl rfl ?_
      refine sa rfl rfl ?_
      refine Wn ?_
      refine tN ?_
      refine W_ret (bR (tR ?_))
      rw [if_neg (by omega)]
      exact (rTTT rfl rfl rfl rfl ⟨rfl, hbw⟩).1
    · first | replace h19 := of_decide_eq_false h19 | replace h19 := of_decide_eq_true (notF h19) | replace h19 := notF h19 | skip
      refine W_rs ?_
      refine st (X.eql rfl rfl) rfl ?_
      refine sa rfl rfl ?_
      refine Wn ?_
      refine tN ?_
      refine W_if rfl (fun h27 => ?_) (fun h27 => ?_)
      · first | replace h27 := of_decide_eq_true h27 | replace h27 := of_decide_eq_false (notT h27) | replace h27 := notT h27 | skip
        refine W_rs ?_
        refine sm rfl rfl ?_
        refine st (X.fa fa36_1 rfl) rfl ?_
        refine st (X.ldL rfl hB3 Tryz.underlying9 rfl rfl) rfl ?_
        refine st (X.fa fa36_3 rfl) rfl ?_
        refine st (X.ldL rfl hB3 Tryz.underlying3 rfl rfl) rfl ?_
        refine st (X.fa fa36_5 rfl) rfl ?_
        refine st (X.ldL rfl hB3 Tryz.underlying9 rfl rfl) rfl ?_
        refine sc _ Tryz.func44 rfl (by kernel_rfl) rfl rfl ((Write_nil o.name o.at_ o.data _).mono ?_)
        rintro e_ w4 ⟨rfl, hb⟩
        refine cR ?_
        replace hbw := bthen hbw hb
        replace hB3 := hB3.bel hb
        have hz_w4 := hb.size
        clear hb
        refine sa rfl rfl ?_
        refine sa rfl rfl ?_
        refine sa rfl rfl ?_
        refine Wn ?_
        refine tN ?_
        refine W_ret (bR (tR ?_))
        rw [if_neg (by omega)]
        exact (rTTT rfl rfl rfl rfl ⟨rfl, hbw⟩).1
      · first | replace h27 := of_decide_eq_false h27 | replace h27 := of_decide_eq_true (notF h27) | replace h27 := notF h27 | skip
        refine W_rs ?_
        refine st (X.eql rfl rfl) rfl ?_
        refine sa rfl rfl ?_
        refine Wn ?_
        refine tN ?_
        refine W_if rfl (fun h37 => ?_) (fun h37 => ?_)
        · first | replace h37 := of_decide_eq_true h37 | replace h37 := of_decide_eq_false (notT h37) | replace h37 := notT h37 | skip
          refine W_rs ?_
          refine sm rfl rfl ?_
          refine st (X.fa fa36_1 rfl) rfl ?_
          refine st (X.ldL rfl hB3 Tryz.underlying9 rfl rfl) rfl ?_
          refine sc _ Tryz.func43 rfl (by kernel_rfl) rfl rfl ((Sync_nil o.name _).mono ?_)
          rintro e_ w5 ⟨rfl, hb⟩
          refine cR ?_
          replace hbw := bthen hbw hb
          replace hB3 := hB3.bel hb
          have hz_w5 := hb.size
          clear hb
          refine sa rfl rfl ?_
          refine sa rfl rfl ?_
          refine sa rfl rfl ?_
          refine Wn ?_
          refine tN ?_
          refine W_ret (bR (tR ?_))
          rw [if_neg (by omega)]
          exact (rTTT rfl rfl rfl rfl ⟨rfl, hbw⟩).1
        · first | replace h37 := of_decide_eq_false h37 | replace h37 := of_decide_eq_true (notF h37) | replace h37 := notF h37 | skip
          refine W_rs ?_
          refine st (X.eql rfl rfl) rfl ?_
          refine sa rfl rfl ?_
          refine Wn ?_
          refine tN ?_
          refine W_if rfl (fun h43 => ?_) (fun h43 => ?_)
          · first | replace h43 := of_decide_eq_true h43 | replace h43 := of_decide_eq_false (notT h43) | replace h43 := notT h43 | skip
            refine W_rs ?_
            refine sm rfl rfl ?_
            refine st (X.fa fa36_1 rfl) rfl ?_
            refine st (X.ldL rfl hB3 Tryz.underlying9 rfl rfl) rfl ?_
            refine st (X.fa fa36_2 rfl) rfl ?_
            refine st (X.ldL rfl hB3 Tryz.underlying9 rfl rfl) rfl ?_
            refine sc _ Tryz.func46 rfl (by kernel_rfl) rfl rfl ((Rename_nil o.name o.to_ _).mono ?_)
            rintro e_ w6 ⟨rfl, hb⟩
            refine cR ?_
            replace hbw := bthen hbw hb
            replace hB3 := hB3.bel hb
            have hz_w6 := hb.size
            clear hb
            refine sa rfl rfl ?_
            refine sa rfl rfl ?_
            refine sa rfl rfl ?_
            refine Wn ?_
            refine tN ?_
            refine W_ret (bR (tR ?_))
            rw [if_neg (by omega)]
            exact (rTTT rfl rfl rfl rfl ⟨rfl, hbw⟩).1
          · first | replace h43 := of_decide_eq_false h43 | replace h43 := of_decide_eq_true (notF h43) | replace h43 := notF h43 | skip
            refine W_rs ?_
            refine st (X.eql rfl rfl) rfl ?_
            refine sa rfl rfl ?_
            refine Wn ?_
            refine tN ?_
            refine W_if rfl (fun h51 => ?_) (fun h51 => ?_)
            · first | replace h51 := of_decide_eq_true h51 | replace h51 := of_decide_eq_false (notT h51) | replace h51 := notT h51 | skip
              refine W_rs ?_
              refine sm rfl rfl ?_
              refine st (X.fa fa36_1 rfl) rfl ?_
              refine st (X.ldL rfl hB3 Tryz.underlying9 rfl rfl) rfl ?_
              refine sc _ Tryz.func47 rfl (by kernel_rfl) rfl rfl ((Remove_nil o.name _).mono ?_)
              rintro e_ w7 ⟨rfl, hb⟩
              refine cR ?_
              replace hbw := bthen hbw hb
              replace hB3 := hB3.bel hb
              have hz_w7 := hb.size
              clear hb
              refine sa rfl rfl ?_
              refine sa rfl rfl ?_
              refine sa rfl rfl ?_
              refine Wn ?_
              refine tN ?_
              refine W_ret (bR (tR ?_))
              rw [if_neg (by omega)]
              exact (rTTT rfl rfl rfl rfl ⟨rfl, hbw⟩).1
            · first | replace h51 := of_decide_eq_false h51 | replace h51 := of_decide_eq_true (notF h51) | replace h51 := notF h51 | skip
              refine W_rs ?_
              refine st (X.eql rfl rfl) rfl ?_
              refine sa rfl rfl ?_
              refine Wn ?_
              refine tN ?_
              refine W_if rfl (fun h57 => ?_) (fun h57 => ?_)
              · first | replace h57 := of_decide_eq_true h57 | replace h57 := of_decide_eq_false (notT h57) | replace h57 := notT h57 | skip
                refine W_rs ?_
                refine sm rfl rfl ?_
                refine st (X.fa fa36_6 rfl) rfl ?_
                refine st (X.ldL rfl hB3 Tryz.underlying34 rfl rfl) rfl ?_
                refine sc _ Tryz.func23 rfl (by kernel_rfl) rfl rfl ((Crash_nil _ _).mono ?_)
                rintro e_ w8 ⟨rfl, hb⟩
                refine cR ?_
                replace hbw := bthen hbw hb
                replace hB3 := hB3.bel hb
                have hz_w8 := hb.size
                clear hb
                refine Wn ?_
                refine tN ?_
                refine W_rs ?_
                refine sa rfl rfl ?_
                refine sa rfl rfl ?_
                refine sa rfl rfl ?_
                refine Wn ?_
                refine tN ?_
                refine W_ret (bR (tR ?_))
                rw [if_pos (by omega)]
                exact (rTTT rfl rfl rfl rfl ⟨rfl, hbw⟩).1
              · first | replace h57 := of_decide_eq_false h57 | replace h57 := of_decide_eq_true (notF h57) | replace h57 := notF h57 | skip
                refine W_rs ?_
                refine st (X.eql rfl rfl) rfl ?_
                refine sa rfl rfl ?_
                refine Wn ?_
                refine tN ?_
                refine W_if rfl (fun h63 => ?_) (fun h63 => ?_)
                · first | replace h63 := of_decide_eq_true h63 | replace h63 := of_decide_eq_false (notT h63) | replace h63 := notT h63 | skip
                  refine W_drsN (fun W_ => Blk W_ g3 36 #[.int .i64 o.ask, str o.name, str o.to_, .int .i64 o.at_, .int .i64 o.n, str o.data, .slice ap o.picks.length cp]) [0, 1, 2, 3, 4, 5, 6, 7, 8, 9, 10, 11] [true, true, true, true, true, true, true, false, false, true, true, true] (by kernel_rfl) (by kernel_rfl) (hB3.drew) ?_
                  obtain ⟨w9, hw_⟩ : ∃ w9 : World, w9 = World.drew w1 := ⟨_, rfl⟩
                  rw [← hw_]
                  have hb : Below w1.heap.size w1 w9 := by rw [hw_]; exact bdrew (Below.refl _ _)
                  clear hw_
                  have hS := hb
                  replace hbw := bthen hbw hb
                  replace hB3 := hB3.bel hb
                  have hz_w9 := hb.size
                  clear hb
                  refine oY rfl (fun W_ hW_ => (X.move rfl)) rfl ?_
                  refine oY rfl (fun W_ hW_ => (X.fa fa36_1 rfl)) rfl ?_
                  refine oY rfl (fun W_ hW_ => (X.ldL rfl hW_ Tryz.underlying9 rfl rfl)) rfl ?_
                  refine oY rfl (fun W_ hW_ => (X.fa fa36_3 rfl)) rfl ?_
                  refine oY rfl (fun W_ hW_ => (X.ldL rfl hW_ Tryz.underlying3 rfl rfl)) rfl ?_
                  refine oY rfl (fun W_ hW_ => (X.fa fa36_5 rfl)) rfl ?_
                  refine oY rfl (fun W_ hW_ => (X.ldL rfl hW_ Tryz.underlying9 rfl rfl)) rfl ?_
                  refine oL rfl (fun Q_ hQ_ hP_ => ?_)
                  refine sc _ Tryz.func49 rfl (by kernel_rfl) rfl rfl ((first_any o.data _ (by omega)).mono ?_)
                  rintro e_ w10 ⟨rfl, hb⟩
                  refine cR ?_
                  replace hbw := bthen hbw hb
                  replace hB3 := hB3.bel hb
                  have hz_w10 := hb.size
                  clear hb
                  refine Wn (hQ_ _ _ (hB3) ?_)
                  clear hQ_ hP_ Q_
                  refine oL rfl (fun Q_ hQ_ hP_ => ?_)
                  refine sc _ Tryz.func48 rfl (by kernel_rfl) rfl rfl ((Rot_nil o.name o.at_ _ _).mono ?_)
                  rintro e_ w11 ⟨rfl, hb⟩
                  refine cR ?_
                  replace hbw := bthen hbw hb
                  replace hB3 := hB3.bel hb
                  have hz_w11 := hb.size
                  clear hb
                  refine Wn (hQ_ _ _ (hB3) ?_)
                  clear hQ_ hP_ Q_
                  refine oY rfl (fun W_ hW_ => (X.assign rfl)) rfl ?_
                  refine oY rfl (fun W_ hW_ => (X.assign rfl)) rfl ?_
                  refine oY rfl (fun W_ hW_ => (X.assign rfl)) rfl ?_
                  refine oN ?_
                  refine nN ?_
                  refine W_ret (bR (tR ?_))
                  rw [if_neg (by omega)]
                  exact (rTTT rfl rfl rfl rfl ⟨rfl, hbw⟩).1
                · first | replace h63 := of_decide_eq_false h63 | replace h63 := of_decide_eq_true (notF h63) | replace h63 := notF h63 | skip
                  refine W_rs ?_
                  refine st (X.eql rfl rfl) rfl ?_
                  refine sa rfl rfl ?_
                  refine Wn ?_
                  refine tN ?_
                  refine W_if rfl (fun h74 => ?_) (fun h74 => ?_)
                  · first | replace h74 := of_decide_eq_true h74 | replace h74 := of_decide_eq_false (notT h74) | replace h74 := notT h74 | skip
                    refine W_rs ?_
                    refine sm rfl rfl ?_
                    refine st (X.fa fa36_1 rfl) rfl ?_
                    refine st (X.ldL rfl hB3 Tryz.underlying9 rfl rfl) rfl ?_
                    refine st (X.fa fa36_3 rfl) rfl ?_
                    refine st (X.ldL rfl hB3 Tryz.underlying3 rfl rfl) rfl ?_
                    refine st (X.fa fa36_4 rfl) rfl ?_
                    refine st (X.ldL rfl hB3 Tryz.underlying3 rfl rfl) rfl ?_
                    refine sc _ Tryz.func45 rfl (by kernel_rfl) rfl rfl ((Read_nil o.name o.at_ o.n _).mono ?_)
                    rintro e_ w12 ⟨rfl, hb⟩
                    refine cR ?_
                    replace hbw := bthen hbw hb
                    replace hB3 := hB3.bel hb
                    have hz_w12 := hb.size
                    clear hb
                    refine sm rfl rfl ?_
                    refine st (X.ext rfl rfl) rfl ?_
                    refine st (X.ext rfl rfl) rfl ?_
                    refine sa rfl rfl ?_
                    refine sa rfl rfl ?_
                    refine Wn ?_
                    refine tN ?_
                    refine W_rs ?_
                    refine sm rfl rfl ?_
                    refine sm rfl rfl ?_
                    refine sa rfl rfl ?_
                    refine sa rfl rfl ?_
                    refine sa rfl rfl ?_
                    refine Wn ?_
                    refine tN ?_
                    refine W_ret (bR (tR ?_))
                    rw [if_neg (by omega)]
                    exact (rTTT rfl rfl rfl rfl ⟨rfl, hbw⟩).1
                  · first | replace h74 := of_decide_eq_false h74 | replace h74 := of_decide_eq_true (notF h74) | replace h74 := notF h74 | skip
                    refine W_rs ?_
                    refine st (X.eql rfl rfl) rfl ?_
                    refine sa rfl rfl ?_
                    refine Wn ?_
                    refine tN ?_
                    refine W_if rfl (fun h89 => ?_) (fun h89 => ?_)
                    · first | replace h89 := of_decide_eq_true h89 | replace h89 := of_decide_eq_false (notT h89) | replace h89 := notT h89 | skip
                      refine W_rs ?_
                      refine sm rfl rfl ?_
                      refine st (X.fa fa36_4 rfl) rfl ?_
                      refine st (X.ldL rfl hB3 Tryz.underlying3 rfl rfl) rfl ?_
                      refine sc _ Tryz.func32 rfl (by kernel_rfl) rfl rfl ((Stop_nil o.n _).mono ?_)
                      rintro e_ w13 ⟨rfl, hb⟩
                      refine cR ?_
                      replace hbw := bthen hbw hb
                      replace hB3 := hB3.bel hb
                      have hz_w13 := hb.size
                      clear hb
                      refine Wn ?_
                      refine tN ?_
                      refine W_rs ?_
                      refine sa rfl rfl ?_
                      refine sa rfl rfl ?_
                      refine sa rfl rfl ?_
                      refine Wn ?_
                      refine tN ?_
                      refine W_ret (bR (tR ?_))
                      rw [if_pos (by omega)]
                      exact (rTTT rfl rfl rfl rfl ⟨rfl, hbw⟩).1
                    · first | replace h89 := of_decide_eq_false h89 | replace h89 := of_decide_eq_true (notF h89) | replace h89 := notF h89 | skip
                      refine W_skip ?_
                      refine bN ?_
                      refine tN ?_
                      refine W_rs ?_
                      refine sm rfl rfl ?_
                      refine st (X.fa fa36_1 rfl) rfl ?_
                      refine st (X.ldL rfl hB3 Tryz.underlying9 rfl rfl) rfl ?_
                      refine sc _ Tryz.func22 rfl (by kernel_rfl) rfl rfl ((Size_nil o.name _).mono ?_)
                      rintro e_ w14 ⟨rfl, hb⟩
                      refine cR ?_
                      replace hbw := bthen hbw hb
                      replace hB3 := hB3.bel hb
                      have hz_w14 := hb.size
                      clear hb
                      refine sm rfl rfl ?_
                      refine st (X.ext rfl rfl) rfl ?_
                      refine st (X.ext rfl rfl) rfl ?_
                      refine sa rfl rfl ?_
                      refine sa rfl rfl ?_
                      refine Wn ?_
                      refine tN ?_
                      refine W_rs ?_
                      refine sm rfl rfl ?_
                      refine sm rfl rfl ?_
                      refine sa rfl rfl ?_
                      refine sa rfl rfl ?_
                      refine sa rfl rfl ?_
                      refine Wn ?_
                      refine tN ?_
                      refine W_ret ?_
                      rw [if_neg (by omega)]
                      exact (rTTT rfl rfl rfl rfl ⟨rfl, hbw⟩).1
theorem does_nilE (o : OpM) {cs : Array Value} (hc : o.cells.toArray = cs) (w : World) (ho : o.ok w) (hf : fewO o = true) :
    Calls Tryz.prog 13 #[.pointer none, .agg cs] w fun e w' => e = .returned (.tuple #[str [], .int .i64 0, .int .i64 (if o.ask = 6 ∨ o.ask = 9 then 0 else 2)]) ∧ Below w.heap.size w w' := hc ▸ does_nil o w ho hf
end Go.Proofs.YtnijmegalgoipaaGreatDoor
