/- refs: may, number, packed, rising, Net. -/
import Derived.Test.YtnagmpnpgekhfaaDeltaEq
import Derived.Test.YtnagmpnpgekhfaaSorted
import Derived.Test.YtnagmpnpgekhfaaCountPlain
import Derived.Test.YtnagmpnpgekhfaaRow2
import Derived.Test.YtnagmpnpgekhfaaAppend0
namespace Go.Proofs.Ytnagmpnpgekhfaa
open Go.RowKit
theorem may1_any (c : Chk) (w : World) (hc : c.sum.length = 32) : Calls Try.prog 88 #[.agg c.cells.toArray] w fun e w' => e = .returned (.bool (badN c)) ∧ Below w.heap.size w w' := by
  refine W_enter (args := [.agg c.cells.toArray]) 11 Try.func88 rfl rfl rfl ?_
  refine W_sub [(0, .agg c.cells.toArray)] ?_ ⟨rfl, trivial⟩
  have hbw := Below.refl w.heap.size w
  refine W_rs ?_
  refine sboxA rfl rfl (fun g1 w1 hB1 hg1 hb hl1 => ?_)
  replace hbw := bthen hbw hb
  have hz_w1 := hb.size
  clear hb
  refine sa rfl rfl ?_
  refine Wn ?_
  refine tN ?_
  refine W_rs ?_
  refine st (X.fa fa57_1 rfl) rfl ?_
  refine st (X.ldB rfl hB1 Try.underlying3 rfl (Chk.cells_len hc)) rfl ?_
  refine st (X.lss rfl rfl) rfl ?_
  refine sb rfl rfl (fun h6 => ?_) (fun h6 => ?_)
  · first | replace h6 := of_decide_eq_true h6 | replace h6 := of_decide_eq_false (notT h6) | replace h6 := notT h6 | skip
    refine gN (g := 6) rfl rfl rfl rfl ?_
    refine gN (g := 6) rfl rfl rfl rfl ?_
    refine gN (g := 6) rfl rfl rfl rfl ?_
    refine st (X.pickT rfl rfl) rfl ?_
    refine sa rfl rfl ?_
    refine Wn ?_
    refine tN ?_
    refine W_ret ?_
    refine (rT rfl rfl ⟨?_, hbw⟩).1
    rw [show badN c = true by unfold badN; exact decide_eq_true (by omega)]
  · first | replace h6 := of_decide_eq_false h6 | replace h6 := of_decide_eq_true (notF h6) | replace h6 := notF h6 | skip
    refine gY (g := 6) rfl rfl rfl ?_
    refine st (X.fa fa57_1 rfl) rfl ?_
    refine gY (g := 6) rfl rfl rfl ?_
    refine st (X.ldB rfl hB1 Try.underlying3 rfl (Chk.cells_len hc)) rfl ?_
    refine gY (g := 6) rfl rfl rfl ?_
    refine st (X.gtr rfl rfl) rfl ?_
    refine st (X.pickF rfl rfl) rfl ?_
    refine sa rfl rfl ?_
    refine Wn ?_
    refine tN ?_
    refine W_ret ?_
    refine (rT rfl rfl ⟨?_, hbw⟩).1
    congr 2; unfold badN; rw [decide_eq_decide]; omega
theorem unpack1_any (c : Chk) (w : World) (hc : c.sum.length = 32) : Calls Try.prog 72 #[.agg c.cells.toArray] w fun e w' => e = .returned (.bool (formN c)) ∧ Below w.heap.size w w' := by
  refine W_enter (args := [.agg c.cells.toArray]) 11 Try.func72 rfl rfl rfl ?_
  refine W_sub [(0, .agg c.cells.toArray)] ?_ ⟨rfl, trivial⟩
  have hbw := Below.refl w.heap.size w
  refine W_rs ?_
  refine sboxA rfl rfl (fun g1 w1 hB1 hg1 hb hl1 => ?_)
  replace hbw := bthen hbw hb
  have hz_w1 := hb.size
  clear hb
  refine sa rfl rfl ?_
  refine Wn ?_
  refine tN ?_
  refine W_rs ?_
  refine st (X.fa fa57_1 rfl) rfl ?_
  refine st (X.ldB rfl hB1 Try.underlying3 rfl (Chk.cells_len hc)) rfl ?_
  refine st (X.eql rfl rfl) rfl ?_
  refine sb rfl rfl (fun h6 => ?_) (fun h6 => ?_)
  · first | replace h6 := of_decide_eq_true h6 | replace h6 := of_decide_eq_false (notT h6) | replace h6 := notT h6 | skip
    refine gN (g := 6) rfl rfl rfl rfl ?_
    refine gN (g := 6) rfl rfl rfl rfl ?_
    refine gN (g := 6) rfl rfl rfl rfl ?_
    refine st (X.pickT rfl rfl) rfl ?_
    refine sa rfl rfl ?_
    refine Wn ?_
    refine tN ?_
    refine W_ret ?_
    refine (rT rfl rfl ⟨?_, hbw⟩).1
    rw [show formN c = true by unfold formN; exact decide_eq_true (by omega)]
  · first | replace h6 := of_decide_eq_false h6 | replace h6 := of_decide_eq_true (notF h6) | replace h6 := notF h6 | skip
    refine gY (g := 6) rfl rfl rfl ?_
    refine st (X.fa fa57_1 rfl) rfl ?_
    refine gY (g := 6) rfl rfl rfl ?_
    refine st (X.ldB rfl hB1 Try.underlying3 rfl (Chk.cells_len hc)) rfl ?_
    refine gY (g := 6) rfl rfl rfl ?_
    refine st (X.lss rfl rfl) rfl ?_
    refine st (X.pickF rfl rfl) rfl ?_
    refine sa rfl rfl ?_
    refine Wn ?_
    refine tN ?_
    refine W_ret ?_
    refine (rT rfl rfl ⟨?_, hbw⟩).1
    congr 2; unfold formN; rw [decide_eq_decide]; omega
theorem any_drop {α : Type} (p : α → Bool) {l : List α} {j : Nat} {x : α} (h : l[j]? = some x) : (l.drop j).any p = (p x || (l.drop (j + 1)).any p) := by
  obtain ⟨hj, rfl⟩ := List.getElem?_eq_some_iff.1 h
  rw [List.drop_eq_getElem_cons hj, List.any_cons]
theorem IndexFunc_any (p : Chk → Bool) (f : Nat) {fn : Func} {c : Code} (hfn : Try.prog.funcs[f]? = some fn) (hb : fn.body = some c) (hname : (fn.name == "runtime.NumGoroutine") = false) (hf : ∀ (c : Chk) (w : World), c.sum.length = 32 → Calls Try.prog f #[.agg c.cells.toArray] w fun e w' => e = .returned (.bool (p c)) ∧ Below w.heap.size w w')
    (v : Value) (l : List Chk) (w : World) (h : ChksAt w v l) : Calls Try.prog 94 #[v, .func (.func f) #[] #[]] w fun e w' => (∃ n : Int, e = .returned (.int .i64 n) ∧ (decide (0 ≤ n) = l.any p)) ∧ Below w.heap.size w w' := by
  obtain ⟨a, cp, rfl, hn, hcp⟩ := h.1.shape
  refine W_enter (args := [.slice a l.length cp, .func (.func f) #[] #[]]) 19 Try.func94 rfl rfl rfl ?_
  refine W_sub [(0, .slice a l.length cp), (1, .func (.func f) #[] #[])] ?_ ⟨rfl, rfl, trivial⟩
  have hbw := Below.refl w.heap.size w
  refine W_rs ?_
  refine sa rfl rfl ?_
  refine Wn ?_
  refine tN ?_
  refine W_seq ?_
  refine W_rs ?_
  refine sm rfl rfl ?_
  refine st (X.lenL rfl rfl Try.underlying22) rfl ?_
  refine sm rfl rfl ?_
  refine Wn ?_
  refine tN ?_
  refine W_block ?_
  refine W_lp (fun nw1_ lw1_ w1 => ∃ j : Nat, nw1_ = l.length - j ∧ lw1_ = ([(0, .slice a l.length cp), (1, .func (.func f) #[] #[]), (7, .int .i64 l.length), (8, .int .i64 j)] : Env) ∧ (j ≤ l.length) ∧ (l.any p = (l.drop j).any p) ∧ (Below w.heap.size w w1)) _ ⟨_, ⟨0, rfl, rfl, by omega, rfl, hbw⟩, ⟨rfl, rfl, rfl, rfl, trivial⟩⟩ ?_
  clear hbw
  rintro nw1_ lw1_ w1 ⟨j, rfl, rfl, hj, hq, hbw⟩
  have hz_w1 := hbw.size
  refine W_rs ?_
  refine st (X.lss rfl rfl) rfl ?_
  refine Wn ?_
  refine tN ?_
  refine W_seq ?_
  refine W_if rfl (fun h9 => ?_) (fun h9 => ?_)
  · first | replace h9 := of_decide_eq_true h9 | replace h9 := of_decide_eq_false (notT h9) | replace h9 := notT h9 | skip
    obtain ⟨x, hx⟩ : ∃ x, l[j]? = some x := ⟨_, List.getElem?_eq_getElem (by omega)⟩
    obtain ⟨g1, o1, c', hv, hg1⟩ := (h.1.bel hbw).some_ (by omega)
    injection hv with e1 _ e3
    subst e1 e3
    have hxs := h.2 x (List.mem_of_getElem? hx)
    refine W_skip ?_
    refine tN ?_
    refine W_seq ?_
    refine W_block ?_
    refine W_rs ?_
    refine sm rfl rfl ?_
    refine sa rfl rfl ?_
    refine Wn ?_
    refine tN ?_
    refine W_rs ?_
    refine sm rfl rfl ?_
    refine sm rfl rfl ?_
    refine sm rfl rfl ?_
    refine st (X.idxA rfl rfl Try.underlying22 siz57 rfl (by omega)) rfl ?_
    refine st (X.ldN (cs := x.cells) rfl Try.underlying57 rfl (by rw [Chk.cells_length hxs]; exact siz57) ((h.bel hbw).range hx)) rfl ?_
    refine scv (cap := []) [.agg x.cells.toArray] rfl hfn hb hname rfl rfl ((hf x _ hxs).mono ?_)
    rintro e_ w2 ⟨rfl, hb⟩
    refine cR ?_
    replace hbw := bthen hbw hb
    refine Wn ?_
    refine tN ?_
    refine W_if rfl (fun h16 => ?_) (fun h16 => ?_)
    · first | replace h16 := of_decide_eq_true h16 | replace h16 := of_decide_eq_false (notT h16) | replace h16 := notT h16 | skip
      refine W_rs ?_
      refine sm rfl rfl ?_
      refine sa rfl rfl ?_
      refine Wn ?_
      refine tN ?_
      refine W_ret (bR (tR (tR (bR (tR ?_)))))
      refine (rT rfl rfl ⟨⟨j, rfl, ?_⟩, hbw⟩).1
      rw [hq, any_drop p hx, h16]; simp
    · first | replace h16 := of_decide_eq_false h16 | replace h16 := of_decide_eq_true (notF h16) | replace h16 := notF h16 | skip
      refine W_skip ?_
      refine bN ?_
      refine tN ?_
      refine W_reg ?_
      refine st (X.add64 rfl rfl (by omega)) rfl ?_
      refine sm rfl rfl ?_
      refine Wn ?_
      refine tN ⟨_, _, ?_, ⟨j + 1, rfl, rfl, by omega, by rw [hq, any_drop p hx, h16]; rfl, hbw⟩, ⟨rfl, rfl, rfl, rfl, trivial⟩⟩
      omega
  · first | replace h9 := of_decide_eq_false h9 | replace h9 := of_decide_eq_true (notF h9) | replace h9 := notF h9 | skip
    refine W_exit (tE (tE (bH ?_)))
    refine tN ?_
    refine W_rs ?_
    refine sa rfl rfl ?_
    refine Wn ?_
    refine tN ?_
    refine W_ret ?_
    obtain rfl : j = l.length := by omega
    refine (rT rfl rfl ⟨⟨-1, rfl, ?_⟩, hbw⟩).1
    rw [hq, List.drop_length]; rfl
theorem ContainsFunc_any (p : Chk → Bool) (f : Nat) {fn : Func} {c : Code} (hfn : Try.prog.funcs[f]? = some fn) (hb : fn.body = some c) (hname : (fn.name == "runtime.NumGoroutine") = false) (hf : ∀ (c : Chk) (w : World), c.sum.length = 32 → Calls Try.prog f #[.agg c.cells.toArray] w fun e w' => e = .returned (.bool (p c)) ∧ Below w.heap.size w w')
    (v : Value) (l : List Chk) (w : World) (h : ChksAt w v l) : Calls Try.prog 71 #[v, .func (.func f) #[] #[]] w fun e w' => e = .returned (.bool (l.any p)) ∧ Below w.heap.size w w' := by
  refine W_enter (args := [v, .func (.func f) #[] #[]]) 9 Try.func71 rfl rfl rfl ?_
  refine W_sub [(0, v), (1, .func (.func f) #[] #[])] ?_ ⟨rfl, rfl, trivial⟩
  have hbw := Below.refl w.heap.size w
  refine W_rs ?_
  refine sa rfl rfl ?_
  refine Wn ?_
  refine tN ?_
  refine W_rs ?_
  refine sm rfl rfl ?_
  refine sm rfl rfl ?_
  refine sc _ Try.func94 rfl (by kernel_rfl) rfl rfl ((IndexFunc_any p f hfn hb hname hf v l _ (h.bel hbw)).mono ?_)
  rintro e_ w1 ⟨⟨n, rfl, hn⟩, hb⟩
  refine cR ?_
  replace hbw := bthen hbw hb
  have hz_w1 := hb.size
  clear hb
  refine st (X.geq rfl rfl) rfl ?_
  refine sa rfl rfl ?_
  refine Wn ?_
  refine tN ?_
  refine W_ret ?_
  exact (rT rfl rfl ⟨by rw [← hn], hbw⟩).1
theorem may_any (v : Value) (l : List Chk) (w : World) (h : ChksAt w v l) : Calls Try.prog 61 #[v] w fun e w' => e = .returned (.int .i64 (mayM l)) ∧ Below w.heap.size w w' := by
  obtain ⟨a, cp, rfl, hn, hcp⟩ := h.1.shape
  refine W_enter (args := [.slice a l.length cp]) 10 Try.func61 rfl rfl rfl ?_
  refine W_sub [(0, .slice a l.length cp)] ?_ ⟨rfl, trivial⟩
  have hbw := Below.refl w.heap.size w
  refine W_rs ?_
  refine sa rfl rfl ?_
  refine Wn ?_
  refine tN ?_
  refine W_seq ?_
  refine W_block ?_
  refine W_rs ?_
  refine sm rfl rfl ?_
  refine st (X.lenL rfl rfl Try.underlying22) rfl ?_
  refine st (X.gtr rfl rfl) rfl ?_
  refine sa rfl rfl ?_
  refine Wn ?_
  refine tN ?_
  refine W_if rfl (fun h3 => ?_) (fun h3 => ?_)
  · first | replace h3 := of_decide_eq_true h3 | replace h3 := of_decide_eq_false (notT h3) | replace h3 := notT h3 | skip
    refine W_rs ?_
    refine sa rfl rfl ?_
    refine Wn ?_
    refine tN ?_
    refine W_ret (bR (tR ?_))
    refine (rT rfl rfl ⟨?_, hbw⟩).1
    rw [show mayM l = 31 by unfold mayM; rw [if_pos (by omega)]]
  · first | replace h3 := of_decide_eq_false h3 | replace h3 := of_decide_eq_true (notF h3) | replace h3 := notF h3 | skip
    refine W_rs ?_
    refine sm rfl rfl ?_
    refine sc _ Try.func71 rfl (by kernel_rfl) rfl rfl ((ContainsFunc_any badN 88 Try.func88 rfl (by kernel_rfl) may1_any _ l _ (h.bel hbw)).mono ?_)
    rintro e_ w1 ⟨rfl, hb⟩
    refine cR ?_
    replace hbw := bthen hbw hb
    have hz_w1 := hb.size
    clear hb
    refine sa rfl rfl ?_
    refine Wn ?_
    refine tN ?_
    refine W_if rfl (fun h7 => ?_) (fun h7 => ?_)
    · first | replace h7 := of_decide_eq_true h7 | replace h7 := of_decide_eq_false (notT h7) | replace h7 := notT h7 | skip
      refine W_rs ?_
      refine sa rfl rfl ?_
      refine Wn ?_
      refine tN ?_
      refine W_ret (bR (tR ?_))
      refine (rT rfl rfl ⟨?_, hbw⟩).1
      rw [show mayM l = 1 by unfold mayM; rw [if_neg (by omega), if_pos h7]]
    · first | replace h7 := of_decide_eq_false h7 | replace h7 := of_decide_eq_true (notF h7) | replace h7 := notF h7 | skip
      refine W_skip ?_
      refine bN ?_
      refine tN ?_
      refine W_rs ?_
      refine sa rfl rfl ?_
      refine Wn ?_
      refine tN ?_
      refine W_ret ?_
      refine (rT rfl rfl ⟨?_, hbw⟩).1
      rw [show mayM l = 0 by unfold mayM; rw [if_neg (by omega), if_neg (by simp [h7])]]
theorem bs4 (a b c d : UInt8) (w : World) : (Instr.buildSlice 81 4 #[(0, bv a), (1, bv b), (2, bv c), (3, bv d)]).run Try.prog w = .ok (.slice (some ⟨w.heap.size, 0, none⟩) 4 4) (w.alloc (.cells #[bv a, bv b, bv c, bv d] 5)) := by kernel_rfl
theorem number_any' (v : Value) (s : List UInt8) (n : Int) (w : World) (hR : Row w 5 1 v s.length (s.map bv)) (hs : s.length ≤ 100000000) :
    Calls Try.prog 89 #[v, .int .i64 n] w fun e w' => ∃ v', e = .returned v' ∧ Row w' 5 1 v' (s.length + 4) ((s ++ four n).map bv) ∧ Chg (fun k => v.ownBlock = some k) w w' ∧ (v'.ownBlock = v.ownBlock ∨ ∃ k, v'.ownBlock = some k ∧ w.heap.size ≤ k) := by
  refine W_enter (args := [v, .int .i64 n]) 19 Try.func89 rfl rfl rfl ?_
  refine W_sub [(0, v), (1, .int .i64 n)] ?_ ⟨rfl, rfl, trivial⟩
  refine W_rs ?_
  refine sa rfl rfl ?_
  refine Wn ?_
  refine tN ?_
  refine W_rs ?_
  refine sm rfl rfl ?_
  refine sm rfl rfl ?_
  refine st (X.convI rfl Try.underlying3 Try.underlying5 (wb n)) rfl ?_
  refine sm rfl rfl ?_
  refine st (X.shr (q := 256) rfl rfl (by decide) (by decide) rfl rfl) rfl ?_
  refine st (X.convI rfl Try.underlying3 Try.underlying5 (wb _)) rfl ?_
  refine sm rfl rfl ?_
  refine st (X.shr (q := 65536) rfl rfl (by decide) (by decide) rfl rfl) rfl ?_
  refine st (X.convI rfl Try.underlying3 Try.underlying5 (wb _)) rfl ?_
  refine sm rfl rfl ?_
  refine st (X.shr (q := 16777216) rfl rfl (by decide) (by decide) rfl rfl) rfl ?_
  refine st (X.convI rfl Try.underlying3 Try.underlying5 (wb _)) rfl ?_
  refine sbs (ps := [(0, .tmp 7), (1, .tmp 10), (2, .tmp 13), (3, .tmp 16)]) 1 rfl (bs4 _ _ _ _ _) (by simp [maxLen]) rfl rfl (fun g17 w1 hR17 hg17 hb => ?_)
  have hR1 := hR.bel hb
  refine sapp rfl rfl Try.underlying81 inf5 rfl (by decide) hR1 (hR17.reads.src Try.underlying81 (by intro z hz; simp [bv] at hz; rcases hz with rfl | rfl | rfl | rfl <;> rfl)) (by simp only [maxLen]; omega) (by omega) rfl (fun v' w2 hR' hC hv' => ?_)
  refine sa rfl rfl ?_
  refine Wn ?_
  refine tN ?_
  refine W_ret ?_
  refine (rT rfl rfl ⟨v', rfl, ?_, ?_, ?_⟩).1
  · rw [List.map_append]; exact hR'
  · exact (Chg.of_below hb _).trans hC (fun i _ h => h)
  · rcases hv' with h | h
    · exact .inl h
    · exact .inr ⟨_, h, hb.size⟩
/-- the bytes of an address within a record -/
theorem sumSrc {w : World} {g : Nat} {t tx e' : TypeId} {x : Chk} (hB : Blk w g t x.cells.toArray) (hx : x.sum.length = 32) (hk : Try.prog.underlying tx = some (.slice e')) : Src Try.prog 1 tx (.slice (some ⟨g, 0, none⟩) 32 32) 32 (x.sum.map bv) w :=
  Src.ofSlice w hk ⟨g, 0, none⟩ 32 32 (x.sum.map bv) (by simp [hx]) (fun j u hu => by
    have hj := (List.getElem?_eq_some_iff.1 hu).1
    rw [Addr.add_mid, Nat.zero_add, hB.cell, List.getElem?_toArray, Chk.cells, List.getElem?_append_left hj]
    exact hu) (by intro u hu; simp at hu; obtain ⟨q, _, rfl⟩ := hu; rfl)
theorem four_bytes (s : List UInt8) (n : Int) : (s ++ four n).length = s.length + 4 := by rw [List.length_append, four_length]
set_option maxRecDepth 10000 in
theorem packed_any (v : Value) (l : List Chk) (w : World) (h : ChksAt w v l) (hl : l.length ≤ 100000) : Calls Try.prog 63 #[v] w fun e w' => e = .returned (str (packedM l)) ∧ Below w.heap.size w w' := by
  obtain ⟨a, cp, rfl, hn, hcp⟩ := h.1.shape
  refine W_enter (args := [.slice a l.length cp]) 25 Try.func63 rfl rfl rfl ?_
  refine W_sub [(0, .slice a l.length cp)] ?_ ⟨rfl, trivial⟩
  have hbw := Below.refl w.heap.size w
  refine W_rs ?_
  refine sa rfl rfl ?_
  refine Wn ?_
  refine tN ?_
  refine W_rs ?_
  refine sm rfl rfl ?_
  refine st (X.lenL rfl rfl Try.underlying22) rfl ?_
  refine sc _ Try.func89 rfl (by kernel_rfl) rfl rfl ((number_any' _ [] _ _ (Row.nil _ _ _) (by simp)).mono ?_)
  rintro e_ w1 ⟨v3, rfl, hR3, hC, hO⟩
  refine cR ?_
  have hO3 : ∀ k, v3.ownBlock = some k → w.heap.size ≤ k := fun k hk => by rcases hO with hO | ⟨q, hq, hO⟩; rw [hO] at hk; simp [Value.ownBlock] at hk; rw [hq] at hk; injection hk with hk; omega
  replace hbw := bapp hbw hC (fun k hk => by simp [Value.ownBlock] at hk)
  clear hC hO
  refine sa rfl rfl ?_
  refine Wn ?_
  refine tN ?_
  refine W_seq ?_
  refine W_rs ?_
  refine sm rfl rfl ?_
  refine st (X.lenL rfl rfl Try.underlying22) rfl ?_
  refine sm rfl rfl ?_
  refine Wn ?_
  refine tN ?_
  refine W_block ?_
  refine W_lp (fun nw2_ lw2_ w2 => ∃ j : Nat, ∃ v : Value, nw2_ = l.length - j ∧ lw2_ = ([(3, v), (9, .slice a l.length cp), (10, .int .i64 l.length), (11, .int .i64 j)] : Env) ∧ (j ≤ l.length) ∧ (Row w2 5 1 v (4 + 36 * j) ((four (l.length : Nat) ++ (l.take j).flatMap chkBytes).map bv)) ∧ (∀ k, v.ownBlock = some k → w.heap.size ≤ k) ∧ (Below w.heap.size w w2)) _ ⟨_, ⟨0, v3, rfl, rfl, by omega, by simpa using hR3, hO3, hbw⟩, ⟨rfl, rfl, rfl, rfl, trivial⟩⟩ ?_
  clear hbw
  rintro nw2_ lw2_ w2 ⟨j, v, rfl, rfl, hj, hR, hO, hbw⟩
  have hz_w2 := hbw.size
  refine W_rs ?_
  refine st (X.lss rfl rfl) rfl ?_
  refine Wn ?_
  refine tN ?_
  refine W_seq ?_
  refine W_if rfl (fun h12 => ?_) (fun h12 => ?_)
  · first | replace h12 := of_decide_eq_true h12 | replace h12 := of_decide_eq_false (notT h12) | replace h12 := notT h12 | skip
    obtain ⟨x, hx⟩ : ∃ x, l[j]? = some x := ⟨_, List.getElem?_eq_getElem (by omega)⟩
    obtain ⟨g1, o1, c', hv, hg1⟩ := (h.1.bel hbw).some_ (by omega)
    injection hv with e1 _ e3
    subst e1 e3
    have hxs := h.2 x (List.mem_of_getElem? hx)
    refine W_skip ?_
    refine tN ?_
    refine W_seq ?_
    refine W_block ?_
    refine W_rs ?_
    refine st (X.idxA rfl rfl Try.underlying22 siz57 rfl (by omega)) rfl ?_
    refine st (X.ldN (cs := x.cells) rfl Try.underlying57 rfl (by rw [Chk.cells_length hxs]; exact siz57) ((h.bel hbw).range hx)) rfl ?_
    refine salA inf57 rfl (fun g5 w3 hB5 hg5 hb hl5 => ?_)
    have hpend := hb
    replace hbw := bthen hbw hb
    have hz_w3 := hb.size
    clear hb
    refine ssBN rfl rfl hB5 (by rw [Chk.size hxs]; exact siz57) (by rw [Chk.size hxs]; rfl) (Chk.cells_one x) (fun w4 hB_ hc_ => ?_)
    replace hB5 := hB_
    clear hB_
    replace hpend := bset hpend hc_ (by omega)
    replace hbw := bset hbw hc_ (by omega)
    have hz_w4 := hc_.size
    clear hc_
    refine Wn ?_
    refine tN ?_
    refine W_drN (fun W_ => ∃ gx, gx = g5 ∧ Blk W_ gx 57 x.cells.toArray) [0, 1, 2, 4, 5, 3, 6, 7] [true, true, true, true, true, false, false, true] (by kernel_rfl) (by kernel_rfl) (⟨_, rfl, hB5.drew⟩) ?_
    obtain ⟨w5, hw_⟩ : ∃ w5 : World, w5 = World.drew w4 := ⟨_, rfl⟩
    rw [← hw_]
    have hb : Below w4.heap.size w4 w5 := by rw [hw_]; exact bdrew (Below.refl _ _)
    clear hw_
    have hS := hb
    replace hpend := bthen hpend hb
    replace hbw := bthen hbw hb
    replace hB5 := hB5.bel hb
    have hz_w5 := hb.size
    clear hb
    refine oY rfl (fun W_ hW_ => (X.move rfl)) rfl ?_
    refine oY rfl (fun W_ hW_ => (X.fa fa57_0 rfl)) rfl ?_
    refine oY rfl (fun W_ hW_ => (X.slArr rfl Try.underlying36 siz5)) rfl ?_
    refine oY rfl (fun W_ hW_ => (X.fa fa57_1 rfl)) rfl ?_
    refine oY rfl (fun W_ hW_ => (X.ldB rfl (by obtain ⟨gx, rfl, h⟩ := hW_; exact h) Try.underlying3 rfl (Chk.cells_len hxs))) rfl ?_
    refine oL rfl (fun Q_ hQ_ hP_ => ?_)
    replace hR := hR.bel hpend
    clear hpend
    refine sapp rfl rfl Try.underlying81 inf5 rfl (by decide) hR (sumSrc hB5 hxs Try.underlying81) (by simp only [maxLen]; omega) (by omega) rfl (fun v1 w6 hR1 hC hv1 => ?_)
    replace hB5 := hB5.chg hC (hR.ne_ hB5 (by decide))
    have hO1 := own_next hv1 hO (by omega)
    replace hbw := bapp hbw hC hO
    clear hC hR
    refine Wn (hQ_ _ _ (⟨_, rfl, hB5⟩) ?_)
    clear hQ_ hP_ Q_
    refine oL rfl (fun Q_ hQ_ hP_ => ?_)
    refine sc _ Try.func89 rfl (by kernel_rfl) rfl rfl ((number_any' v1 (four (l.length : Nat) ++ (l.take j).flatMap chkBytes ++ x.sum) x.len _ (by rw [show (four (l.length : Nat) ++ (l.take j).flatMap chkBytes ++ x.sum).length = 4 + 36 * j + 32 by rw [List.length_append, List.length_append, four_length, flat_length chkBytes 36 _ (fun c hc => by simp [chkBytes, h.2 c (List.mem_of_mem_take hc), four_length]), hxs, List.length_take]; omega, List.map_append]; exact hR1) (by rw [List.length_append, List.length_append, four_length, flat_length chkBytes 36 _ (fun c hc => by simp [chkBytes, h.2 c (List.mem_of_mem_take hc), four_length]), hxs, List.length_take]; omega)).mono ?_)
    rintro e_ w7 ⟨v', rfl, hR', hC, hO2⟩
    refine cR ?_
    have hO' : ∀ k, v'.ownBlock = some k → w.heap.size ≤ k := fun k hk => by rcases hO2 with hO2 | ⟨q, hq, hO2⟩; exact hO1 k (by rw [← hO2]; exact hk); rw [hq] at hk; injection hk with hk; have := hbw.size; omega
    replace hB5 := hB5.chg hC (hR1.ne_ hB5 (by decide))
    replace hbw := bapp hbw hC hO1
    rw [show (four (l.length : Nat) ++ (l.take j).flatMap chkBytes ++ x.sum).length + 4 = 4 + 36 * (j + 1) by rw [List.length_append, List.length_append, four_length, flat_length chkBytes 36 _ (fun c hc => by simp [chkBytes, h.2 c (List.mem_of_mem_take hc), four_length]), hxs, List.length_take]; omega] at hR'
    clear hC hO2 hR1
    refine Wn (hQ_ _ _ (⟨_, rfl, hB5⟩) ?_)
    clear hQ_ hP_ Q_
    refine oY rfl (fun W_ hW_ => (X.assign rfl)) rfl ?_
    refine oN ?_
    refine nN ?_
    refine bN ?_
    refine tN ?_
    refine W_reg ?_
    refine st (X.add64 rfl rfl (by omega)) rfl ?_
    refine sm rfl rfl ?_
    refine Wn ?_
    refine tN ⟨_, _, ?_, ⟨j + 1, v', rfl, rfl, by omega, by rw [take_next' hx, List.flatMap_append, ← List.append_assoc]; simpa [chkBytes, Nat.mul_add, Nat.add_assoc] using hR', hO', hbw⟩, ⟨rfl, rfl, rfl, rfl, trivial⟩⟩
    omega
  · first | replace h12 := of_decide_eq_false h12 | replace h12 := of_decide_eq_true (notF h12) | replace h12 := notF h12 | skip
    obtain rfl : j = l.length := by omega
    rw [List.take_length] at hR
    refine W_exit (tE (tE (bH ?_)))
    refine tN ?_
    refine W_rs ?_
    refine sm rfl rfl ?_
    refine st (X.strOf (s := packedM l) rfl Try.underlying81 Try.underlying5 Try.underlying9 hR.reads) rfl ?_
    refine sa rfl rfl ?_
    refine Wn ?_
    refine tN ?_
    refine W_ret ?_
    exact (rT rfl rfl ⟨rfl, hbw⟩).1
end Go.Proofs.Ytnagmpnpgekhfaa
