/- armariumref17: Get, Total, Add, Diff; the law RefsAdds. -/
import Derived.Test.YtnagmpnpgekhfaaRefsDiffL
namespace Go.Proofs.Ytnagmpnpgekhfaa
open Go.RowKit
section
variable {P : Program} {fn : Func} {R : Ending → World → Prop} {l : Env} {w : World}
theorem r3 {x y z : ResultVar} {v u s : Value} (hf : fn.results = #[x, y, z]) (hx : ResVar P l w x v) (hy : ResVar P l w y u) (hz : ResVar P l w z s) (hR : R (.returned (.tuple #[v, u, s])) w) : fnPost P fn R .ret l w ∧ fnPost P fn R .normal l w := by
  have h : ∃ v, (∀ a : Array Value, (∀ t v, lk l t = some v → a.getD t undef = v) → (results fn a).run P w = .ok v w) ∧ R (.returned v) w := ⟨.tuple #[v, u, s], fun a ha => by
    have h1 := run_resVar hx a ha
    have h2 := run_resVar hy a ha
    have h3 := run_resVar hz a ha
    rw [results_eq, hf]
    simp only [List.mapM_toArray, List.mapM_cons, List.mapM_nil, Sem.run_bind, Sem.run_pure, map_eq_pure_bind]
    simp only [h1, h2, h3, Result.andThen_ok]
    rfl, hR⟩
  exact ⟨h, h⟩
theorem rTTT {t t2 t3 : Nat} {v v2 v3 : Value} (hf : fn.results = #[.tmp t, .tmp t2, .tmp t3]) (hx : lk l t = some v) (hy : lk l t2 = some v2) (hz : lk l t3 = some v3) (hR : R (.returned (.tuple #[v, v2, v3])) w) : fnPost P fn R .ret l w ∧ fnPost P fn R .normal l w := r3 hf hx hy hz hR
end
theorem RGet_any (v : Value) (l : List Chk) (a : List UInt8) (w : World) (h : RAt w v l) (hs : Srt l) : Calls Try.prog 36 #[v, str a] w fun e w' => e = .returned (.int .i64 (tot a l)) ∧ Below w.heap.size w w' := by
  obtain ⟨ad, cp, rfl, hn, hcp⟩ := h.shape
  refine W_enter (args := [.slice ad l.length cp, str a]) 24 Try.func36 rfl rfl rfl ?_
  refine W_sub [(0, .slice ad l.length cp), (1, str a)] ?_ ⟨rfl, rfl, trivial⟩
  have hbw := Below.refl w.heap.size w
  refine W_rs ?_
  refine sa rfl rfl ?_
  refine Wn ?_
  refine tN ?_
  refine W_seq ?_
  refine W_rs ?_
  refine sa rfl rfl ?_
  refine Wn ?_
  refine tN ?_
  refine W_block ?_
  refine W_lp (fun nw1_ lw1_ w1 => ∃ j : Nat, nw1_ = l.length - j ∧ lw1_ = ([(0, .slice ad l.length cp), (1, str a), (5, .int .i64 j)] : Env) ∧ (j ≤ l.length) ∧ (tot a (l.take j) = 0) ∧ (Below w.heap.size w w1)) _ ⟨_, ⟨0, rfl, rfl, by omega, rfl, hbw⟩, ⟨rfl, rfl, rfl, trivial⟩⟩ ?_
  clear hbw
  rintro nw1_ lw1_ w1 ⟨j, rfl, rfl, hj, hq, hbw⟩
  have hz_w1 := hbw.size
  refine W_seq ?_
  refine W_rs ?_
  refine sm rfl rfl ?_
  refine sm rfl rfl ?_
  refine st (X.lenL rfl rfl Try.underlying29) rfl ?_
  refine st (X.lss rfl rfl) rfl ?_
  refine Wn ?_
  refine tN ?_
  refine W_if rfl (fun h9 => ?_) (fun h9 => ?_)
  · first | replace h9 := of_decide_eq_true h9 | replace h9 := of_decide_eq_false (notT h9) | replace h9 := notT h9 | skip
    obtain ⟨x, hx⟩ : ∃ x, l[j]? = some x := ⟨_, List.getElem?_eq_getElem (by omega)⟩
    obtain ⟨g1, o1, c', hv, hg1⟩ := (h.bel hbw).some_ (by omega)
    injection hv with e1 _ e3
    subst e1 e3
    refine W_skip ?_
    refine tN ?_
    refine W_seq ?_
    refine W_block ?_
    refine W_rs ?_
    refine sm rfl rfl ?_
    refine sm rfl rfl ?_
    refine st (X.idxA rfl rfl Try.underlying29 siz107 rfl (by omega)) rfl ?_
    refine st (X.fa fa107_0 rfl) rfl ?_
    refine st (X.ld rfl Try.underlying9 rfl ((RAt.range (h.bel hbw) hx) 0 _ rfl)) rfl ?_
    refine sm rfl rfl ?_
    refine st (X.eqS rfl rfl) rfl ?_
    refine Wn ?_
    refine tN ?_
    refine W_if rfl (fun h18 => ?_) (fun h18 => ?_)
    · first | replace h18 := of_decide_eq_true h18 | replace h18 := of_decide_eq_false (notT h18) | replace h18 := notT h18 | skip
      refine W_rs ?_
      refine sm rfl rfl ?_
      refine sm rfl rfl ?_
      refine st (X.idxA rfl rfl Try.underlying29 siz107 rfl (by omega)) rfl ?_
      refine st (X.fa fa107_1 rfl) rfl ?_
      refine st (X.ld rfl Try.underlying3 rfl ((RAt.range (h.bel hbw) hx) 1 _ rfl)) rfl ?_
      refine sa rfl rfl ?_
      refine Wn ?_
      refine tN ?_
      refine W_ret (bR (tR (tR (bR (tR ?_)))))
      subst h18
      exact (rT rfl rfl ⟨by rw [tot_srt hs (List.mem_of_getElem? hx)], hbw⟩).1
    · first | replace h18 := of_decide_eq_false h18 | replace h18 := of_decide_eq_true (notF h18) | replace h18 := notF h18 | skip
      refine W_skip ?_
      refine bN ?_
      refine tN ?_
      refine W_reg ?_
      refine sm rfl rfl ?_
      refine st (X.add64 rfl rfl (by omega)) rfl ?_
      refine sa rfl rfl ?_
      refine Wn ?_
      refine tN ⟨_, _, ?_, ⟨j + 1, rfl, rfl, by omega, by rw [tot_take hx, hq, if_neg h18]; rfl, hbw⟩, ⟨rfl, rfl, rfl, trivial⟩⟩
      omega
  · first | replace h9 := of_decide_eq_false h9 | replace h9 := of_decide_eq_true (notF h9) | replace h9 := notF h9 | skip
    refine W_exit (tE (tE (bH ?_)))
    refine tN ?_
    refine W_rs ?_
    refine sa rfl rfl ?_
    refine Wn ?_
    refine tN ?_
    refine W_ret ?_
    obtain rfl : j = l.length := by omega
    rw [List.take_length] at hq
    exact (rT rfl rfl ⟨by rw [hq], hbw⟩).1
theorem RTotal_any (v : Value) (l : List Chk) (w : World) (h : RAt w v l) (hl : ∀ c ∈ l, 0 ≤ c.len ∧ c.len ≤ 4294967296) (hll : l.length ≤ 1000000) : Calls Try.prog 31 #[v] w fun e w' => e = .returned (.int .i64 (sumLen l)) ∧ Below w.heap.size w w' := by
  obtain ⟨ad, cp, rfl, hn, hcp⟩ := h.shape
  refine W_enter (args := [.slice ad l.length cp]) 19 Try.func31 rfl rfl rfl ?_
  refine W_sub [(0, .slice ad l.length cp)] ?_ ⟨rfl, trivial⟩
  have hbw := Below.refl w.heap.size w
  refine W_rs ?_
  refine sa rfl rfl ?_
  refine Wn ?_
  refine tN ?_
  refine W_rs ?_
  refine sa rfl rfl ?_
  refine Wn ?_
  refine tN ?_
  refine W_seq ?_
  refine W_rs ?_
  refine sa rfl rfl ?_
  refine Wn ?_
  refine tN ?_
  refine W_block ?_
  refine W_lp (fun nw1_ lw1_ w1 => ∃ j : Nat, nw1_ = l.length - j ∧ lw1_ = ([(0, .slice ad l.length cp), (3, .int .i64 (sumLen (l.take j))), (4, .int .i64 j)] : Env) ∧ (j ≤ l.length) ∧ (Below w.heap.size w w1)) _ ⟨_, ⟨0, rfl, rfl, by omega, hbw⟩, ⟨rfl, rfl, rfl, trivial⟩⟩ ?_
  clear hbw
  rintro nw1_ lw1_ w1 ⟨j, rfl, rfl, hj, hbw⟩
  have hz_w1 := hbw.size
  refine W_seq ?_
  refine W_rs ?_
  refine sm rfl rfl ?_
  refine sm rfl rfl ?_
  refine st (X.lenL rfl rfl Try.underlying29) rfl ?_
  refine st (X.lss rfl rfl) rfl ?_
  refine Wn ?_
  refine tN ?_
  refine W_if rfl (fun h8 => ?_) (fun h8 => ?_)
  · first | replace h8 := of_decide_eq_true h8 | replace h8 := of_decide_eq_false (notT h8) | replace h8 := notT h8 | skip
    obtain ⟨x, hx⟩ : ∃ x, l[j]? = some x := ⟨_, List.getElem?_eq_getElem (by omega)⟩
    obtain ⟨g1, o1, c', hv, hg1⟩ := (h.bel hbw).some_ (by omega)
    injection hv with e1 _ e3
    subst e1 e3
    have hxl := hl x (List.mem_of_getElem? hx)
    have hsb := sumLen_bound (l := l.take j) (fun c hc => hl c (List.mem_of_mem_take hc))
    rw [List.length_take] at hsb
    obtain ⟨sv, hsv⟩ : ∃ sv, sumLen (l.take j) = sv := ⟨_, rfl⟩
    rw [hsv] at hsb
    refine W_skip ?_
    refine tN ?_
    refine W_seq ?_
    refine W_block ?_
    refine W_reg ?_
    refine sm rfl rfl ?_
    refine sm rfl rfl ?_
    refine sm rfl rfl ?_
    refine st (X.idxA rfl rfl Try.underlying29 siz107 rfl (by omega)) rfl ?_
    refine st (X.fa fa107_1 rfl) rfl ?_
    refine st (X.ld rfl Try.underlying3 rfl ((RAt.range (h.bel hbw) hx) 1 _ rfl)) rfl ?_
    refine st (X.add64 rfl rfl (by rw [hsv]; omega)) rfl ?_
    refine sa rfl rfl ?_
    refine Wn ?_
    refine bN ?_
    refine tN ?_
    refine W_reg ?_
    refine sm rfl rfl ?_
    refine st (X.add64 rfl rfl (by omega)) rfl ?_
    refine sa rfl rfl ?_
    refine Wn ?_
    refine tN ⟨_, _, ?_, ⟨j + 1, rfl, rfl, by omega, hbw⟩, ⟨rfl, by rw [sumLen_take hx]; rfl, rfl, trivial⟩⟩
    omega
  · first | replace h8 := of_decide_eq_false h8 | replace h8 := of_decide_eq_true (notF h8) | replace h8 := notF h8 | skip
    obtain rfl : j = l.length := by omega
    refine W_exit (tE (tE (bH ?_)))
    refine tN ?_
    refine W_rs ?_
    refine sm rfl rfl ?_
    refine sa rfl rfl ?_
    refine Wn ?_
    refine tN ?_
    refine W_ret ?_
    refine (rT rfl rfl ⟨?_, hbw⟩).1
    rw [List.take_length]
theorem rcells_flat_one (l : List Chk) : ∀ u ∈ l.flatMap rcells, u.oneCell' = true := fun u hu => by
  obtain ⟨c, _, hc⟩ := List.mem_flatMap.1 hu
  exact rcells_one c u hc
def goneM (L : List Chk) (d : Chk) : Bool := decide (tot d.sum L = 0)
theorem goneM_take {x L : List Chk} {j : Nat} {d : Chk} (hd : x[j]? = some d) : keysOf ((x.take (j + 1)).filter (goneM L)) = keysOf ((x.take j).filter (goneM L)) ++ (if tot d.sum L = 0 then [d.sum] else []) := by
  unfold keysOf
  rw [take_next' hd, List.filter_append, List.map_append]
  congr 1
  by_cases h : tot d.sum L = 0 <;> simp [goneM, h]
def RAddPost (w : World) (r : List Chk × List Key × Int) (e : Ending) (w' : World) : Prop := ∃ v1 v2, e = .returned (.tuple #[v1, v2, .int .i64 r.2.2]) ∧ RAt w' v1 r.1 ∧ Reads w' 1 v2 r.2.1.length (r.2.1.map str) ∧ Below w.heap.size w w'
theorem radd_err {w w' : World} {v : Value} {c : List Chk} {k : Int} {r : List Chk × List Key × Int} (hr : r = (c, [], k)) (hR : RAt w' v c) (hb : Below w.heap.size w w') : RAddPost w r (.returned (.tuple #[v, .slice none 0 0, .int .i64 k])) w' := by
  subst hr
  exact ⟨_, _, rfl, hR, ⟨rfl, none, 0, rfl, Nat.le_refl _, by simp [maxLen], fun h => absurd h (by simp)⟩, hb⟩
set_option maxRecDepth 10000 in
set_option maxHeartbeats 1000000 in
theorem RAdd_any (vc vl : Value) (c l : List Chk) (w : World) (hc : RAt w vc c) (hl : RAt w vl l) (hC : Cnts c) (hcl : c.length ≤ 100000) :
    Calls Try.prog 27 #[vc, vl] w (RAddPost w (addM c l)) := by
  obtain ⟨ac, cc, rfl, hcn, hcc⟩ := hc.shape
  obtain ⟨al, cl, rfl, hln, hlc⟩ := hl.shape
  refine W_enter (args := [.slice ac c.length cc, .slice al l.length cl]) 70 Try.func27 rfl rfl rfl ?_
  refine W_sub [(0, .slice ac c.length cc), (1, .slice al l.length cl)] ?_ ⟨rfl, rfl, trivial⟩
  have hbw := Below.refl w.heap.size w
  refine W_rs ?_
  refine sa rfl rfl ?_
  refine sa rfl rfl ?_
  refine sa rfl rfl ?_
  refine Wn ?_
  refine tN ?_
  refine W_rs ?_
  refine sm rfl rfl ?_
  refine sc _ Try.func64 rfl (by kernel_rfl) rfl rfl ((rmay_any _ l _ (Reads.bel hl hbw)).mono ?_)
  rintro e_ w1 ⟨rfl, hb⟩
  refine cR ?_
  replace hbw := bthen hbw hb
  have hz_w1 := hb.size
  clear hb
  refine sa rfl rfl ?_
  refine Wn ?_
  refine tN ?_
  refine W_seq ?_
  refine W_rs ?_
  refine sm rfl rfl ?_
  refine st (X.neq rfl rfl) rfl ?_
  refine Wn ?_
  refine tN ?_
  refine W_if rfl (fun h15 => ?_) (fun h15 => ?_)
  · first | replace h15 := of_decide_eq_true h15 | replace h15 := of_decide_eq_false (notT h15) | replace h15 := notT h15 | skip
    refine W_rs ?_
    refine sm rfl rfl ?_
    refine sm rfl rfl ?_
    refine sa rfl rfl ?_
    refine sa rfl rfl ?_
    refine sa rfl rfl ?_
    refine Wn ?_
    refine tN ?_
    refine W_ret (tR ?_)
    exact (rTTT rfl rfl rfl rfl (radd_err (show addM c l = (c, [], mayM l) by unfold addM; rw [if_pos h15]) (Reads.bel hc hbw) hbw)).1
  · first | replace h15 := of_decide_eq_false h15 | replace h15 := of_decide_eq_true (notF h15) | replace h15 := notF h15 | skip
    have h80 : mayM l = 0 := Classical.not_not.1 h15
    obtain ⟨htm, htl⟩ := may_tame h80
    refine W_skip ?_
    refine tN ?_
    refine W_rs ?_
    refine sa rfl rfl ?_
    refine Wn ?_
    refine tN ?_
    refine W_rs ?_
    refine sm rfl rfl ?_
    refine sm rfl rfl ?_
    refine sapp rfl rfl Try.underlying29 inf107 rfl (by decide) (Row.nil _ _ _) ((Reads.bel hc hbw).src Try.underlying29 (rcells_flat_one c)) (by simp only [maxLen]; omega) (by omega) rfl (fun v8 w2 hR8 hCc hv8 => ?_)
    replace hbw := bapp hbw hCc (fun k hk => by simp [Value.ownBlock] at hk)
    have hO8 := own_next hv8 (B := w.heap.size) (fun k hk => by simp [Value.ownBlock] at hk) (by omega)
    rw [List.nil_append, Nat.zero_add] at hR8
    have hz52 := hCc.size
    clear hCc hv8
    refine sa rfl rfl ?_
    refine Wn ?_
    refine tN ?_
    refine W_rs ?_
    refine sm rfl rfl ?_
    refine sm rfl rfl ?_
    refine sapp rfl rfl Try.underlying29 inf107 rfl (by decide) hR8 ((Reads.bel hl hbw).src Try.underlying29 (rcells_flat_one l)) (by simp only [maxLen]; omega) (by omega) rfl (fun v9 w3 hR9 hCc hv9 => ?_)
    replace hbw := bapp hbw hCc hO8
    rw [← List.flatMap_append, ← List.length_append] at hR9
    have hz62 := hCc.size
    clear hCc hv9 hR8
    refine sc _ Try.func24 rfl (by kernel_rfl) rfl rfl ((RNet_any v9 (c ++ l) _ hR9.reads (by rw [List.length_append]; omega) (fun d hd => by rcases List.mem_append.1 hd with h | h; exact (fun hp => by omega : (1 ≤ d.len ∧ d.len ≤ 2147483647) → _) (hC.pos d h); exact htm d h)).mono ?_)
    rintro e_ w4 ⟨vn, rfl, hR, hOn, hb⟩
    refine cR ?_
    replace hbw := bthen hbw hb
    have hz_w4 := hb.size
    clear hb
    obtain ⟨an, cn, rfl, hnn, hcn'⟩ := hR.shape
    obtain ⟨L, hL⟩ : ∃ L, netM (c ++ l) = L := ⟨_, rfl⟩
    have hLs : Srt L := by rw [← hL]; exact (isNet _).srt
    have hLl := netM_length (c ++ l)
    rw [List.length_append] at hLl
    rw [hL] at hR hnn hLl
    rw [hL]
    refine sa rfl rfl ?_
    refine Wn ?_
    refine tN ?_
    refine W_seq ?_
    refine W_rs ?_
    refine sa rfl rfl ?_
    refine Wn ?_
    refine tN ?_
    refine W_block ?_
    refine W_lp (fun nw5_ lw5_ w5 => ∃ j : Nat, nw5_ = L.length - j ∧ lw5_ = ([(0, .slice ac c.length cc), (8, .slice an L.length cn), (9, .int .i64 j)] : Env) ∧ (j ≤ L.length) ∧ (L.any outN = (L.drop j).any outN) ∧ (Row w5 107 2 (.slice an L.length cn) L.length (L.flatMap rcells)) ∧ (Below w.heap.size w w5)) _ ⟨_, ⟨0, rfl, rfl, by omega, rfl, hR, hbw⟩, ⟨rfl, rfl, rfl, trivial⟩⟩ ?_
    clear hR hbw
    rintro nw5_ lw5_ w5 ⟨j, rfl, rfl, hj, hq, hR, hbw⟩
    have hz_w5 := hbw.size
    refine W_seq ?_
    refine W_rs ?_
    refine sm rfl rfl ?_
    refine sm rfl rfl ?_
    refine st (X.lenL rfl rfl Try.underlying29) rfl ?_
    refine st (X.lss rfl rfl) rfl ?_
    refine Wn ?_
    refine tN ?_
    refine W_if rfl (fun h28 => ?_) (fun h28 => ?_)
    · first | replace h28 := of_decide_eq_true h28 | replace h28 := of_decide_eq_false (notT h28) | replace h28 := notT h28 | skip
      obtain ⟨x, hx⟩ : ∃ x, L[j]? = some x := ⟨_, List.getElem?_eq_getElem (by omega)⟩
      have hRe := hR.reads
      obtain ⟨g1, o1, c', hv, hg1⟩ := hRe.some_ (by omega)
      injection hv with e1 _ e3
      subst e1 e3
      refine W_skip ?_
      refine tN ?_
      refine W_seq ?_
      refine W_block ?_
      refine W_rs ?_
      refine sm rfl rfl ?_
      refine sm rfl rfl ?_
      refine st (X.idxA rfl rfl Try.underlying29 siz107 rfl (by omega)) rfl ?_
      refine st (X.fa fa107_1 rfl) rfl ?_
      refine st (X.ld rfl Try.underlying3 rfl ((RAt.range hRe hx) 1 _ rfl)) rfl ?_
      refine st (X.lss rfl rfl) rfl ?_
      refine sb rfl rfl (fun h37 => ?_) (fun h37 => ?_)
      · first | replace h37 := of_decide_eq_true h37 | replace h37 := of_decide_eq_false (notT h37) | replace h37 := notT h37 | skip
        refine gN (g := 37) rfl rfl rfl rfl ?_
        refine gN (g := 37) rfl rfl rfl rfl ?_
        refine gN (g := 37) rfl rfl rfl rfl ?_
        refine gN (g := 37) rfl rfl rfl rfl ?_
        refine gN (g := 37) rfl rfl rfl rfl ?_
        refine gN (g := 37) rfl rfl rfl rfl ?_
        refine st (X.pickT rfl rfl) rfl ?_
        refine Wn ?_
        refine tN ?_
        refine W_yes rfl (rfl) ?_
        refine W_rs ?_
        refine sm rfl rfl ?_
        refine sa rfl rfl ?_
        refine sa rfl rfl ?_
        refine sa rfl rfl ?_
        refine Wn ?_
        refine tN ?_
        refine W_ret (bR (tR (tR (bR (tR ?_)))))
        have hno : outN x = true := decide_eq_true (by omega)
        refine (rTTT rfl rfl rfl rfl (radd_err ?_ (Reads.bel hc hbw) hbw)).1
        unfold addM
        rw [if_neg (by omega), hL, if_pos]
        rw [hq, any_drop _ hx, hno]; rfl
      · first | replace h37 := of_decide_eq_false h37 | replace h37 := of_decide_eq_true (notF h37) | replace h37 := notF h37 | skip
        refine gY (g := 37) rfl rfl rfl ?_
        refine sm rfl rfl ?_
        refine gY (g := 37) rfl rfl rfl ?_
        refine sm rfl rfl ?_
        refine gY (g := 37) rfl rfl rfl ?_
        refine st (X.idxA rfl rfl Try.underlying29 siz107 rfl (by omega)) rfl ?_
        refine gY (g := 37) rfl rfl rfl ?_
        refine st (X.fa fa107_1 rfl) rfl ?_
        refine gY (g := 37) rfl rfl rfl ?_
        refine st (X.ld rfl Try.underlying3 rfl ((RAt.range hRe hx) 1 _ rfl)) rfl ?_
        refine gY (g := 37) rfl rfl rfl ?_
        refine st (X.gtr rfl rfl) rfl ?_
        refine st (X.pickF rfl rfl) rfl ?_
        refine Wn ?_
        refine tN ?_
        refine W_if rfl (fun h44 => ?_) (fun h44 => ?_)
        · first | replace h44 := of_decide_eq_true h44 | replace h44 := of_decide_eq_false (notT h44) | replace h44 := notT h44 | skip
          refine W_rs ?_
          refine sm rfl rfl ?_
          refine sa rfl rfl ?_
          refine sa rfl rfl ?_
          refine sa rfl rfl ?_
          refine Wn ?_
          refine tN ?_
          refine W_ret (bR (tR (tR (bR (tR ?_)))))
          have hno : outN x = true := decide_eq_true (by omega)
          refine (rTTT rfl rfl rfl rfl (radd_err ?_ (Reads.bel hc hbw) hbw)).1
          unfold addM
          rw [if_neg (by omega), hL, if_pos]
          rw [hq, any_drop _ hx, hno]; rfl
        · first | replace h44 := of_decide_eq_false h44 | replace h44 := of_decide_eq_true (notF h44) | replace h44 := notF h44 | skip
          refine W_skip ?_
          refine bN ?_
          refine tN ?_
          refine W_reg ?_
          refine sm rfl rfl ?_
          refine st (X.add64 rfl rfl (by omega)) rfl ?_
          refine sa rfl rfl ?_
          refine Wn ?_
          refine tN ⟨_, _, ?_, ⟨j + 1, rfl, rfl, by omega, by rw [hq, any_drop _ hx, show outN x = false from decide_eq_false (by omega)]; rfl, hR, hbw⟩, ⟨rfl, rfl, rfl, trivial⟩⟩
          omega
    · first | replace h28 := of_decide_eq_false h28 | replace h28 := of_decide_eq_true (notF h28) | replace h28 := notF h28 | skip
      obtain rfl : j = L.length := by omega
      rw [List.drop_length] at hq
      have hadd : addM c l = (L, keysOf (c.filter (goneM L)), 0) := by
        unfold addM
        rw [if_neg (by omega), hL, if_neg (by rw [hq]; simp)]
        rfl
      refine W_exit (tE (tE (bH ?_)))
      refine tN ?_
      refine W_rs ?_
      refine sa rfl rfl ?_
      refine Wn ?_
      refine tN ?_
      refine W_seq ?_
      refine W_rs ?_
      refine sa rfl rfl ?_
      refine Wn ?_
      refine tN ?_
      refine W_block ?_
      refine W_lp (fun nw6_ lw6_ w6 => ∃ j : Nat, ∃ vg : Value, nw6_ = c.length - j ∧ lw6_ = ([(0, .slice ac c.length cc), (8, .slice an L.length cn), (10, vg), (11, .int .i64 j)] : Env) ∧ (j ≤ c.length) ∧ (Row w6 107 2 (.slice an L.length cn) L.length (L.flatMap rcells)) ∧ (Row w6 9 1 vg (keysOf ((c.take j).filter (goneM L))).length ((keysOf ((c.take j).filter (goneM L))).map str)) ∧ (∀ k, vg.ownBlock = some k → w.heap.size ≤ k) ∧ (∀ k, vg.ownBlock = some k → ¬ (Value.slice an L.length cn).ownBlock = some k) ∧ (Below w.heap.size w w6)) _ ⟨_, ⟨0, .slice none 0 0, rfl, rfl, by omega, hR, Row.nil _ _ _, (fun k hk => by simp [Value.ownBlock] at hk), (fun k hk => by simp [Value.ownBlock] at hk), hbw⟩, ⟨rfl, rfl, rfl, rfl, trivial⟩⟩ ?_
      clear hR hbw
      rintro nw6_ lw6_ w6 ⟨j, vg, rfl, rfl, hj, hR, hG, hOg, hsep, hbw⟩
      have hz_w6 := hbw.size
      refine W_seq ?_
      refine W_rs ?_
      refine sm rfl rfl ?_
      refine sm rfl rfl ?_
      refine st (X.lenL rfl rfl Try.underlying29) rfl ?_
      refine st (X.lss rfl rfl) rfl ?_
      refine Wn ?_
      refine tN ?_
      refine W_if rfl (fun h49 => ?_) (fun h49 => ?_)
      · first | replace h49 := of_decide_eq_true h49 | replace h49 := of_decide_eq_false (notT h49) | replace h49 := notT h49 | skip
        obtain ⟨d, hd⟩ : ∃ d, c[j]? = some d := ⟨_, List.getElem?_eq_getElem (by omega)⟩
        obtain ⟨g1, o1, c', hv, hg1⟩ := (Reads.bel hc hbw).some_ (by omega)
        injection hv with e1 _ e3
        subst e1 e3
        have hgk : (keysOf ((c.take j).filter (goneM L))).length ≤ j := by
          unfold keysOf
          rw [List.length_map]
          have := List.length_filter_le (goneM L) (c.take j)
          rw [List.length_take] at this
          omega
        refine W_skip ?_
        refine tN ?_
        refine W_seq ?_
        refine W_block ?_
        refine W_rs ?_
        refine sm rfl rfl ?_
        refine sm rfl rfl ?_
        refine sm rfl rfl ?_
        refine st (X.idxA rfl rfl Try.underlying29 siz107 rfl (by omega)) rfl ?_
        refine st (X.fa fa107_0 rfl) rfl ?_
        refine st (X.ld rfl Try.underlying9 rfl ((RAt.range (Reads.bel hc hbw) hd) 0 _ rfl)) rfl ?_
        refine sc _ Try.func36 rfl (by kernel_rfl) rfl rfl ((RGet_any _ L d.sum _ hR.reads hLs).mono ?_)
        rintro e_ w7 ⟨rfl, hb⟩
        refine cR ?_
        have hpend := hb
        replace hbw := bthen hbw hb
        have hz_w7 := hb.size
        clear hb
        refine st (X.eql rfl rfl) rfl ?_
        refine Wn ?_
        refine tN ?_
        refine W_if rfl (fun h59 => ?_) (fun h59 => ?_)
        · first | replace h59 := of_decide_eq_true h59 | replace h59 := of_decide_eq_false (notT h59) | replace h59 := notT h59 | skip
          refine W_reg ?_
          refine sm rfl rfl ?_
          refine sm rfl rfl ?_
          refine sm rfl rfl ?_
          refine st (X.idxA rfl rfl Try.underlying29 siz107 rfl (by omega)) rfl ?_
          refine st (X.fa fa107_0 rfl) rfl ?_
          refine st (X.ld rfl Try.underlying9 rfl ((RAt.range (Reads.bel hc hbw) hd) 0 _ rfl)) rfl ?_
          refine sbs1 rfl Try.underlying42 inf9 rfl rfl (by decide) (by decide) rfl (fun g66 w8 hR66 hg66 hb => ?_)
          replace hpend := bthen hpend hb
          replace hbw := bthen hbw hb
          have hz_w8 := hb.size
          clear hb
          have hl66 := hR66.blt (by decide)
          replace hR := hR.bel hpend
          replace hG := hG.bel hpend
          clear hpend
          refine sapp rfl rfl Try.underlying42 inf9 rfl (by decide) hG (hR66.reads.src Try.underlying42 (fun u hu => by have h1 : u ∈ [str d.sum] := hu; simp at h1; subst h1; rfl)) (by simp only [maxLen]; omega) (by omega) rfl (fun vg' w9 hG' hCc hv' => ?_)
          have hfl := hR.own_lt
          replace hbw := bapp hbw hCc hOg
          replace hR := hR.chg hCc (fun k hk e => hsep k e hk)
          have hsep' : ∀ k, vg'.ownBlock = some k → ¬ (Value.slice an L.length cn).ownBlock = some k := fun k hk h2 => by rcases hv' with e | e; exact hsep k (by rw [← e]; exact hk) h2; rw [e] at hk; injection hk with hk; have := hfl k h2; omega
          have hOg' := own_next hv' hOg (by omega)
          replace hG' : Row w9 9 1 vg' (keysOf ((c.take (j + 1)).filter (goneM L))).length ((keysOf ((c.take (j + 1)).filter (goneM L))).map str) := by
            rw [goneM_take hd, if_pos h59, List.length_append, List.map_append]
            exact hG'
          have hz177 := hCc.size
          clear hCc hv'
          refine sa rfl rfl ?_
          refine Wn ?_
          refine bN ?_
          refine tN ?_
          refine W_reg ?_
          refine sm rfl rfl ?_
          refine st (X.add64 rfl rfl (by omega)) rfl ?_
          refine sa rfl rfl ?_
          refine Wn ?_
          refine tN ⟨_, _, ?_, ⟨j + 1, vg', rfl, rfl, by omega, hR, hG', hOg', hsep', hbw⟩, ⟨rfl, rfl, rfl, rfl, trivial⟩⟩
          omega
        · first | replace h59 := of_decide_eq_false h59 | replace h59 := of_decide_eq_true (notF h59) | replace h59 := notF h59 | skip
          refine W_skip ?_
          refine bN ?_
          refine tN ?_
          refine W_reg ?_
          replace hR := hR.bel hpend
          replace hG := hG.bel hpend
          clear hpend
          have hG' : Row w7 9 1 vg (keysOf ((c.take (j + 1)).filter (goneM L))).length ((keysOf ((c.take (j + 1)).filter (goneM L))).map str) := by
            rw [goneM_take hd, if_neg h59, List.append_nil]
            exact hG
          have hOg' := hOg
          have hsep' := hsep
          obtain ⟨vg', rfl⟩ : ∃ v_, v_ = vg := ⟨_, rfl⟩
          refine sm rfl rfl ?_
          refine st (X.add64 rfl rfl (by omega)) rfl ?_
          refine sa rfl rfl ?_
          refine Wn ?_
          refine tN ⟨_, _, ?_, ⟨j + 1, vg', rfl, rfl, by omega, hR, hG', hOg', hsep', hbw⟩, ⟨rfl, rfl, rfl, rfl, trivial⟩⟩
          omega
      · first | replace h49 := of_decide_eq_false h49 | replace h49 := of_decide_eq_true (notF h49) | replace h49 := notF h49 | skip
        obtain rfl : j = c.length := by omega
        rw [List.take_length] at hG
        refine W_exit (tE (tE (bH ?_)))
        refine tN ?_
        refine W_rs ?_
        refine sm rfl rfl ?_
        refine sm rfl rfl ?_
        refine sa rfl rfl ?_
        refine sa rfl rfl ?_
        refine sa rfl rfl ?_
        refine Wn ?_
        refine tN ?_
        refine W_ret ?_
        refine (rTTT rfl rfl rfl rfl ?_).1
        rw [hadd]
        exact ⟨_, _, rfl, hR.reads, by have := hG.reads; exact this, hbw⟩
set_option maxRecDepth 10000 in
theorem RDiff_any (vf vt : Value) (lf lt : List Chk) (w : World) (hf : RAt w vf lf) (ht : RAt w vt lt) (hl : lf.length ≤ 100000) (ht' : lt.length ≤ 100000)
    (bf : ∀ c ∈ lf, -2147483647 ≤ c.len ∧ c.len ≤ 2147483647) (bt : ∀ c ∈ lt, -2147483647 ≤ c.len ∧ c.len ≤ 2147483647) :
    Calls Try.prog 38 #[vf, vt] w fun e w' => ∃ v, e = .returned v ∧ RAt w' v (netM (lt ++ lf.map negC)) ∧ Below w.heap.size w w' := by
  obtain ⟨af, cf, rfl, hnf, hcf⟩ := hf.shape
  obtain ⟨at_, ct, rfl, hnt, hct⟩ := ht.shape
  refine W_enter (args := [.slice af lf.length cf, .slice at_ lt.length ct]) 33 Try.func38 rfl rfl rfl ?_
  refine W_sub [(0, .slice af lf.length cf), (1, .slice at_ lt.length ct)] ?_ ⟨rfl, rfl, trivial⟩
  have hbw := Below.refl w.heap.size w
  refine W_rs ?_
  refine sa rfl rfl ?_
  refine Wn ?_
  refine tN ?_
  refine W_rs ?_
  refine sa rfl rfl ?_
  refine Wn ?_
  refine tN ?_
  refine W_rs ?_
  refine sm rfl rfl ?_
  refine sm rfl rfl ?_
  refine sapp rfl rfl Try.underlying29 inf107 rfl (by decide) (Row.nil _ _ _) ((Reads.bel ht hbw).src Try.underlying29 (rcells_flat_one lt)) (by simp only [maxLen]; omega) (by omega) rfl (fun v8 w1 hR8 hCc hv8 => ?_)
  replace hbw := bapp hbw hCc (fun k hk => by simp [Value.ownBlock] at hk)
  have hO8 := own_next hv8 (B := w.heap.size) (fun k hk => by simp [Value.ownBlock] at hk) (by omega)
  rw [List.nil_append, Nat.zero_add] at hR8
  have hz22 := hCc.size
  clear hCc hv8
  refine sa rfl rfl ?_
  refine Wn ?_
  refine tN ?_
  refine W_seq ?_
  refine W_rs ?_
  refine sa rfl rfl ?_
  refine Wn ?_
  refine tN ?_
  refine W_block ?_
  have hR0 : Row w1 107 2 v8 (lt ++ (lf.take 0).map negC).length ((lt ++ (lf.take 0).map negC).flatMap rcells) := by rw [List.take_zero, List.map_nil, List.append_nil]; exact hR8
  refine W_lp (fun nw2_ lw2_ w2 => ∃ j : Nat, ∃ v5 : Value, nw2_ = lf.length - j ∧ lw2_ = ([(0, .slice af lf.length cf), (5, v5), (6, .int .i64 j)] : Env) ∧ (j ≤ lf.length) ∧ (Row w2 107 2 v5 (lt ++ (lf.take j).map negC).length ((lt ++ (lf.take j).map negC).flatMap rcells)) ∧ (∀ k, v5.ownBlock = some k → w.heap.size ≤ k) ∧ (Below w.heap.size w w2)) _ ⟨_, ⟨0, v8, rfl, rfl, by omega, hR0, hO8, hbw⟩, ⟨rfl, rfl, rfl, trivial⟩⟩ ?_
  clear hbw
  rintro nw2_ lw2_ w2 ⟨j, v5, rfl, rfl, hj, hR, hO, hbw⟩
  have hz_w2 := hbw.size
  refine W_seq ?_
  refine W_rs ?_
  refine sm rfl rfl ?_
  refine sm rfl rfl ?_
  refine st (X.lenL rfl rfl Try.underlying29) rfl ?_
  refine st (X.lss rfl rfl) rfl ?_
  refine Wn ?_
  refine tN ?_
  refine W_if rfl (fun h13 => ?_) (fun h13 => ?_)
  · first | replace h13 := of_decide_eq_true h13 | replace h13 := of_decide_eq_false (notT h13) | replace h13 := notT h13 | skip
    obtain ⟨x, hx⟩ : ∃ x, lf[j]? = some x := ⟨_, List.getElem?_eq_getElem (by omega)⟩
    have hxb := bf x (List.mem_of_getElem? hx)
    obtain ⟨g1, o1, c', hv, hg1⟩ := (Reads.bel hf hbw).some_ (by omega)
    injection hv with e1 _ e3
    subst e1 e3
    refine W_skip ?_
    refine tN ?_
    refine W_seq ?_
    refine W_block ?_
    refine W_drN (fun W_ => W_.rangeAt g1 (o1 + j * 2) (rcells x)) [0, 1, 2, 3, 4, 5, 6, 7, 8, 9, 10, 11, 12, 13, 14, 15] [true, true, true, true, true, true, true, true, true, true, true, true, true, false, false, true] (by kernel_rfl) (by kernel_rfl) (RAt.range (Reads.bel hf (bdrew hbw)) hx) ?_
    obtain ⟨w3, hw_⟩ : ∃ w3 : World, w3 = World.drew w2 := ⟨_, rfl⟩
    rw [← hw_]
    have hb : Below w2.heap.size w2 w3 := by rw [hw_]; exact bdrew (Below.refl _ _)
    clear hw_
    have hS := hb
    have hpend := hb
    replace hbw := bthen hbw hb
    have hz_w3 := hb.size
    clear hb
    refine oY rfl (fun W_ hW_ => (X.move rfl)) rfl ?_
    refine oY rfl (fun W_ hW_ => (X.move rfl)) rfl ?_
    refine oY rfl (fun W_ hW_ => (X.move rfl)) rfl ?_
    refine oY rfl (fun W_ hW_ => (X.idxA rfl rfl Try.underlying29 siz107 rfl (by omega))) rfl ?_
    refine oY rfl (fun W_ hW_ => (X.fa fa107_0 rfl)) rfl ?_
    refine oY rfl (fun W_ hW_ => (X.ld rfl Try.underlying9 rfl (hW_ 0 _ rfl))) rfl ?_
    refine oY rfl (fun W_ hW_ => (X.move rfl)) rfl ?_
    refine oY rfl (fun W_ hW_ => (X.move rfl)) rfl ?_
    refine oY rfl (fun W_ hW_ => (X.idxA rfl rfl Try.underlying29 siz107 rfl (by omega))) rfl ?_
    refine oY rfl (fun W_ hW_ => (X.fa fa107_1 rfl)) rfl ?_
    refine oY rfl (fun W_ hW_ => (X.ld rfl Try.underlying3 rfl (hW_ 1 _ rfl))) rfl ?_
    refine oY rfl (fun W_ hW_ => (X.neg rfl (show IntKind.i64.wrap (0 - x.len) = -x.len by rw [w64 (by omega)]; omega))) rfl ?_
    refine oY rfl (fun W_ hW_ => (X.bld rfl (brdel _ _ _))) rfl ?_
    refine oL rfl (fun Q_ hQ_ hP_ => ?_)
    refine sbs1 rfl Try.underlying29 inf107 rfl rfl (by decide) (by decide) rfl (fun g29 w4 hR29 hg29 hb => ?_)
    replace hpend := bthen hpend hb
    replace hbw := bthen hbw hb
    have hz_w4 := hb.size
    clear hb
    have hl29 := hR29.blt (by decide)
    refine Wn (hQ_ _ _ (RAt.range (Reads.bel hf hbw) hx) ?_)
    clear hQ_ hP_ Q_
    refine oL rfl (fun Q_ hQ_ hP_ => ?_)
    replace hR := hR.bel hpend
    clear hpend
    refine sapp rfl rfl Try.underlying29 inf107 rfl (by decide) hR (hR29.reads.src Try.underlying29 (rcells_one ⟨x.sum, -x.len⟩)) (by rw [List.length_append, List.length_map, List.length_take]; simp only [maxLen]; omega) (by rw [List.length_append, List.length_map, List.length_take]; omega) rfl (fun v5' w5 hR' hCc hv' => ?_)
    replace hbw := bapp hbw hCc hO
    replace hO := own_next hv' hO (by omega)
    replace hR' : Row w5 107 2 v5' (lt ++ (lf.take (j + 1)).map negC).length ((lt ++ (lf.take (j + 1)).map negC).flatMap rcells) := by
      rw [take_next' hx, List.map_append, ← List.append_assoc, List.length_append, List.flatMap_append, show (List.map negC [x]).flatMap rcells = rcells ⟨x.sum, -x.len⟩ by simp [negC]]
      exact hR'
    have hz614 := hCc.size
    clear hCc hv'
    refine Wn (hQ_ _ _ (RAt.range (Reads.bel hf hbw) hx) ?_)
    clear hQ_ hP_ Q_
    refine oY rfl (fun W_ hW_ => (X.assign rfl)) rfl ?_
    refine oN ?_
    refine nN ?_
    refine bN ?_
    refine tN ?_
    refine W_reg ?_
    refine sm rfl rfl ?_
    refine st (X.add64 rfl rfl (by omega)) rfl ?_
    refine sa rfl rfl ?_
    refine Wn ?_
    refine tN ⟨_, _, ?_, ⟨j + 1, v5', rfl, rfl, by omega, hR', hO, hbw⟩, ⟨rfl, rfl, rfl, trivial⟩⟩
    omega
  · first | replace h13 := of_decide_eq_false h13 | replace h13 := of_decide_eq_true (notF h13) | replace h13 := notF h13 | skip
    obtain rfl : j = lf.length := by omega
    rw [List.take_length] at hR
    refine W_exit (tE (tE (bH ?_)))
    refine tN ?_
    refine W_rs ?_
    refine sm rfl rfl ?_
    refine sc _ Try.func24 rfl (by kernel_rfl) rfl rfl ((RNet_any v5 (lt ++ lf.map negC) _ hR.reads (by rw [List.length_append, List.length_map]; omega) (fun c hc => by rcases List.mem_append.1 hc with h | h; exact (fun hp => by omega : (-2147483647 ≤ c.len ∧ c.len ≤ 2147483647) → _) (bt c h); obtain ⟨d, hd, rfl⟩ := List.mem_map.1 h; have := bf d hd; show -1099511627776 ≤ -d.len ∧ -d.len ≤ 1099511627776; omega)).mono ?_)
    rintro e_ w6 ⟨v, rfl, hRn, hOn, hb⟩
    refine cR ?_
    have hpend := hb
    replace hbw := bthen hbw hb
    have hz_w6 := hb.size
    clear hb
    refine sa rfl rfl ?_
    refine Wn ?_
    refine tN ?_
    replace hR := hR.bel hpend
    clear hpend
    refine W_ret ?_
    exact (rT rfl rfl ⟨_, rfl, hRn.reads, hbw⟩).1
theorem Reads.neMap {κ ν : Type} [DecidableEq κ] {w w' : World} {size n b : Nat} {v : Value} {xs : List Value} {enc : κ → Value} {encv : ν → Value} {m : List (κ × ν)} (h : Reads w size v n xs) (hM : MapAt w b enc encv m) (hc : Chg (fun k => k = b) w w') (hs : 0 < size) : Reads w' size v n xs := by
  obtain ⟨h1, a, cap, h2, h3, h4, h5⟩ := h
  refine ⟨h1, a, cap, h2, h3, h4, fun hn => ?_⟩
  obtain ⟨g, off, e, hg, hcell⟩ := h5 hn
  have hne : ¬ g = b := by
    rintro rfl
    have hx : 0 < xs.length := by rw [h1]; exact Nat.mul_pos hn hs
    have := hcell 0 _ (List.getElem?_eq_getElem hx)
    obtain ⟨ts, clock, _, _, _, hb⟩ := hM.obj
    simp [World.cell?, hb] at this
  refine ⟨g, off, e, Nat.lt_of_lt_of_le hg hc.size, fun j u hu => ?_⟩
  have := hcell j u hu
  unfold World.cell? at this ⊢
  rw [hc.block g hg hne]
  exact this
theorem add_len' (x l : List Chk) : (addM x l).1.length ≤ x.length + l.length := by
  unfold addM
  split
  · simp
  split
  · simp
  · have := netM_length (x ++ l); rw [List.length_append] at this; exact this
theorem add_gone {x l : List Chk} (hx : ∀ c ∈ x, c.sum.length = 32) : ∀ q ∈ (addM x l).2.1, q.length = 32 := by
  unfold addM
  split
  · intro q hq; cases hq
  split
  · intro q hq; cases hq
  · intro q hq
    obtain ⟨c, hc, rfl⟩ := List.mem_map.1 hq
    exact hx c (List.mem_filter.1 hc).1
theorem net_neg (x : List Chk) : netM (x ++ x.map negC) = [] := by
  have h : netM ([] : List Chk) = [] := netM_self List.Pairwise.nil (fun c hc => by cases hc)
  rw [← h]
  exact netM_congr fun a => by rw [tot_append, tot_neg]; show _ = (0 : Int); omega
theorem Cnts.add {x : List Chk} (h : Cnts x) (hl : x.length ≤ 16000) : (addM [] x).1 = x := by
  have := (addM_ok (x := []) (l := x) (mayM_of hl (fun c hc => by have := h.pos c hc; omega)) (fun a => by
    have := h.tot a
    have h0 : Go.Proofs.Ytnagmpnpgekhfaa.tot a ([] : List Chk) = 0 := rfl
    omega)).1
  rw [List.nil_append, h.net] at this
  exact this
theorem Cnts.b31 {x : List Chk} (h : Cnts x) : ∀ c ∈ x, c.sum.length = 32 ∧ -2147483647 ≤ c.len ∧ c.len ≤ 2147483647 := fun c hc => by
  have := h.pos c hc
  exact ⟨h.sum c hc, by omega, by omega⟩
theorem keyRange {w : World} {g o c : Nat} {l : List Key} (h : Reads w 32 (.slice (some ⟨g, o, none⟩) l.length c) l.length (keyCells l)) (h32 : ∀ q ∈ l, q.length = 32) {j : Nat} {q : Key} (hq : l[j]? = some q) : w.rangeAt g (o + j * 32) (q.map bv) :=
  h.rec_ (f := fun q : Key => q.map bv) (fun a ha => by rw [List.length_map]; exact h32 a ha) hq
set_option maxRecDepth 20000 in
set_option maxHeartbeats 2000000 in
theorem RefsAdds_walk (w : World) (v : Value) (ls : List (List Chk)) (h : StrsAt w v ls) (s : List UInt8) (hs : s.length = 32) : Calls Try.prog 4 #[v, .agg (s.map bv).toArray] w fun e w' => e = .returned (.bool true) ∧ Below w.heap.size w w' := by
  obtain ⟨us, hRv, hu⟩ := h
  obtain ⟨a, cp, rfl, hn, hcp⟩ := hRv.shape
  refine W_enter (args := [.slice a ls.length cp, .agg (s.map bv).toArray]) 150 Try.func4 rfl rfl rfl ?_
  refine W_sub [(0, .slice a ls.length cp), (1, .agg (s.map bv).toArray)] ?_ ⟨rfl, rfl, trivial⟩
  have hbw := Below.refl w.heap.size w
  refine W_rs ?_
  refine sboxA rfl rfl (fun g3 w1 hB3 hg3 hb hl3 => ?_)
  replace hbw := bthen hbw hb
  have hz_w1 := hb.size
  clear hb
  refine sa rfl rfl ?_
  refine Wn ?_
  refine tN ?_
  refine W_rs ?_
  refine sc _ Try.func25 rfl (by kernel_rfl) rfl rfl ((New_any _).mono ?_)
  rintro e_ w2 ⟨g, b, rfl, hK, hgl, hbl, hgb, hb⟩
  refine cR ?_
  replace hbw := bthen hbw hb
  replace hB3 := hB3.bel hb
  have hz_w2 := hb.size
  clear hb
  have hKl := hK.lt
  have hbg : w.heap.size ≤ b := by have := hbw.size; omega
  refine sa rfl rfl ?_
  refine Wn ?_
  refine tN ?_
  refine W_seq ?_
  refine W_rs ?_
  refine sm rfl rfl ?_
  refine st (X.nilP rfl) rfl ?_
  refine sbN rfl (rfl) rfl ?_
  refine gY (g := 18) rfl rfl rfl ?_
  refine sm rfl rfl ?_
  refine gY (g := 18) rfl rfl rfl ?_
  refine st (X.lenL rfl rfl Try.underlying34) rfl ?_
  refine gY (g := 18) rfl rfl rfl ?_
  refine st (X.gtr rfl rfl) rfl ?_
  refine st (X.pickF rfl rfl) rfl ?_
  refine Wn ?_
  refine tN ?_
  refine W_if rfl (fun h22 => ?_) (fun h22 => ?_)
  · first | replace h22 := of_decide_eq_true h22 | replace h22 := of_decide_eq_false (notT h22) | replace h22 := notT h22 | skip
    refine W_rs ?_
    refine sm rfl rfl ?_
    refine st (X.nenP rfl) rfl ?_
    refine sbY rfl (rfl) rfl ?_
    refine gY (g := 25) rfl rfl rfl ?_
    refine sc _ Try.func18 rfl (by kernel_rfl) rfl rfl ((awake_any _).mono ?_)
    rintro e_ w3 ⟨rfl, hb⟩
    refine cR ?_
    have hpend := hb
    replace hbw := bthen hbw hb
    replace hB3 := hB3.bel hb
    have hz_w3 := hb.size
    clear hb
    refine st (X.pickT rfl rfl) rfl ?_
    refine sa rfl rfl ?_
    refine Wn ?_
    refine tN ?_
    replace hK := hK.bel hpend
    clear hpend
    refine W_ret (tR ?_)
    exact (rT rfl rfl ⟨rfl, hbw⟩).1
  · first | replace h22 := of_decide_eq_false h22 | replace h22 := of_decide_eq_true (notF h22) | replace h22 := notF h22 | skip
    refine W_skip ?_
    refine tN ?_
    refine W_rs ?_
    refine sa rfl rfl ?_
    refine Wn ?_
    refine tN ?_
    refine W_seq ?_
    refine W_rs ?_
    refine sa rfl rfl ?_
    refine Wn ?_
    refine tN ?_
    refine W_block ?_
    have hX0 : Cnts ([] : List Chk) := cnts_nil
    refine W_lp (fun nw4_ lw4_ w4 => ∃ i : Nat, ∃ x : List Chk, ∃ v6 : Value, nw4_ = ls.length - i ∧ lw4_ = ([(0, .slice a ls.length cp), (3, .pointer (some ⟨g3, 0, none⟩)), (5, .pointer (some ⟨g, 0, none⟩)), (6, v6), (7, .int .i64 i)] : Env) ∧ (i ≤ ls.length) ∧ (Cnts x) ∧ (x.length ≤ 60 * i) ∧ (Blk w4 g3 36 (s.map bv).toArray) ∧ (CountsAt w4 g b x) ∧ (RAt w4 v6 x) ∧ (Below w.heap.size w w4)) _ ⟨_, ⟨0, [], .slice none 0 0, rfl, rfl, by omega, hX0, by simp, hB3, hK, RAt.nil _, hbw⟩, ⟨rfl, rfl, rfl, rfl, rfl, trivial⟩⟩ ?_
    clear hB3 hK hbw
    rintro nw4_ lw4_ w4 ⟨i, x, v6, rfl, rfl, hi, hX, hxl, hB3, hK, h6, hbw⟩
    have hz_w4 := hbw.size
    refine W_seq ?_
    refine W_rs ?_
    refine sm rfl rfl ?_
    refine sm rfl rfl ?_
    refine st (X.lenL rfl rfl Try.underlying34) rfl ?_
    refine st (X.lss rfl rfl) rfl ?_
    refine Wn ?_
    refine tN ?_
    refine W_if rfl (fun h31 => ?_) (fun h31 => ?_)
    · first | replace h31 := of_decide_eq_true h31 | replace h31 := of_decide_eq_false (notT h31) | replace h31 := notT h31 | skip
      obtain ⟨l, hl⟩ : ∃ l, ls[i]? = some l := ⟨_, List.getElem?_eq_getElem (by omega)⟩
      obtain ⟨u, hux, hul⟩ := hu i l hl
      obtain ⟨gv, ov, c', hv, hgv⟩ := (hRv.bel hbw).some_ (by omega)
      injection hv with e1 _ e3
      subst e1 e3
      have hKl2 := hK.lt
      refine W_skip ?_
      refine tN ?_
      refine W_seq ?_
      refine W_block ?_
      refine W_seq ?_
      refine W_rs ?_
      refine sm rfl rfl ?_
      refine sm rfl rfl ?_
      refine st (X.idxA rfl rfl Try.underlying34 siz22 rfl (by omega)) rfl ?_
      refine st (X.ld rfl Try.underlying22 rfl (by rw [Nat.mul_one]; exact (hRv.bel hbw).cellAt (by omega) hux)) rfl ?_
      refine sc _ Try.func17 rfl (by kernel_rfl) rfl rfl ((small_any u l _ (hul.bel hbw)).mono ?_)
      rintro e_ w5 ⟨rfl, hb⟩
      refine cR ?_
      have hpend := hb
      replace hbw := bthen hbw hb
      replace hB3 := hB3.bel hb
      have hz_w5 := hb.size
      clear hb
      refine st (X.not rfl) rfl ?_
      refine Wn ?_
      refine tN ?_
      refine W_if rfl (fun h39 => ?_) (fun h39 => ?_)
      · first | replace h39 := of_decide_eq_true h39 | replace h39 := of_decide_eq_false (notT h39) | replace h39 := notT h39 | skip
        refine W_rs ?_
        refine sc _ Try.func18 rfl (by kernel_rfl) rfl rfl ((awake_any _).mono ?_)
        rintro e_ w6 ⟨rfl, hb⟩
        refine cR ?_
        replace hpend := bthen hpend hb
        replace hbw := bthen hbw hb
        replace hB3 := hB3.bel hb
        have hz_w6 := hb.size
        clear hb
        refine sa rfl rfl ?_
        refine Wn ?_
        refine tN ?_
        replace hK := hK.bel hpend
        replace h6 := h6.bel hpend
        clear hpend
        refine W_ret (tR (bR (tR (tR (bR (tR ?_))))))
        exact (rT rfl rfl ⟨rfl, hbw⟩).1
      · first | replace h39 := of_decide_eq_false h39 | replace h39 := of_decide_eq_true (notF h39) | replace h39 := notF h39 | skip
        obtain ⟨htm, hll⟩ := smallM_ok (l := l) (by simpa using h39)
        refine W_skip ?_
        refine tN ?_
        refine W_rs ?_
        refine sm rfl rfl ?_
        refine sm rfl rfl ?_
        refine sm rfl rfl ?_
        refine st (X.idxA rfl rfl Try.underlying34 siz22 rfl (by omega)) rfl ?_
        refine st (X.ld rfl Try.underlying22 rfl (by rw [Nat.mul_one]; exact (hRv.bel hbw).cellAt (by omega) hux)) rfl ?_
        replace hK := hK.bel hpend
        replace h6 := h6.bel hpend
        clear hpend
        refine sc _ Try.func26 rfl (by kernel_rfl) rfl rfl ((Add_any g b x u l _ hK hX (hul.bel hbw)).mono ?_)
        rintro e_ w7 hadd
        have hX' := addM_cnts hX (l := l) hul.2
        have hxl' := add_len' x l
        have hg32 := add_gone (l := l) hX.sum
        obtain ⟨⟨x', gn, er⟩, hr⟩ : ∃ r, addM x l = r := ⟨_, rfl⟩
        rw [hr] at hadd hX' hxl' hg32
        obtain ⟨v1, rfl, hG, hO1, hK', hch⟩ := hadd
        refine cR ?_
        obtain ⟨m_, hM_, hm_⟩ := hK.map
        replace h6 := h6.neMap hM_ hch (by decide)
        replace hB3 := hB3.chg hch (hB3.neMap hM_)
        replace hbw := bset hbw hch hbg
        have hz105 := hch.size
        replace hK := hK'
        clear hch hK' hM_ hm_ hO1
        replace hX' : Cnts x' := hX'
        replace hxl' : x'.length ≤ x.length + l.length := hxl'
        replace hg32 : ∀ q ∈ gn, q.length = 32 := hg32
        replace hG : Row w7 36 32 v1 gn.length (keyCells gn) := hG
        replace hK : CountsAt w7 g b x' := hK
        obtain ⟨ag, cg, rfl, hng, hcg⟩ := hG.shape
        refine sm rfl rfl ?_
        refine st (X.ext rfl rfl) rfl ?_
        refine st (X.ext rfl rfl) rfl ?_
        refine sa rfl rfl ?_
        refine sa rfl rfl ?_
        refine Wn ?_
        refine tN ?_
        refine W_rs ?_
        refine sm rfl rfl ?_
        refine sm rfl rfl ?_
        refine sm rfl rfl ?_
        refine st (X.idxA rfl rfl Try.underlying34 siz22 rfl (by omega)) rfl ?_
        refine st (X.ld rfl Try.underlying22 rfl (by rw [Nat.mul_one]; exact (hRv.bel hbw).cellAt (by omega) hux)) rfl ?_
        refine sc _ Try.func21 rfl (by kernel_rfl) rfl rfl ((Plain_any u l _ (hul.bel hbw) (by omega)).mono ?_)
        rintro e_ w8 ⟨vp, rfl, hP, hOp, hb⟩
        refine cR ?_
        have hpend := hb
        replace hbw := bthen hbw hb
        replace hB3 := hB3.bel hb
        have hz_w8 := hb.size
        clear hb
        replace hK := hK.bel hpend
        replace h6 := h6.bel hpend
        replace hG := hG.bel hpend
        clear hpend
        refine sc _ Try.func27 rfl (by kernel_rfl) rfl rfl ((RAdd_any v6 vp x l _ h6 hP.reads hX (by omega)).mono ?_)
        rintro e_ w9 hadd
        rw [hr] at hadd
        obtain ⟨v10, v11, rfl, h10, h11, hb⟩ := hadd
        refine cR ?_
        replace hbw := bthen hbw hb
        replace hK := hK.bel hb
        replace hG := hG.bel hb
        replace hB3 := hB3.bel hb
        have hz116 := hb.size
        clear hb h6 hP
        replace h10 : RAt w9 v10 x' := h10
        replace h11 : Reads w9 1 v11 gn.length (gn.map str) := h11
        obtain ⟨a10, c10, rfl, hn10, hcc10⟩ := h10.shape
        obtain ⟨a11, c11, rfl, hn11, hcc11⟩ := h11.shape
        have hx5 : x'.length ≤ 60 * (i + 1) := by omega
        have hxs := hX'.sum
        have hxn := hX'.net
        refine sm rfl rfl ?_
        refine st (X.ext rfl rfl) rfl ?_
        refine st (X.ext rfl rfl) rfl ?_
        refine st (X.ext rfl rfl) rfl ?_
        refine sa rfl rfl ?_
        refine sa rfl rfl ?_
        refine sa rfl rfl ?_
        refine Wn ?_
        refine tN ?_
        refine W_rs ?_
        refine sm rfl rfl ?_
        refine sa rfl rfl ?_
        refine Wn ?_
        refine tN ?_
        refine W_seq ?_
        refine W_rs ?_
        refine sm rfl rfl ?_
        refine sm rfl rfl ?_
        refine st (X.neq rfl rfl) rfl ?_
        refine sbN rfl (by simp) rfl ?_
        refine gY (g := 65) rfl rfl rfl ?_
        refine sm rfl rfl ?_
        refine gY (g := 65) rfl rfl rfl ?_
        refine st (X.lenL rfl rfl Try.underlying39) rfl ?_
        refine gY (g := 65) rfl rfl rfl ?_
        refine sm rfl rfl ?_
        refine gY (g := 65) rfl rfl rfl ?_
        refine st (X.lenL rfl rfl Try.underlying42) rfl ?_
        refine gY (g := 65) rfl rfl rfl ?_
        refine st (X.neq rfl rfl) rfl ?_
        refine st (X.pickF rfl rfl) rfl ?_
        refine sbN rfl (by simp) rfl ?_
        refine gY (g := 72) rfl rfl rfl ?_
        refine sm rfl rfl ?_
        refine gY (g := 72) rfl rfl rfl ?_
        refine sc _ Try.func28 rfl (by kernel_rfl) rfl rfl ((All_any g b x' _ hK hxs (by omega)).mono ?_)
        rintro e_ w10 ⟨va, rfl, hRa, hOa, hb⟩
        refine cR ?_
        have hpend := hb
        replace hbw := bthen hbw hb
        replace hB3 := hB3.bel hb
        have hz_w10 := hb.size
        clear hb
        rw [hxn] at hRa
        refine gY (g := 72) rfl rfl rfl ?_
        refine sm rfl rfl ?_
        refine gY (g := 72) rfl rfl rfl ?_
        replace hK := hK.bel hpend
        replace hG := hG.bel hpend
        replace h10 := h10.bel hpend
        replace h11 := h11.bel hpend
        clear hpend
        refine sc _ Try.func22 rfl (by kernel_rfl) rfl rfl ((Same_any va _ x' x' _ ⟨hRa.reads, hxs⟩ (by omega) h10).mono ?_)
        rintro e_ w11 ⟨rfl, hb⟩
        refine cR ?_
        have hpend := hb
        replace hbw := bthen hbw hb
        replace hB3 := hB3.bel hb
        have hz_w11 := hb.size
        clear hb
        refine gY (g := 72) rfl rfl rfl ?_
        refine st (X.not rfl) rfl ?_
        refine st (X.pickF rfl rfl) rfl ?_
        refine sbN rfl (by simp) rfl ?_
        refine gY (g := 79) rfl rfl rfl ?_
        refine sm rfl rfl ?_
        refine gY (g := 79) rfl rfl rfl ?_
        replace hK := hK.bel hpend
        replace hG := hG.bel hpend
        replace h10 := h10.bel hpend
        replace h11 := h11.bel hpend
        clear hpend
        refine sc _ Try.func29 rfl (by kernel_rfl) rfl rfl ((Len_any g b x' _ hK hxs).mono ?_)
        rintro e_ w12 ⟨rfl, hb⟩
        refine cR ?_
        have hpend := hb
        replace hbw := bthen hbw hb
        replace hB3 := hB3.bel hb
        have hz_w12 := hb.size
        clear hb
        rw [hxn]
        refine gY (g := 79) rfl rfl rfl ?_
        refine sm rfl rfl ?_
        refine gY (g := 79) rfl rfl rfl ?_
        refine st (X.lenL rfl rfl Try.underlying29) rfl ?_
        refine gY (g := 79) rfl rfl rfl ?_
        refine st (X.neq rfl rfl) rfl ?_
        refine st (X.pickF rfl rfl) rfl ?_
        refine sbN rfl (by simp) rfl ?_
        refine gY (g := 86) rfl rfl rfl ?_
        refine sm rfl rfl ?_
        refine gY (g := 86) rfl rfl rfl ?_
        replace hK := hK.bel hpend
        replace hG := hG.bel hpend
        replace h10 := h10.bel hpend
        replace h11 := h11.bel hpend
        clear hpend
        refine sc _ Try.func30 rfl (by kernel_rfl) rfl rfl ((Total_any g b x' _ hK hxs (by omega) (by rw [hxn]; exact fun c hc => by have := hX'.pos c hc; omega)).mono ?_)
        rintro e_ w13 ⟨rfl, hb⟩
        refine cR ?_
        have hpend := hb
        replace hbw := bthen hbw hb
        replace hB3 := hB3.bel hb
        have hz_w13 := hb.size
        clear hb
        rw [hxn]
        refine gY (g := 86) rfl rfl rfl ?_
        refine sm rfl rfl ?_
        refine gY (g := 86) rfl rfl rfl ?_
        replace hK := hK.bel hpend
        replace hG := hG.bel hpend
        replace h10 := h10.bel hpend
        replace h11 := h11.bel hpend
        clear hpend
        refine sc _ Try.func31 rfl (by kernel_rfl) rfl rfl ((RTotal_any _ x' _ h10 (fun c hc => by have := hX'.pos c hc; omega) (by omega)).mono ?_)
        rintro e_ w14 ⟨rfl, hb⟩
        refine cR ?_
        have hpend := hb
        replace hbw := bthen hbw hb
        replace hB3 := hB3.bel hb
        have hz_w14 := hb.size
        clear hb
        refine gY (g := 86) rfl rfl rfl ?_
        refine st (X.neq rfl rfl) rfl ?_
        refine st (X.pickF rfl rfl) rfl ?_
        refine sbN rfl (by simp) rfl ?_
        refine gY (g := 93) rfl rfl rfl ?_
        refine sm rfl rfl ?_
        refine gY (g := 93) rfl rfl rfl ?_
        replace hK := hK.bel hpend
        replace hG := hG.bel hpend
        replace h10 := h10.bel hpend
        replace h11 := h11.bel hpend
        clear hpend
        refine sc _ Try.func32 rfl (by kernel_rfl) rfl rfl ((Encode_cnt g b x' _ hK hxs (by omega)).mono ?_)
        rintro e_ w15 ⟨rfl, hb⟩
        refine cR ?_
        have hpend := hb
        replace hbw := bthen hbw hb
        replace hB3 := hB3.bel hb
        have hz_w15 := hb.size
        clear hb
        rw [hxn]
        refine gY (g := 93) rfl rfl rfl ?_
        refine sm rfl rfl ?_
        refine gY (g := 93) rfl rfl rfl ?_
        replace hK := hK.bel hpend
        replace hG := hG.bel hpend
        replace h10 := h10.bel hpend
        replace h11 := h11.bel hpend
        clear hpend
        refine sc _ Try.func33 rfl (by kernel_rfl) rfl rfl ((RBytes_any _ x' _ h10 (by omega) hxs (fun c hc => by have := hX'.pos c hc; omega)).mono ?_)
        rintro e_ w16 ⟨rfl, hb⟩
        refine cR ?_
        have hpend := hb
        replace hbw := bthen hbw hb
        replace hB3 := hB3.bel hb
        have hz_w16 := hb.size
        clear hb
        refine gY (g := 93) rfl rfl rfl ?_
        refine st (X.neS rfl rfl) rfl ?_
        refine st (X.pickF rfl rfl) rfl ?_
        refine Wn ?_
        refine tN ?_
        refine W_no rfl (by simp) ?_
        refine W_skip ?_
        refine tN ?_
        refine W_seq ?_
        refine W_rs ?_
        refine sa rfl rfl ?_
        refine Wn ?_
        refine tN ?_
        refine W_block ?_
        replace hK := hK.bel hpend
        replace hG := hG.bel hpend
        replace h10 := h10.bel hpend
        replace h11 := h11.bel hpend
        clear hpend
        refine W_lp (fun nw17_ lw17_ w17 => ∃ k : Nat, nw17_ = gn.length - k ∧ lw17_ = ([(0, .slice (some ⟨gv, ov, none⟩) ls.length cp), (3, .pointer (some ⟨g3, 0, none⟩)), (5, .pointer (some ⟨g, 0, none⟩)), (6, .slice a10 x'.length c10), (7, .int .i64 i), (8, .slice ag gn.length cg), (11, .slice a11 gn.length c11), (13, .int .i64 k)] : Env) ∧ (k ≤ gn.length) ∧ (Blk w17 g3 36 (s.map bv).toArray) ∧ (CountsAt w17 g b x') ∧ (RAt w17 (.slice a10 x'.length c10) x') ∧ (Row w17 36 32 (.slice ag gn.length cg) gn.length (keyCells gn)) ∧ (Reads w17 1 (.slice a11 gn.length c11) gn.length (gn.map str)) ∧ (Below w.heap.size w w17)) _ ⟨_, ⟨0, rfl, rfl, by omega, hB3, hK, h10, hG, h11, hbw⟩, ⟨rfl, rfl, rfl, rfl, rfl, rfl, rfl, rfl, trivial⟩⟩ ?_
        clear hB3 hK h10 hG h11 hbw
        rintro nw17_ lw17_ w17 ⟨k, rfl, rfl, hk, hB3, hK, h10, hG, h11, hbw⟩
        have hz_w17 := hbw.size
        refine W_seq ?_
        refine W_rs ?_
        refine sm rfl rfl ?_
        refine sm rfl rfl ?_
        refine st (X.lenL rfl rfl Try.underlying39) rfl ?_
        refine st (X.lss rfl rfl) rfl ?_
        refine Wn ?_
        refine tN ?_
        refine W_if rfl (fun h103 => ?_) (fun h103 => ?_)
        · first | replace h103 := of_decide_eq_true h103 | replace h103 := of_decide_eq_false (notT h103) | replace h103 := notT h103 | skip
          obtain ⟨q, hq⟩ : ∃ q, gn[k]? = some q := ⟨_, List.getElem?_eq_getElem (by omega)⟩
          have hq32 := hg32 q (List.mem_of_getElem? hq)
          have hqs : (gn.map str)[k]? = some (str q) := by rw [List.getElem?_map, hq]; rfl
          have hGe := hG.reads
          obtain ⟨gg, og, c', hv, hgg⟩ := hGe.some_ (by omega)
          injection hv with e1 _ e3
          subst e1 e3
          obtain ⟨gw, ow, c', hv, hgw⟩ := h11.some_ (by omega)
          injection hv with e1 _ e3
          subst e1 e3
          refine W_skip ?_
          refine tN ?_
          refine W_seq ?_
          refine W_block ?_
          refine W_drsN (fun W_ => W_.rangeAt gg (og + k * 32) (q.map bv) ∧ W_.cell? ⟨gw, ow + k, none⟩ = some (str q)) [0, 1, 2, 3, 5, 6, 7, 8, 4, 9] [true, true, true, true, true, true, true, true, false, true] (by kernel_rfl) (by kernel_rfl) (⟨keyRange (hGe.bel (bdrew (Below.refl _ _))) hg32 hq, (h11.bel (bdrew (Below.refl _ _))).cellAt (by omega) hqs⟩) ?_
          obtain ⟨w18, hw_⟩ : ∃ w18 : World, w18 = World.drew w17 := ⟨_, rfl⟩
          rw [← hw_]
          have hb : Below w17.heap.size w17 w18 := by rw [hw_]; exact bdrew (Below.refl _ _)
          clear hw_
          have hS := hb
          have hpend := hb
          replace hbw := bthen hbw hb
          replace hB3 := hB3.bel hb
          have hz_w18 := hb.size
          clear hb
          refine oY rfl (fun W_ hW_ => (X.move rfl)) rfl ?_
          refine oY rfl (fun W_ hW_ => (X.move rfl)) rfl ?_
          refine oY rfl (fun W_ hW_ => (X.idxA rfl rfl Try.underlying39 siz36 rfl (by omega))) rfl ?_
          refine oY rfl (fun W_ hW_ => (X.ldN (cs := q.map bv) rfl Try.underlying36 rfl (by rw [List.length_map, hq32]; exact siz36) hW_.1)) rfl ?_
          refine oY rfl (fun W_ hW_ => (X.move rfl)) rfl ?_
          refine oY rfl (fun W_ hW_ => (X.move rfl)) rfl ?_
          refine oY rfl (fun W_ hW_ => (X.idxA rfl rfl Try.underlying42 siz9 rfl (by omega))) rfl ?_
          refine oY rfl (fun W_ hW_ => (X.ld rfl Try.underlying9 rfl (by rw [Nat.mul_one]; exact hW_.2))) rfl ?_
          refine oL rfl (fun Q_ hQ_ hP_ => ?_)
          refine sc _ Try.func34 rfl (by kernel_rfl) rfl rfl ((Text_any q _ hq32).mono ?_)
          rintro e_ w19 ⟨rfl, hb⟩
          refine cR ?_
          replace hpend := bthen hpend hb
          replace hbw := bthen hbw hb
          replace hB3 := hB3.bel hb
          have hz_w19 := hb.size
          clear hb
          replace hK := hK.bel hpend
          replace h10 := h10.bel hpend
          replace hG := hG.bel hpend
          replace h11 := h11.bel hpend
          clear hpend
          refine Wn (hQ_ _ _ (⟨keyRange hG.reads hg32 hq, h11.cellAt (by omega) hqs⟩) ?_)
          clear hQ_ hP_ Q_
          refine oY rfl (fun W_ hW_ => (X.neS rfl rfl)) rfl ?_
          refine oN ?_
          refine nN ?_
          refine W_no rfl (by simp) ?_
          refine W_skip ?_
          refine bN ?_
          refine tN ?_
          refine W_reg ?_
          refine sm rfl rfl ?_
          refine st (X.add64 rfl rfl (by omega)) rfl ?_
          refine sa rfl rfl ?_
          refine Wn ?_
          refine tN ⟨_, _, ?_, ⟨k + 1, rfl, rfl, by omega, hB3, hK, h10, hG, h11, hbw⟩, ⟨rfl, rfl, rfl, rfl, rfl, rfl, rfl, rfl, trivial⟩⟩
          omega
        · first | replace h103 := of_decide_eq_false h103 | replace h103 := of_decide_eq_true (notF h103) | replace h103 := notF h103 | skip
          refine W_exit (tE (tE (bH ?_)))
          refine tN ?_
          refine W_seq ?_
          refine W_drsN (fun W_ => ∃ gx, gx = g3 ∧ Blk W_ gx 36 (s.map bv).toArray) [0, 1, 3, 4, 2, 5, 6, 7] [true, true, true, true, false, false, false, true] (by kernel_rfl) (by kernel_rfl) (⟨_, rfl, hB3.drew⟩) ?_
          obtain ⟨w20, hw_⟩ : ∃ w20 : World, w20 = World.drew w17 := ⟨_, rfl⟩
          rw [← hw_]
          have hb : Below w17.heap.size w17 w20 := by rw [hw_]; exact bdrew (Below.refl _ _)
          clear hw_
          have hS := hb
          have hpend := hb
          replace hbw := bthen hbw hb
          replace hB3 := hB3.bel hb
          have hz_w20 := hb.size
          clear hb
          refine oY rfl (fun W_ hW_ => (X.move rfl)) rfl ?_
          refine oY rfl (fun W_ hW_ => (X.ldBN (cs := (s.map bv).toArray) rfl (by obtain ⟨gx, rfl, h1⟩ := hW_; exact h1) Try.underlying36 rfl (by rw [encSum_size ⟨s, hs⟩]; exact siz36))) rfl ?_
          refine oY rfl (fun W_ hW_ => (X.move rfl)) rfl ?_
          refine oY rfl (fun W_ hW_ => (X.ldBN (cs := (s.map bv).toArray) rfl (by obtain ⟨gx, rfl, h1⟩ := hW_; exact h1) Try.underlying36 rfl (by rw [encSum_size ⟨s, hs⟩]; exact siz36))) rfl ?_
          refine oL rfl (fun Q_ hQ_ hP_ => ?_)
          replace hK := hK.bel hpend
          replace h10 := h10.bel hpend
          replace hG := hG.bel hpend
          replace h11 := h11.bel hpend
          clear hpend
          refine sc _ Try.func35 rfl (by kernel_rfl) rfl rfl ((Get_any g b x' ⟨s, hs⟩ _ hK).mono ?_)
          rintro e_ w21 ⟨rfl, hb⟩
          refine cR ?_
          have hpend := hb
          replace hbw := bthen hbw hb
          replace hB3 := hB3.bel hb
          have hz_w21 := hb.size
          clear hb
          refine Wn (hQ_ _ _ (⟨_, rfl, hB3⟩) ?_)
          clear hQ_ hP_ Q_
          refine oL rfl (fun Q_ hQ_ hP_ => ?_)
          refine sc _ Try.func34 rfl (by kernel_rfl) rfl rfl ((Text_any s _ hs).mono ?_)
          rintro e_ w22 ⟨rfl, hb⟩
          refine cR ?_
          replace hpend := bthen hpend hb
          replace hbw := bthen hbw hb
          replace hB3 := hB3.bel hb
          have hz_w22 := hb.size
          clear hb
          refine Wn (hQ_ _ _ (⟨_, rfl, hB3⟩) ?_)
          clear hQ_ hP_ Q_
          refine oL rfl (fun Q_ hQ_ hP_ => ?_)
          replace hK := hK.bel hpend
          replace h10 := h10.bel hpend
          replace hG := hG.bel hpend
          replace h11 := h11.bel hpend
          clear hpend
          refine sc _ Try.func36 rfl (by kernel_rfl) rfl rfl ((RGet_any _ x' s _ h10 hX'.srt).mono ?_)
          rintro e_ w23 ⟨rfl, hb⟩
          refine cR ?_
          have hpend := hb
          replace hbw := bthen hbw hb
          replace hB3 := hB3.bel hb
          have hz_w23 := hb.size
          clear hb
          refine Wn (hQ_ _ _ (⟨_, rfl, hB3⟩) ?_)
          clear hQ_ hP_ Q_
          refine oY rfl (fun W_ hW_ => (X.neq rfl rfl)) rfl ?_
          refine oN ?_
          refine nN ?_
          refine W_no rfl (by simp) ?_
          refine W_skip ?_
          refine tN ?_
          refine W_rs ?_
          replace hK := hK.bel hpend
          replace h10 := h10.bel hpend
          replace hG := hG.bel hpend
          replace h11 := h11.bel hpend
          clear hpend
          have hKl3 := hK.lt
          refine sc _ Try.func25 rfl (by kernel_rfl) rfl rfl ((New_any _).mono ?_)
          rintro e_ w24 ⟨g2, b2, rfl, hK2, hgl2, hbl2, hgb2, hb⟩
          refine cR ?_
          have hpend := hb
          replace hbw := bthen hbw hb
          replace hB3 := hB3.bel hb
          have hz_w24 := hb.size
          clear hb
          have hb2w : w.heap.size ≤ b2 := by have := hbw.size; omega
          replace hK := hK.bel hpend
          replace h10 := h10.bel hpend
          replace hG := hG.bel hpend
          replace h11 := h11.bel hpend
          clear hpend
          refine sa rfl rfl ?_
          refine Wn ?_
          refine tN ?_
          refine W_rs ?_
          refine sm rfl rfl ?_
          refine sm rfl rfl ?_
          refine sc _ Try.func28 rfl (by kernel_rfl) rfl rfl ((All_any g b x' _ hK hxs (by omega)).mono ?_)
          rintro e_ w25 ⟨vb, rfl, hRb, hOb, hb⟩
          refine cR ?_
          have hpend := hb
          replace hbw := bthen hbw hb
          replace hB3 := hB3.bel hb
          have hz_w25 := hb.size
          clear hb
          rw [hxn] at hRb
          replace hK := hK.bel hpend
          replace h10 := h10.bel hpend
          replace hG := hG.bel hpend
          replace h11 := h11.bel hpend
          replace hK2 := hK2.bel hpend
          clear hpend
          refine sc _ Try.func26 rfl (by kernel_rfl) rfl rfl ((Add_any g2 b2 [] vb x' _ hK2 cnts_nil ⟨hRb.reads, hxs⟩).mono ?_)
          rintro e_ w26 ⟨v2, rfl, hG2, hO2, hC2, hch⟩
          refine cR ?_
          rw [hX'.add (by omega)] at hC2
          obtain ⟨m_, hM_, hm_⟩ := hK2.map
          replace h10 := h10.neMap hM_ hch (by decide)
          replace hB3 := hB3.chg hch (hB3.neMap hM_)
          replace hK := hK.chg hch (by show ¬ _ = _; omega) (by show ¬ _ = _; omega)
          replace hbw := bset hbw hch hb2w
          have hz233 := hch.size
          replace hK2 := hC2
          clear hch hC2 hM_ hm_ hG2 hO2 hRb hG h11
          refine Wn ?_
          refine tN ?_
          refine W_rs ?_
          refine sm rfl rfl ?_
          refine sm rfl rfl ?_
          refine sc _ Try.func37 rfl (by kernel_rfl) rfl rfl ((Diff_of _ _ x' x' _ (AllC.some hK hX' (by omega)) (AllC.some hK2 hX' (by omega)) (by omega) (by omega) hX'.b31 hX'.b31).mono ?_)
          rintro e_ w27 ⟨vd, rfl, hRd, hOd, hb⟩
          refine cR ?_
          have hpend := hb
          replace hbw := bthen hbw hb
          replace hB3 := hB3.bel hb
          have hz_w27 := hb.size
          clear hb
          rw [net_neg] at hRd
          refine sc _ Try.func22 rfl (by kernel_rfl) rfl rfl ((Same_any vd _ [] [] _ ⟨hRd.reads, fun c hc => by cases hc⟩ (by simp) (RAt.nil _)).mono ?_)
          rintro e_ w28 ⟨rfl, hb⟩
          refine cR ?_
          replace hpend := bthen hpend hb
          replace hbw := bthen hbw hb
          replace hB3 := hB3.bel hb
          have hz_w28 := hb.size
          clear hb
          refine st (X.not rfl) rfl ?_
          refine sbN rfl (by simp) rfl ?_
          refine gY (g := 134) rfl rfl rfl ?_
          refine sm rfl rfl ?_
          refine gY (g := 134) rfl rfl rfl ?_
          replace hK := hK.bel hpend
          replace h10 := h10.bel hpend
          replace hK2 := hK2.bel hpend
          clear hpend
          refine sc _ Try.func37 rfl (by kernel_rfl) rfl rfl ((Diff_of _ none x' [] _ (AllC.none _) (AllC.some hK hX' (by omega)) (by omega) (by simp) hX'.b31 (fun c hc => by cases hc)).mono ?_)
          rintro e_ w29 ⟨ve, rfl, hRe, hOe, hb⟩
          refine cR ?_
          have hpend := hb
          replace hbw := bthen hbw hb
          replace hB3 := hB3.bel hb
          have hz_w29 := hb.size
          clear hb
          replace hK := hK.bel hpend
          replace h10 := h10.bel hpend
          replace hK2 := hK2.bel hpend
          clear hpend
          refine gY (g := 134) rfl rfl rfl ?_
          refine sm rfl rfl ?_
          refine gY (g := 134) rfl rfl rfl ?_
          refine sc _ Try.func38 rfl (by kernel_rfl) rfl rfl ((RDiff_any _ _ x' [] _ h10 (RAt.nil _) (by omega) (by simp) (fun c hc => (hX'.b31 c hc).2) (fun c hc => by cases hc)).mono ?_)
          rintro e_ w30 ⟨vf, rfl, hRf, hb⟩
          refine cR ?_
          have hpend := hb
          replace hbw := bthen hbw hb
          replace hB3 := hB3.bel hb
          have hz_w30 := hb.size
          clear hb
          refine gY (g := 134) rfl rfl rfl ?_
          replace hK := hK.bel hpend
          replace h10 := h10.bel hpend
          replace hK2 := hK2.bel hpend
          replace hRe := hRe.bel hpend
          clear hpend
          refine sc _ Try.func22 rfl (by kernel_rfl) rfl rfl ((Same_any ve vf _ _ _ ⟨hRe.reads, netM_sum32 (fun c hc => by rcases List.mem_append.1 hc with h | h; exact (by cases h); obtain ⟨d, hd, rfl⟩ := List.mem_map.1 h; exact hxs d hd)⟩ (by have := netM_length (([] : List Chk) ++ x'.map negC); rw [List.length_append, List.length_map] at this; simp at this ⊢; omega) hRf).mono ?_)
          rintro e_ w31 ⟨rfl, hb⟩
          refine cR ?_
          have hpend := hb
          replace hbw := bthen hbw hb
          replace hB3 := hB3.bel hb
          have hz_w31 := hb.size
          clear hb
          refine gY (g := 134) rfl rfl rfl ?_
          refine st (X.not rfl) rfl ?_
          refine st (X.pickF rfl rfl) rfl ?_
          refine sbN rfl (by simp) rfl ?_
          refine gY (g := 142) rfl rfl rfl ?_
          refine sm rfl rfl ?_
          refine gY (g := 142) rfl rfl rfl ?_
          replace hK := hK.bel hpend
          replace h10 := h10.bel hpend
          replace hK2 := hK2.bel hpend
          clear hpend
          refine sc _ Try.func37 rfl (by kernel_rfl) rfl rfl ((Diff_of none _ [] x' _ (AllC.some hK hX' (by omega)) (AllC.none _) (by simp) (by omega) (fun c hc => by cases hc) hX'.b31).mono ?_)
          rintro e_ w32 ⟨vg, rfl, hRg, hOg, hb⟩
          refine cR ?_
          have hpend := hb
          replace hbw := bthen hbw hb
          replace hB3 := hB3.bel hb
          have hz_w32 := hb.size
          clear hb
          rw [List.map_nil, List.append_nil, hxn] at hRg
          refine gY (g := 142) rfl rfl rfl ?_
          refine sm rfl rfl ?_
          refine gY (g := 142) rfl rfl rfl ?_
          replace hK := hK.bel hpend
          replace h10 := h10.bel hpend
          replace hK2 := hK2.bel hpend
          clear hpend
          refine sc _ Try.func22 rfl (by kernel_rfl) rfl rfl ((Same_any vg _ x' x' _ ⟨hRg.reads, hxs⟩ (by omega) h10).mono ?_)
          rintro e_ w33 ⟨rfl, hb⟩
          refine cR ?_
          have hpend := hb
          replace hbw := bthen hbw hb
          replace hB3 := hB3.bel hb
          have hz_w33 := hb.size
          clear hb
          refine gY (g := 142) rfl rfl rfl ?_
          refine st (X.not rfl) rfl ?_
          refine st (X.pickF rfl rfl) rfl ?_
          refine Wn ?_
          refine tN ?_
          refine W_no rfl (by simp) ?_
          refine W_skip ?_
          refine bN ?_
          refine tN ?_
          refine W_reg ?_
          refine sm rfl rfl ?_
          refine st (X.add64 rfl rfl (by omega)) rfl ?_
          refine sa rfl rfl ?_
          refine Wn ?_
          replace hK := hK.bel hpend
          replace h10 := h10.bel hpend
          replace hK2 := hK2.bel hpend
          clear hpend
          refine tN ⟨_, _, ?_, ⟨i + 1, x', .slice a10 x'.length c10, rfl, rfl, by omega, hX', by omega, hB3, hK, h10, hbw⟩, ⟨rfl, rfl, rfl, rfl, rfl, trivial⟩⟩
          omega
    · first | replace h31 := of_decide_eq_false h31 | replace h31 := of_decide_eq_true (notF h31) | replace h31 := notF h31 | skip
      refine W_exit (tE (tE (bH ?_)))
      refine tN ?_
      refine W_rs ?_
      refine sc _ Try.func18 rfl (by kernel_rfl) rfl rfl ((awake_any _).mono ?_)
      rintro e_ w34 ⟨rfl, hb⟩
      refine cR ?_
      have hpend := hb
      replace hbw := bthen hbw hb
      replace hB3 := hB3.bel hb
      have hz_w34 := hb.size
      clear hb
      refine sa rfl rfl ?_
      refine Wn ?_
      refine tN ?_
      replace hK := hK.bel hpend
      replace h6 := h6.bel hpend
      clear hpend
      refine W_ret ?_
      exact (rT rfl rfl ⟨rfl, hbw⟩).1
end Go.Proofs.Ytnagmpnpgekhfaa
