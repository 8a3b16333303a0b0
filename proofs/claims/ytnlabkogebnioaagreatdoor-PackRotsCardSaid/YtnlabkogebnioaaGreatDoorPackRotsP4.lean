/- What PackRots needs, part 4. -/
import Derived.Lib.LaidU8T
import Derived.Stop.LaidErr
import Derived.Test.YtnlabkogebnioaaGreatDoorCards
import Derived.Test.YtnlabkogebnioaaGreatDoorPackRotsP3
namespace Go.Proofs.YtnlabkogebnioaaGreatDoor
open Go.RowKit Sha
def fewD (d : List UInt8) : Bool := decide (d.length ≤ 1100)
def fewP (l : List (List UInt8)) : Bool := decide (l.length ≤ 30) && l.all fewD
theorem fewP_next {l : List (List UInt8)} {i : Nat} {d : List UInt8} (hd : l[i]? = some d) (hp : (l.take i).all fewD = true) (hf : fewD d = true) : (l.take (i + 1)).all fewD = true := by
 rw [List.take_add_one, hd, List.all_append, hp]
 simp [hf]
theorem fewP_at {l : List (List UInt8)} {i : Nat} {d : List UInt8} (hd : l[i]? = some d) (hf : fewD d = false) : l.all fewD = false := by
 rw [List.all_eq_false]
 exact ⟨d, List.mem_of_getElem? hd, by rw [hf]; simp⟩
theorem few_any (v : Value) (l : List (List UInt8)) (w : World) (hL : Reads w 1 v l.length (l.map str)) : Calls Tryz.prog 15 #[v] w fun e w' => e = .returned (.bool (fewP l)) ∧ Below w.heap.size w w' := by
 obtain ⟨a, c, rfl, hc1, hc2⟩ := hL.shape
 have hnn := hL.nle
 refine W_enter (args := [.slice a l.length c]) 19 Tryz.func15 rfl rfl rfl (W_sub [(0, .slice a l.length c)] ?_ ⟨rfl, trivial⟩)
 have hbw := Below.refl w.heap.size w
 refine W_rs (sa rfl rfl (Wn (tN (W_seq (W_rs (sm rfl rfl (st (X.lenL rfl rfl Tryz.underlying38) rfl (st (X.gtr rfl rfl) rfl (Wn (tN ?_))))))))))
 refine W_if rfl (fun h6 => ?_) (fun h6 => ?_)
 ·first | replace h6 := of_decide_eq_true h6 | replace h6 := of_decide_eq_false (notT h6) | replace h6 := notT h6 | skip
  refine W_rs (sa rfl rfl (Wn (tN (W_ret (tR ((rT rfl rfl ⟨?_, hbw⟩).1))))))
  unfold fewP
  rw [decide_eq_false (by omega), Bool.false_and]
 ·first | replace h6 := of_decide_eq_false h6 | replace h6 := of_decide_eq_true (notF h6) | replace h6 := notF h6 | skip
  refine W_skip (tN (W_seq (W_rs (sa rfl rfl (Wn (tN (W_block (W_lp (fun nw1_ lw1_ w1 => ∃ i : Nat, nw1_ = l.length - i ∧ lw1_ = ([(0, .slice a l.length c), (3, .int .i64 i)] : Env) ∧ (i ≤ l.length) ∧ (Below w.heap.size w w1) ∧ ((l.take i).all fewD = true)) _ ⟨_, ⟨0, rfl, rfl, Nat.zero_le _, hbw, rfl⟩, ⟨rfl, rfl, trivial⟩⟩ ?_))))))))
  clear hbw
  rintro nw1_ lw1_ w1 ⟨i, rfl, rfl, hi, hbw, hp⟩
  have hz_w1 := hbw.size
  refine W_seq (W_rs (sm rfl rfl (sm rfl rfl (st (X.lenL rfl rfl Tryz.underlying38) rfl (st (X.lss rfl rfl) rfl (Wn (tN (W_if rfl (fun h10 => ?_) (fun h10 => ?_)))))))))
  ·first | replace h10 := of_decide_eq_true h10 | replace h10 := of_decide_eq_false (notT h10) | replace h10 := notT h10 | skip
   obtain ⟨x, hx⟩ : ∃ x, l[i]? = some x := ⟨_, List.getElem?_eq_getElem (by omega)⟩
   have hux : (l.map str)[i]? = some (str x) := by rw [List.getElem?_map, hx]; rfl
   obtain ⟨g1, o1, c', hv, hg1⟩ := hL.some_ (by omega)
   injection hv with e1 _ e3
   subst e1 e3
   refine W_skip (tN (W_seq (W_block (W_rs (sm rfl rfl (sm rfl rfl (st (X.idxA rfl rfl Tryz.underlying38 siz9 rfl (by omega)) rfl (st (X.ld rfl Tryz.underlying9 rfl (by rw [Nat.mul_one]; exact (hL.bel hbw).cellAt (by omega) hux)) rfl ?_))))))))
   refine st (X.lenS rfl rfl Tryz.underlying9) rfl (st (X.gtr rfl rfl) rfl (Wn (tN (W_if rfl (fun h18 => ?_) (fun h18 => ?_)))))
   ·first | replace h18 := of_decide_eq_true h18 | replace h18 := of_decide_eq_false (notT h18) | replace h18 := notT h18 | skip
    refine W_rs (sa rfl rfl (Wn (tN (W_ret (bR (tR (tR (bR (tR ((rT rfl rfl ⟨?_, hbw⟩).1))))))))))
    unfold fewP
    rw [fewP_at hx (by unfold fewD; exact decide_eq_false (by omega)), Bool.and_false]
   ·first | replace h18 := of_decide_eq_false h18 | replace h18 := of_decide_eq_true (notF h18) | replace h18 := notF h18 | skip
    refine W_skip (bN (tN (W_reg (sm rfl rfl (st (X.add64 rfl rfl (by omega)) rfl (sa rfl rfl (Wn (tN ⟨_, _, ?_, ⟨i + 1, rfl, rfl, by omega, hbw, fewP_next hx hp (by unfold fewD; exact decide_eq_true (by omega))⟩, ⟨rfl, rfl, trivial⟩⟩))))))))
    omega
  ·first | replace h10 := of_decide_eq_false h10 | replace h10 := of_decide_eq_true (notF h10) | replace h10 := notF h10 | skip
   obtain rfl : i = l.length := by omega
   refine W_exit (tE (tE (bH (tN (W_rs (sa rfl rfl (Wn (tN (W_ret ((rT rfl rfl ⟨?_, hbw⟩).1))))))))))
   unfold fewP
   rw [List.take_length] at hp
   rw [hp, decide_eq_true (by omega), Bool.and_self]
theorem fewP_true {l : List (List UInt8)} (h : fewP l = true) : l.length ≤ 30 ∧ ∀ d ∈ l, d.length ≤ 1100 := by
 unfold fewP at h
 rw [Bool.and_eq_true, decide_eq_true_eq, List.all_eq_true] at h
 refine ⟨h.1, fun d hd => ?_⟩
 have := h.2 d hd
 unfold fewD at this
 simpa using this
def sumsC (l : List (List UInt8)) : List Value := l.flatMap fun a => a.map bv
theorem sumsC_snoc (l : List (List UInt8)) (a : List UInt8) : sumsC (l ++ [a]) = sumsC l ++ a.map bv := by simp [sumsC]
theorem padd_sum32 {D : DiskD} {x : Wri} {d : List UInt8} (h : S32 x.l) : (paddM D x d).1.1.sum.length = 32 ∧ S32 (paddM D x d).2.1.l := by
 unfold paddM
 split
 ·exact ⟨by simp [eZ], h⟩
 split
 ·exact ⟨by simp [eZ], h⟩
 split
 ·rename_i e he
  exact ⟨h e (List.mem_of_find?_eq_some he), h⟩
 split
 ·exact ⟨by simp [eZ], h⟩
 split
 ·exact ⟨by simp [eZ], h⟩
 ·refine ⟨sha_length d, fun e he => ?_⟩
  rcases List.mem_append.1 he with he | he
  ·exact h e he
  ·rw [List.mem_singleton.1 he]; exact sha_length d
theorem padd_len (D : DiskD) (x : Wri) (d : List UInt8) : (paddM D x d).2.1.l.length ≤ x.l.length + 1 := by
 obtain ⟨_, h1, h2⟩ := padd_l D x d
 by_cases h : (paddM D x d).1.2 = 0
 ·rw [(h1 h).1, List.length_append, List.length_singleton]
  exact Nat.le_refl _
 ·rw [h2 h]; omega
theorem addsM_len : ∀ (l : List (List UInt8)) (D : DiskD) (x : Wri), (addsM D x l).1.l.length ≤ x.l.length + l.length ∧ (addsM D x l).1.n = x.n
 | [], _, _ => ⟨Nat.le_refl _, rfl⟩
 | d :: l, D, x => by
  have h1 := padd_len D x d
  have h2 := addsM_len l (paddM D x d).2.2 (paddM D x d).2.1
  rw [addsM]
  refine ⟨by simp only [List.length_cons]; omega, h2.2.trans (padd_l D x d).1⟩
theorem addsM_good : ∀ (l : List (List UInt8)) {D : DiskD} (x : Wri) {n : Nat}, Good n D → Good (n + 1100 * l.length) (addsM D x l).2
 | [], _, _, _, h => h
 | d :: l, D, x, n, h => by
  have h1 := padd_good h x d
  have h2 := addsM_good l (paddM D x d).2.1 h1
  rw [addsM]
  exact h2.mono (by simp only [List.length_cons]; omega)
theorem addsM_take {D : DiskD} {x : Wri} {l : List (List UInt8)} {i : Nat} {d : List UInt8} (hd : l[i]? = some d) : addsM D x (l.take (i + 1)) = (paddM (addsM D x (l.take i)).2 (addsM D x (l.take i)).1 d).2 := by
 rw [List.take_add_one, hd]
 exact addsM_snoc d _ _ _
structure AddSt (B q : Nat) (S0 : Nat → Prop) (w : World) (gd gw gx gm : Nat) (D : DiskD) (x : Wri) (v : Value) (S : Nat → Prop) (u : Value) (sums : List (List UInt8)) : Prop where
  all : WrAll B w gd gw gx gm D x v S
  row : Row w 60 32 u sums.length (sumsC sums)
  ap : ∀ k, u.ownBlock = some k → ¬ (S k ∨ WrT gw gx gm v k) ∧ q ≤ k
  lo : ∀ k, WrT gw gx gm v k → q ≤ k
  sub : ∀ k, S k → S0 k ∨ q ≤ k
section
variable {B q gd gw gx gm : Nat} {w w' : World} {D D' : DiskD} {x x' : Wri} {v u u' : Value} {S S0 T : Nat → Prop} {sums : List (List UInt8)}
theorem AddSt.step (h : AddSt B q S0 w gd gw gx gm D x v S u sums) (hp : WrPost B w gd gw gx gm D' x' v S w') (hq : q ≤ w.heap.size) : ∃ v' S', AddSt B q S0 w' gd gw gx gm D' x' v' S' u sums ∧ Chg (fun k => S k ∨ WrT gw gx gm v k) w w' := by
 obtain ⟨v', S', h1, h2, h3, h4⟩ := hp
 have hlt := rowLt h.row
 have hT : ∀ k, WrT gw gx gm v' k → WrT gw gx gm v k ∨ w.heap.size ≤ k := by
  rintro k (e | e | e | e)
  ·exact .inl (.inl e)
  ·exact .inl (.inr (.inl e))
  ·exact .inl (.inr (.inr (.inl e)))
  ·exact (h3 k e).imp (fun h => .inr (.inr (.inr h))) id
 refine ⟨v', S', ⟨h1, h.row.chg h4 (fun k hk => (h.ap k hk).1), fun k hk => ⟨?_, (h.ap k hk).2⟩, fun k hk => (hT k hk).elim (h.lo k) (fun e => by omega), fun k hk => (h2 k hk).elim (h.sub k) (fun e => .inr (by omega))⟩, h4⟩
 have := hlt k hk
 rintro (e | e)
 ·exact (h2 k e).elim (fun e => (h.ap k hk).1 (.inl e)) (fun e => by omega)
 ·exact (hT k e).elim (fun e => (h.ap k hk).1 (.inr e)) (fun e => by omega)
theorem AddSt.chg (h : AddSt B q S0 w gd gw gx gm D x v S u sums) (hC : Chg T w w') (h1 : ∀ k, S k ∨ WrT gw gx gm v k → ¬ T k) (h2 : ∀ k, u.ownBlock = some k → ¬ T k) : AddSt B q S0 w' gd gw gx gm D x v S u sums :=
 ⟨h.all.chg hC h1, h.row.chg hC h2, h.ap, h.lo, h.sub⟩
theorem AddSt.bel (h : AddSt B q S0 w gd gw gx gm D x v S u sums) (hb : Below w.heap.size w w') : AddSt B q S0 w' gd gw gx gm D x v S u sums :=
 ⟨h.all.bel hb, h.row.bel hb, h.ap, h.lo, h.sub⟩
theorem AddSt.app (h : AddSt B q S0 w gd gw gx gm D x v S u sums) {a : List UInt8} (hR : Row w' 60 32 u' (sums.length + 1) (sumsC sums ++ a.map bv)) (hC : Chg (fun k => u.ownBlock = some k) w w') (hv : u'.ownBlock = u.ownBlock ∨ u'.ownBlock = some w.heap.size) (hq : q ≤ w.heap.size) : AddSt B q S0 w' gd gw gx gm D x v S u' (sums ++ [a]) := by
 have hlt := h.all.lts
 refine ⟨h.all.chg hC (fun k hk e => (h.ap k e).1 hk), ?_, fun k hk => ?_, h.lo, h.sub⟩
 ·rw [List.length_append, List.length_singleton, sumsC_snoc]
  exact hR
 ·rcases hv with hv | hv
  ·exact h.ap k (hv ▸ hk)
  ·rw [hv] at hk
   obtain rfl := Option.some.inj hk
   exact ⟨fun e => by have := hlt _ e; omega, hq⟩
theorem AddSt.lts (h : AddSt B q S0 w gd gw gx gm D x v S u sums) : ∀ k, (S k ∨ WrT gw gx gm v k) ∨ u.ownBlock = some k → k < w.heap.size := fun k hk => hk.elim (h.all.lts k) (rowLt h.row k)
theorem AddSt.los (h : AddSt B q S0 w gd gw gx gm D x v S u sums) : ∀ k, S k ∨ WrT gw gx gm v k → S0 k ∨ q ≤ k := fun k hk => hk.elim (h.sub k) (fun e => .inr (h.lo k e))
end
theorem AddSt.size {B q gd gw gx gm : Nat} {w : World} {D : DiskD} {x : Wri} {v u : Value} {S S0 : Nat → Prop} {sums : List (List UInt8)} (h : AddSt B q S0 w gd gw gx gm D x v S u sums) : S32 x.l := h.all.scn.s32
set_option maxRecDepth 10000 in
theorem added_any (B gd : Nat) (D : DiskD) (S0 : Nat → Prop) (n : Int) (N : Nat) (w : World) (va : Value) (l : List (List UInt8)) (hd : Own B w gd D S0) (hg : Good N D) (hN : N ≤ 1000000) (hBw : B ≤ w.heap.size) (hT : PTabs B w) (hL : Reads w 1 va l.length (l.map str)) (hLS : 0 < l.length → ∀ k, va.ownBlock = some k → ¬ S0 k)
  (hl : l.length ≤ 30) (hlen : ∀ d ∈ l, d.length ≤ 1100) (h0 : (pbeginM D n).1 = 0) (D1 : DiskD) (hD1 : (pbeginM D n).2 = D1) :
  Calls Tryz.prog 17 #[.pointer (some ⟨gd, 0, none⟩), .int .i64 n, va] w fun e w' => ∃ gw gx gm v S u, e = .returned (.tuple #[.pointer (some ⟨gw, 0, none⟩), u, .bool true]) ∧ AddSt B w.heap.size S0 w' gd gw gx gm (addsM D1 ⟨n, [], false⟩ l).2 (addsM D1 ⟨n, [], false⟩ l).1 v S u ((addsM D1 ⟨n, [], false⟩ l).1.l.map (·.sum)) ∧ PTabs B w' ∧ Chg S0 w w' := by
 have hgb : Good (N + 30) D1 := by rw [← hD1]; exact pbegin_good hg n
 obtain ⟨a, c, rfl, hc1, hc2⟩ := hL.shape
 have hnn := hL.nle
 refine W_enter (args := [.pointer (some ⟨gd, 0, none⟩), .int .i64 n, .slice a l.length c]) 75 Tryz.func17 rfl rfl rfl (W_sub [(0, .pointer (some ⟨gd, 0, none⟩)), (1, .int .i64 n), (2, .slice a l.length c)] ?_ ⟨rfl, rfl, rfl, trivial⟩)
 have hcw := Chg.refl (S0) w
 refine W_rs (sa rfl rfl (sa rfl rfl (sa rfl rfl (Wn (tN (W_rs (sm rfl rfl (sm rfl rfl (sc _ Tryz.func25 rfl (by kernel_rfl) rfl rfl ((pbegin_any B gd D S0 n N _ hd hg (by omega) (Nat.le_trans hBw hcw.size) hT).mono ?_))))))))))
 rintro e_ w1 ⟨p, S1, rfl, hd1, hS1, hX, hpn, hps⟩
 refine cR ?_
 obtain ⟨gw, gx, gm, v, rfl, hW, hWo⟩ := hps h0
 replace hT := hT.chg hX (fun k hk => (hd.lo k hk).1)
 replace hcw := hcw.next hX (fun i hi => .inl hi)
 rw [h0]
 rw [hD1] at hW
 have hA : AddSt B w.heap.size S0 _ gd gw gx gm D1 ⟨n, [], false⟩ v S1 (.slice none 0 0) [] := ⟨hW, Row.nil _ _ _, fun k hk => by simp [Value.ownBlock] at hk, fun k hk => by have := hWo k hk; omega, fun k hk => (hS1 k hk).imp id (fun e => by omega)⟩
 clear hps hpn hWo hd1 hW hX
 refine sm rfl rfl (st (X.ext rfl rfl) rfl (st (X.ext rfl rfl) rfl (sa rfl rfl (sa rfl rfl (Wn (tN (W_seq (W_rs (sm rfl rfl (st (X.neq rfl rfl) rfl ?_))))))))))
 refine sbN rfl (rfl) rfl (gY (g := 23) rfl rfl rfl (sm rfl rfl (gY (g := 23) rfl rfl rfl (st (X.wEq rfl) rfl (st (X.pickF rfl rfl) rfl (Wn (tN (W_no rfl (rfl) (W_skip (tN ?_))))))))))
 refine W_rs (sa rfl rfl (Wn (tN (W_seq (W_rs (sa rfl rfl (Wn (tN (W_block (W_lp (fun nw2_ lw2_ w2 => ∃ j : Nat, ∃ v : Value, ∃ S1 : Nat → Prop, ∃ u : Value, nw2_ = l.length - j ∧ lw2_ = ([(1, .int .i64 n), (2, .slice a l.length c), (9, .pointer (some ⟨gw, 0, none⟩)), (11, u), (12, .int .i64 j)] : Env) ∧ (AddSt B w.heap.size S0 w2 gd gw gx gm (addsM D1 ⟨n, [], false⟩ (l.take j)).2 (addsM D1 ⟨n, [], false⟩ (l.take j)).1 v S1 u ((addsM D1 ⟨n, [], false⟩ (l.take j)).1.l.map (·.sum))) ∧ (PTabs B w2) ∧ (j ≤ l.length) ∧ (Chg S0 w w2)) _ ⟨_, ⟨0, v, S1, .slice none 0 0, rfl, rfl, hA, hT, Nat.zero_le _, hcw⟩, ⟨rfl, rfl, rfl, rfl, rfl, trivial⟩⟩ ?_))))))))))
 clear hA hT hcw
 rintro nw2_ lw2_ w2 ⟨j, v, S1, u, rfl, rfl, hA, hT, hj, hcw⟩
 refine W_seq (W_rs (sm rfl rfl (sm rfl rfl (st (X.lenL rfl rfl Tryz.underlying38) rfl (st (X.lss rfl rfl) rfl (Wn (tN (W_if rfl (fun h30 => ?_) (fun h30 => ?_)))))))))
 ·first | replace h30 := of_decide_eq_true h30 | replace h30 := of_decide_eq_false (notT h30) | replace h30 := notT h30 | skip
  obtain ⟨d, hd_⟩ : ∃ d, l[j]? = some d := ⟨_, List.getElem?_eq_getElem (by omega)⟩
  have hux : (l.map str)[j]? = some (str d) := by rw [List.getElem?_map, hd_]; rfl
  obtain ⟨g1, o1, c', hv, hg1⟩ := hL.some_ (by omega)
  injection hv with e1 _ e3
  subst e1 e3
  have hdl := hlen d (List.mem_of_getElem? hd_)
  have hgj := addsM_good (l.take j) ⟨n, [], false⟩ hgb
  have hnl := addsM_len (l.take j) D1 ⟨n, [], false⟩
  have htk : (l.take j).length = j := by rw [List.length_take]; omega
  have hnx := addsM_take (D := D1) (x := ⟨n, [], false⟩) hd_
  rw [htk] at hgj hnl
  obtain ⟨y, hy⟩ : ∃ y, addsM D1 ⟨n, [], false⟩ (l.take j) = y := ⟨_, rfl⟩
  rw [hy] at hA hgj hnl hnx
  refine W_skip (tN (W_seq (W_block (W_rs (sm rfl rfl (sm rfl rfl (sm rfl rfl (st (X.idxA rfl rfl Tryz.underlying38 siz9 rfl (by omega)) rfl (st (X.ld rfl Tryz.underlying9 rfl (by rw [Nat.mul_one]; exact (hL.chgS hcw hLS).cellAt (by omega) hux)) rfl ?_)))))))))
  refine sc _ Tryz.func26 rfl (by kernel_rfl) rfl rfl ((padd_any d (N + 30 + 1100 * j) hA.all hgj (by omega) hT (by omega) (by have := hnl.1; simp at this; omega)).mono ?_)
  rintro e_ w3 ⟨rfl, hWP⟩
  refine cR ?_
  have hA0 := hA
  obtain ⟨v2, S2, hA2, hX⟩ := hA.step hWP (by have := hcw.size; omega)
  have hp32 := padd_sum32 (D := y.2) (d := d) hA.size
  have hpl := padd_l y.2 y.1 d
  replace hT := hT.chg hX hA.all.lo
  replace hcw := hcw.next hX hA.los
  obtain ⟨r, hr⟩ : ∃ r, paddM y.2 y.1 d = r := ⟨_, rfl⟩
  rw [hr] at hA2 hp32 hpl hnx
  rw [hr]
  clear hWP hX hA hA0
  have hA := hA2
  clear hA2
  have hz : r.1.1.cells.toArray.size = 35 := Ent.size hp32.1
  refine sm rfl rfl (st (X.ext rfl rfl) rfl (st (X.ext rfl rfl) rfl ?_))
  have hq13 := hA.lts
  have hw13 := hcw.size
  refine salA inf66 rfl (fun g13 w4 hB13 hg13 hb hl13 => ?_)
  replace hcw := hcw.then_below hb
  replace hT := hT.bel hb
  replace hA := hA.bel hb
  have hz_w4 := hb.size
  clear hb
  refine ssBN rfl rfl hB13 (by rw [hz]; exact siz66) (by rw [hz]; rfl) (Ent.cells_one r.1.1) (fun w5 hB_ hc_ => ?_)
  replace hB13 := hB_
  replace hA := hA.chg hc_ (fun k hk => by show ¬ k = g13; have := hq13 k (.inl hk); omega) (fun k hk => by show ¬ k = g13; have := hq13 k (.inr hk); omega)
  replace hT := hT.chg hc_ (fun k hk => by have h1 : k = g13 := hk; have := hcw.size; omega)
  replace hcw := hcw.next hc_ (fun i hi => .inr (by have h1 : i = g13 := hi; omega))
  have hz_w5 := hc_.size
  clear hB_ hc_
  refine sa rfl rfl (Wn (tN (W_rs (sm rfl rfl (st (X.eql rfl rfl) rfl (Wn (tN (W_if rfl (fun h43 => ?_) (fun h43 => ?_)))))))))
  ·first | replace h43 := of_decide_eq_true h43 | replace h43 := of_decide_eq_false (notT h43) | replace h43 := notT h43 | skip
   obtain ⟨hp1, hp2, hp3, hp4⟩ := hpl.2.1 h43
   refine W_seq (W_drsN (fun W_ => Blk W_ g13 66 r.1.1.cells.toArray ∧ W_.cell? ⟨g1, o1 + j, none⟩ = some (str d)) [0, 1, 2, 3, 4, 5, 6, 7, 8, 9, 10, 11, 12, 13, 14, 15, 16, 17, 18, 19, 20, 21, 22, 23] [true, true, true, true, true, true, false, true, true, true, true, true, true, true, true, true, true, true, true, true, true, true, true, true] (by kernel_rfl) (by kernel_rfl) (⟨hB13.drew, (hL.chgS hcw hLS).cellAt (by omega) hux⟩) ?_)
   obtain ⟨w6, hw_⟩ : ∃ w6 : World, w6 = World.drew w5 := ⟨_, rfl⟩
   rw [← hw_]
   have hb : Below w5.heap.size w5 w6 := by rw [hw_]; exact bdrew (Below.refl _ _)
   clear hw_
   have hS := hb
   replace hcw := hcw.then_below hb
   replace hT := hT.bel hb
   replace hA := hA.bel hb
   replace hB13 := hB13.bel hb
   have hz_w6 := hb.size
   clear hb
   refine oY rfl (fun W_ hW_ => (X.fa fa66_0 rfl)) rfl (oY rfl (fun W_ hW_ => (X.ldN (cs := r.1.1.sum.map bv) rfl Tryz.underlying60 rfl (by rw [List.length_map, hp32.1]; exact siz60) (ent_sumR hW_.1))) rfl ?_)
   refine oY rfl (fun W_ hW_ => (X.move rfl)) rfl (oY rfl (fun W_ hW_ => (X.move rfl)) rfl (oY rfl (fun W_ hW_ => (X.idxA rfl rfl Tryz.underlying38 siz9 rfl (by omega))) rfl (oY rfl (fun W_ hW_ => (X.ld rfl Tryz.underlying9 rfl (by rw [Nat.mul_one]; exact hW_.2))) rfl ?_)))
   refine oL rfl (fun Q_ hQ_ hP_ => (sc _ Tryz.func24 rfl (by kernel_rfl) rfl rfl ((Of_list d _ hT.sha (by omega)).mono ?_)))
   rintro e_ w7 ⟨rfl, hb⟩
   refine cR ?_
   replace hcw := hcw.then_below hb
   replace hT := hT.bel hb
   replace hA := hA.bel hb
   replace hB13 := hB13.bel hb
   have hz_w7 := hb.size
   clear hb
   refine Wn (hQ_ _ _ (⟨hB13, (hL.chgS hcw hLS).cellAt (by omega) hux⟩) ?_)
   clear hQ_ hP_ Q_
   refine oY rfl (fun W_ hW_ => (X.neSumF hp32.1 (sha_length _) rfl rfl)) rfl (oY rfl (fun W_ hW_ => (X.mvB (c := false) rfl ((by rw [hp2]; simp)))) rfl ?_)
   refine oYg (g := 52) rfl rfl rfl rfl (fun W_ hW_ => (X.fa fa66_3 rfl)) rfl (oYg (g := 52) rfl rfl rfl rfl (fun W_ hW_ => (X.ldB rfl hW_.1 Tryz.underlying3 rfl (Ent.cell_ hp32.1 2 _ rfl))) rfl (oYg (g := 52) rfl rfl rfl rfl (fun W_ hW_ => (X.move rfl)) rfl (oYg (g := 52) rfl rfl rfl rfl (fun W_ hW_ => (X.move rfl)) rfl (oYg (g := 52) rfl rfl rfl rfl (fun W_ hW_ => (X.idxA rfl rfl Tryz.underlying38 siz9 rfl (by omega))) rfl (oYg (g := 52) rfl rfl rfl rfl (fun W_ hW_ => (X.ld rfl Tryz.underlying9 rfl (by rw [Nat.mul_one]; exact hW_.2))) rfl ?_)))))
   refine oYg (g := 52) rfl rfl rfl rfl (fun W_ hW_ => (X.lenS rfl rfl Tryz.underlying9)) rfl (oYg (g := 52) rfl rfl rfl rfl (fun W_ hW_ => (X.neq rfl rfl)) rfl (oY rfl (fun W_ hW_ => (X.pickF rfl rfl)) rfl (oY rfl (fun W_ hW_ => (X.mvB (c := false) rfl ((decide_eq_false (by rw [hp4]; simp))))) rfl ?_)))
   refine oYg (g := 62) rfl rfl rfl rfl (fun W_ hW_ => (X.fa fa66_1 rfl)) rfl (oYg (g := 62) rfl rfl rfl rfl (fun W_ hW_ => (X.ldB rfl hW_.1 Tryz.underlying3 rfl (Ent.cell_ hp32.1 0 _ rfl))) rfl (oYg (g := 62) rfl rfl rfl rfl (fun W_ hW_ => (X.move rfl)) rfl (oYg (g := 62) rfl rfl rfl rfl (fun W_ hW_ => (X.neq rfl rfl)) rfl (oY rfl (fun W_ hW_ => (X.pickF rfl rfl)) rfl (oN (nN (W_no rfl ((decide_eq_false (by rw [hp3, hnl.2]; simp))) ?_)))))))
   refine W_skip (tN (W_reg (sm rfl rfl (st (X.fa fa66_0 rfl) rfl (st (X.ldN (cs := r.1.1.sum.map bv) rfl Tryz.underlying60 rfl (by rw [List.length_map, hp32.1]; exact siz60) (ent_sumR hB13)) rfl ?_)))))
   refine sbs1 rfl Tryz.underlying45 inf60 (by show (r.1.1.sum.map bv).toArray.size = 32; simp [hp32.1]) rfl (by decide) (by decide) rfl (fun g71 w8 hR71 hg71 hb => ?_)
   replace hA := hA.bel hb
   replace hT := hT.bel hb
   replace hcw := hcw.then_below hb
   have hz_w8 := hb.size
   clear hb hB13
   refine sapp rfl rfl Tryz.underlying45 inf60 rfl (by decide) hA.row (hR71.reads.src Tryz.underlying45 (by intro u hu; simp [Value.cells] at hu; obtain ⟨q, _, rfl⟩ := hu; rfl)) (by simp only [maxLen, List.length_map]; have := hnl.1; simp at this; omega) (by simp only [List.length_map]; have := hnl.1; simp at this; omega) rfl (fun u2 w9 hR2 hC2 hv2 => ?_)
   have hz_w9 := hC2.size
   have hAn := hA.app (a := r.1.1.sum) (by simpa [Value.cells] using hR2) hC2 hv2 (by have := hcw.size; omega)
   replace hT := hT.chg hC2 (fun k hk => by have := (hA.ap k hk).2; omega)
   replace hcw := hcw.next hC2 (fun i hi => .inr (hA.ap i hi).2)
   have hA2 : AddSt B w.heap.size S0 w9 gd gw gx gm (addsM D1 ⟨n, [], false⟩ (l.take (j + 1))).2 (addsM D1 ⟨n, [], false⟩ (l.take (j + 1))).1 v2 S2 u2 ((addsM D1 ⟨n, [], false⟩ (l.take (j + 1))).1.l.map (·.sum)) := by rw [hnx, hp1, List.map_append]; exact hAn
   clear hA hAn hR2 hC2 hR71
   have hA := hA2
   clear hA2
   refine sa rfl rfl (Wn (bN (tN (W_reg (sm rfl rfl (st (X.add64 rfl rfl (by omega)) rfl (sa rfl rfl (Wn (tN ⟨_, _, ?_, ⟨j + 1, _, _, _, rfl, rfl, hA, hT, by omega, hcw⟩, ⟨rfl, rfl, rfl, rfl, rfl, trivial⟩⟩)))))))))
   omega
  ·first | replace h43 := of_decide_eq_false h43 | replace h43 := of_decide_eq_true (notF h43) | replace h43 := notF h43 | skip
   have hA2 : AddSt B w.heap.size S0 w5 gd gw gx gm (addsM D1 ⟨n, [], false⟩ (l.take (j + 1))).2 (addsM D1 ⟨n, [], false⟩ (l.take (j + 1))).1 v2 S2 u ((addsM D1 ⟨n, [], false⟩ (l.take (j + 1))).1.l.map (·.sum)) := by have e43 := hpl.2.2 h43; rw [hnx, e43]; rw [e43] at hA; exact hA
   clear hA
   have hA := hA2
   clear hA2
   refine W_skip (bN (tN (W_reg (sm rfl rfl (st (X.add64 rfl rfl (by omega)) rfl (sa rfl rfl (Wn (tN ⟨_, _, ?_, ⟨j + 1, _, _, _, rfl, rfl, hA, hT, by omega, hcw⟩, ⟨rfl, rfl, rfl, rfl, rfl, trivial⟩⟩))))))))
   omega
 ·first | replace h30 := of_decide_eq_false h30 | replace h30 := of_decide_eq_true (notF h30) | replace h30 := notF h30 | skip
  obtain rfl : j = l.length := by omega
  rw [List.take_length] at hA
  refine W_exit (tE (tE (bH (tN (W_rs (sm rfl rfl (sm rfl rfl (sa rfl rfl (sa rfl rfl (sa rfl rfl (Wn (tN (W_ret ?_)))))))))))))
  exact (rTTT rfl rfl rfl rfl ⟨gw, gx, gm, v, S1, u, rfl, hA, hT, hcw⟩).1
end Go.Proofs.YtnlabkogebnioaaGreatDoor
namespace Go.Proofs.YtnlabkogebnioaaGreatDoor
open Go.RowKit
theorem Reads.rec_' {α : Type} {f : α → List Value} {k : Nat} {w : World} {g o c n : Nat} {l : List α} (h : Reads w k (.slice (some ⟨g, o, none⟩) n c) n (l.flatMap f)) (hk : ∀ a ∈ l, (f a).length = k) (hn : l.length = n) {j : Nat} {x : α} (hx : l[j]? = some x) : w.rangeAt g (o + j * k) (f x) := by
 subst hn
 exact h.rec_ hk hx
end Go.Proofs.YtnlabkogebnioaaGreatDoor
namespace Go.Proofs.YtnlabkogebnioaaGreatDoor
open Go.RowKit
section
variable {P : Program} {N : Nat} {ds : List Deferred} {Q : Post} {S : World → Prop} {os : List Oper} {is : List Nat} {bs : List Bool} {l : Env} {w : World} {op : Op} {ty : TypeId} {pos : String} {aft : Array Edge} {d i j g : Nat} {b : Bool}
theorem yield_un {ops : Array Oper} {a : Act} (ha : Rep N ds l a) (hj : (ops[j]?).bind (·.dst) = some g) (hg : lk l g = some undef) (hN : Nat.blt g N = true) : yielded ops a.tmps j = none := by
 have hs : g < a.tmps.size := by rw [ha.size]; exact of_decide_eq_true (by simpa [Nat.blt_eq] using hN)
 have hv := ha.val g _ hg
 unfold yielded
 rw [hj]
 simp only [Option.bind_some]
 rw [Array.getElem?_eq_getElem hs]
 simp only [Array.getD_eq_getD_getElem?, Array.getElem?_eq_getElem hs, Option.getD_some] at hv
 rw [hv]
 rfl
theorem oNu {m : Bool} (ho : os[i]? = some ⟨some d, op, ty, pos, aft, some (j, b)⟩) (hj : (os.toArray[j]?).bind (·.dst) = some g) (hg : lk l g = some undef) (hN : Nat.blt g N = true) (hS : S w) (hd : Nat.blt d N = true) (h : WO P N ds os Q S is bs ((d, undef) :: l) w) : WO P N ds os Q S (i :: is) (m :: bs) l w := fun a ha => by
 rw [permute_cons ho]
 have hw : Region.wanted ⟨some d, op, ty, pos, aft, some (j, b)⟩ (yielded os.toArray a.tmps) = false := by simp [Region.wanted, yield_un ha hj hg hN]
 cases m with
 | true => exact wpOrd_no hw (h _ (ha.put hd undef))
 | false => exact wpOrd_alone_no hw hS (h _ (ha.put hd undef))
end
end Go.Proofs.YtnlabkogebnioaaGreatDoor
namespace Go.Proofs.YtnlabkogebnioaaGreatDoor
open Go.RowKit Sha
theorem got_len (len : Int) (a s : List UInt8) : (gotM len a s).1.length ≤ s.length := by
 unfold gotM
 split
 ·simp
 split
 ·have := nextM_body s
  simp only [List.length_drop]
  omega
 ·simp
theorem pget_len {D : DiskD} (hok : DOk D) (n : Int) (l : List Ent) (a : List UInt8) : (pgetM D n l a).1.length ≤ 16777216 := by
 unfold pgetM
 split
 ·simp
 split
 ·simp
 rename_i f hf
 have := (hok.len hf).1
 split
 ·simp
 ·refine Nat.le_trans (got_len _ _ _) ?_
  simp only [List.length_take, List.length_drop]
  omega
theorem sumsRange {w : World} {g o c : Nat} {l : List (List UInt8)} (h : Reads w 32 (.slice (some ⟨g, o, none⟩) l.length c) l.length (sumsC l)) (h32 : ∀ a ∈ l, a.length = 32) {j : Nat} {a : List UInt8} (ha : l[j]? = some a) : w.rangeAt g (o + j * 32) (a.map bv) :=
 Reads.rec_' (f := fun a => a.map bv) h (fun a hm => by rw [List.length_map, h32 a hm]) rfl ha
theorem few_facts {l : List (List UInt8)} {n : Int} (hn : rightP n = true) (hl30 : l.length ≤ 30) :
  ∃ ds, WrAt1 1048576 n ds (addsM (pbeginM (newM 1048576) n).2 ⟨n, [], false⟩ l).2 (addsM (pbeginM (newM 1048576) n).2 ⟨n, [], false⟩ l).1 ∧ (∀ d ∈ l, DOkC d → sha d ∈ ds.map sha) ∧ (headB n ++ chunksB ds).length ≤ 40000 ∧ Good (30 + 1100 * l.length) (addsM (pbeginM (newM 1048576) n).2 ⟨n, [], false⟩ l).2 ∧ ds.length ≤ 30 := by
 have hh := headB_len n
 have h0 : (headB n ++ chunksB []).length = (headB n).length := by simp [chunksB]
 obtain ⟨ds, h1, _, h2, h3⟩ := adds_written (l := l) (WrAt1.begin (lim := 1048576) hn (by omega)) (by rw [h0]; omega)
 have hg := addsM_good l ⟨n, [], false⟩ (pbegin_good (Good.new (n := 0) (l := 1048576) (by omega)) n)
 have hlen := (addsM_len l (pbeginM (newM 1048576) n).2 ⟨n, [], false⟩).1
 refine ⟨ds, h1, h2, by rw [h0] at h3; omega, hg.mono (by omega), ?_⟩
 have := congrArg List.length h1.l
 rw [wents_length] at this
 simp only [List.length_nil] at hlen
 omega
theorem LastsAt.popen {D : DiskD} {n : Int} {s all : List UInt8} {lim : Int} (h : LastsAt D (nameP n) lim s all) (hn : rightP n = true) : popenM D n = scanP (s ++ all) n := by
 obtain ⟨f, hf, hfn⟩ := h.file
 rw [popen_there hn hf, hfn]
end Go.Proofs.YtnlabkogebnioaaGreatDoor
namespace Go.Proofs.YtnlabkogebnioaaGreatDoor
open Go.ChangeShapes Go.WideShapes Go.ChangeAt Go.RowKit
section
variable {H : Type} {enc : TypeId × Value → H} {W : World} {base : Nat} {sp : Nat → Bool} {held : Bool}
set_option maxRecDepth 4000 in
theorem open_intsW {r : Reach} {b0 : Nat} {v : Value} {d : DataW H} {p : List MemPlace} (hv : Value.okWide Tryz.prog W r b0 39 v) (h : DataW.Trod enc Tryz.prog W base sp held 39 v d p) :
  ∃ l : List Int, Reads W 1 v l.length (l.map fun k => .int .i64 k) := by
 obtain ⟨fuel, hf⟩ := h
 obtain ⟨a0, len0, cap0, rfl⟩ := okWide_slice Tryz.underlying39 hv
 obtain ⟨v', l, e, hR, _⟩ := open_rows (fun s : Int => [Value.int .i64 s]) (fun _ => True) Tryz.underlying39 cInt (by decide) open_intL hf
 rw [flat_int1] at hR
 simp [Value.cells] at e
 exact ⟨l, e ▸ hR⟩
end
end Go.Proofs.YtnlabkogebnioaaGreatDoor
namespace Go.Proofs.YtnlabkogebnioaaGreatDoor
open Go.RowKit Sha
theorem rot_there {D : DiskD} {k : Key} {i : Int} {c : UInt8} (hs : Rising D.files) (h : ∃ f, mget D.files k = some f) : ∃ f, mget (rotM D k i c).2.files k = some f := by
 obtain ⟨f, hf⟩ := h
 unfold rotM
 rw [fileM_some hf]
 split
 ·exact ⟨f, hf⟩
 ·exact ⟨_, by show mget (sput _ _ _) k = _; rw [mget_sput hs, if_pos rfl]⟩
theorem wb8 (x : Int) : IntKind.u8.wrap x = ((byteI x).toNat : Int) := by rw [w8, byteI_toNat]
theorem pget_code {D : DiskD} {n : Int} {l : List Ent} {a : List UInt8} (h0 : (pgetM D n l a).2 ≠ 0) (h1 : (pgetM D n l a).2 ≠ 35) : (pgetM D n l a).2 = 15 := by
 rcases (pget_honest.2 h0).2 with h | h
 ·exact absurd h h1
 ·exact h
set_option maxRecDepth 10000 in
theorem PackRots_walk (w : World) (v : Value) (l : List (List UInt8)) (hL : Reads w 1 v l.length (l.map str)) (vk : Value) (ks : List Int) (hK : Reads w 1 vk ks.length (ks.map fun k => .int .i64 k)) (ah : Bool) (hT : PTabs w.heap.size w) :
  Calls Tryz.prog 4 #[v, vk, .bool ah] w fun e w' => e = .returned (.bool true) ∧ Below w.heap.size w w' := by
 obtain ⟨a, c, rfl, hc1, hc2⟩ := hL.shape
 obtain ⟨ak, ck, rfl, hck1, hck2⟩ := hK.shape
 have hhl := headB_len 3
 have hnk := hK.nle
 have hr : rightP 3 = true := rfl
 refine W_enter (args := [.slice a l.length c, .slice ak ks.length ck, .bool ah]) 162 Tryz.func4 rfl rfl rfl (W_sub [(0, .slice a l.length c), (1, .slice ak ks.length ck), (2, .bool ah)] ?_ ⟨rfl, rfl, rfl, trivial⟩)
 have hbw := Below.refl w.heap.size w
 refine W_rs (sa rfl rfl (Wn (tN (W_seq (W_rs (sm rfl rfl (sc _ Tryz.func15 rfl (by kernel_rfl) rfl rfl ((few_any _ l _ (hL.bel hbw)).mono ?_))))))))
 rintro e_ w1 ⟨rfl, hb⟩
 refine cR ?_
 replace hbw := bthen hbw hb
 have hz_w1 := hb.size
 clear hb
 refine st (X.not rfl) rfl (sb rfl rfl (fun h25 => ?_) (fun h25 => ?_))
 ·first | replace h25 := of_decide_eq_true h25 | replace h25 := of_decide_eq_false (notT h25) | replace h25 := notT h25 | skip
  refine gN (g := 25) rfl rfl rfl rfl (gN (g := 25) rfl rfl rfl rfl (gN (g := 25) rfl rfl rfl rfl (st (X.pickT rfl rfl) rfl (Wn (tN (W_yes rfl (rfl) (W_rs (sc _ Tryz.func9 rfl (by kernel_rfl) rfl rfl ((pawake_any _ ((hT.bel hbw).to hbw.size)).mono ?_)))))))))
  rintro e_ w2 ⟨rfl, hb⟩
  refine cR ?_
  replace hbw := bthen hbw hb
  have hz_w2 := hb.size
  clear hb
  refine sa rfl rfl (Wn (tN (W_ret (tR ?_))))
  exact (rT rfl rfl ⟨rfl, hbw⟩).1
 ·first | replace h25 := of_decide_eq_false h25 | replace h25 := of_decide_eq_true (notF h25) | replace h25 := notF h25 | skip
  refine gY (g := 25) rfl rfl rfl (sm rfl rfl (gY (g := 25) rfl rfl rfl (st (X.lenL rfl rfl Tryz.underlying39) rfl (gY (g := 25) rfl rfl rfl (st (X.gtr rfl rfl) rfl (st (X.pickF rfl rfl) rfl (Wn (tN (W_if rfl (fun h29 => ?_) (fun h29 => ?_))))))))))
  ·first | replace h29 := of_decide_eq_true h29 | replace h29 := of_decide_eq_false (notT h29) | replace h29 := notT h29 | skip
   refine W_rs (sc _ Tryz.func9 rfl (by kernel_rfl) rfl rfl ((pawake_any _ ((hT.bel hbw).to hbw.size)).mono ?_))
   rintro e_ w3 ⟨rfl, hb⟩
   refine cR ?_
   replace hbw := bthen hbw hb
   have hz_w3 := hb.size
   clear hb
   refine sa rfl rfl (Wn (tN (W_ret (tR ?_))))
   exact (rT rfl rfl ⟨rfl, hbw⟩).1
  ·first | replace h29 := of_decide_eq_false h29 | replace h29 := of_decide_eq_true (notF h29) | replace h29 := notF h29 | skip
   have hfw : fewP l = true := h25
   obtain ⟨hl30, hl11⟩ := fewP_true hfw
   obtain ⟨ds, hW, hin, h40, hg, hd30⟩ := few_facts (l := l) hr hl30
   obtain ⟨hm1, hm2, hm3, hm4, hm5⟩ := hW.make hr h40
   refine W_skip (tN (W_rs (sc _ Tryz.func16 rfl (by kernel_rfl) rfl rfl ((New_ok 1048576 _ (by omega)).mono ?_))))
   rintro e_ w4 ⟨g, S0, rfl, h0, hS0, hb⟩
   refine cR ?_
   replace hbw := bthen hbw hb
   have hz_w4 := hb.size
   clear hb
   have hd : Own w.heap.size w4 g (newM 1048576) S0 := ⟨h0, fun k hk => by have := hS0 k hk; have := hbw.size; omega⟩
   clear h0 hS0
   refine sm rfl rfl (st (X.ext rfl rfl) rfl (st (X.ext rfl rfl) rfl (sa rfl rfl (sa rfl rfl (Wn (tN (W_rs (sm rfl rfl (sm rfl rfl (sc _ Tryz.func17 rfl (by kernel_rfl) rfl rfl ((added_any w.heap.size g (newM 1048576) S0 3 0 _ _ l hd (Good.new (by omega)) (by omega) hbw.size (hT.bel hbw) (hL.bel hbw) (fun h0 k hk e => by have := (hd.lo k e).1; have := hL.ownLt h0 hk; omega) hl30 hl11 (begin_lasts hr (by omega)).1 _ rfl).mono ?_)))))))))))
   rintro e_ w5 ⟨gw, gx, gm, v, S1, u, rfl, hA, hT1, hX⟩
   refine cR ?_
   have hbwn := bchg hbw hX (fun k hk => (hd.lo k hk).1)
   clear hT1 hX hd hbw
   have hbw := hbwn
   clear hbwn
   obtain ⟨y, hy⟩ : ∃ y, addsM (pbeginM (newM 1048576) 3).2 ⟨3, [], false⟩ l = y := ⟨_, rfl⟩
   rw [hy] at hA hW hg hm1 hm2 hm3 hm4
   obtain ⟨sums, hsE⟩ : ∃ sums, y.1.l.map (·.sum) = sums := ⟨_, rfl⟩
   rw [hsE] at hA
   have hs32 : ∀ a ∈ sums, a.length = 32 := fun a ha => by rw [← hsE] at ha; obtain ⟨e, he, rfl⟩ := List.mem_map.1 ha; exact hm3 e he
   have hsl : sums.length = ds.length := by rw [← hsE, List.length_map, hm4]
   obtain ⟨au, cu, rfl, hcu1, hcu2⟩ := hA.row.shape
   obtain ⟨hcl1, hcl2⟩ := hW.close hr h40
   refine sm rfl rfl (st (X.ext rfl rfl) rfl (st (X.ext rfl rfl) rfl (st (X.ext rfl rfl) rfl (sa rfl rfl (sa rfl rfl (sa rfl rfl (Wn (tN (W_seq (W_rs ?_))))))))))
   refine sm rfl rfl (st (X.not rfl) rfl (Wn (tN (W_no rfl (rfl) (W_skip (tN (W_rs (sm rfl rfl (sc _ Tryz.func18 rfl (by kernel_rfl) rfl rfl ((pclose_any (30 + 1100 * l.length) hA.all hg (by omega) (hT.bel hbw) (by omega)).mono ?_))))))))))
   rintro e_ w6 ⟨ux, v3, S2, rfl, hE, hO, hA3, hS2, hv3, hX⟩
   refine cR ?_
   have hbwn := bchg hbw hX hA.all.lo
   have hd := hA3.wf.own
   have hgc := pclose_good hg y.1
   have hRlt := rowLt hA.row
   have hRow := hA.row.chg hX (fun k hk e => (hA.ap k hk).1 e)
   have hnR : ∀ k, (Value.slice au sums.length cu).ownBlock = some k → ¬ S2 k ∧ k < (w5).heap.size := fun k hk => ⟨fun e => (hS2 k e).elim (fun e => (hA.ap k hk).1 (.inl e)) (fun e => by have := hRlt k hk; omega), hRlt k hk⟩
   rw [hcl1] at hE ⊢
   obtain ⟨yc, hyc⟩ : ∃ yc, (pcloseM y.2 y.1).2.2 = yc := ⟨_, rfl⟩
   rw [hyc] at hd hgc hcl2
   obtain ⟨am, cm, rfl⟩ : ∃ am cm, ux = .slice am (makeM y.1.l).1.length cm := by obtain ⟨_, am, cm, e, _⟩ := hE; exact ⟨am, cm, e⟩
   have hz7 := hX.size
   clear hX hbw hA hA3 hO hE hRlt
   have hbw := hbwn
   clear hbwn
   refine sm rfl rfl (st (X.ext rfl rfl) rfl (st (X.ext rfl rfl) rfl ?_))
   have hlo7 := hd.lo
   have hw7 := hbw.size
   have hrl7 := rowLt hRow
   refine salA inf25 rfl (fun g12 w7 hB12 hg12 hb hl12 => ?_)
   replace hbw := bthen hbw hb
   replace hd := hd.bel hb
   replace hRow := hRow.bel hb
   have hz_w7 := hb.size
   clear hb
   refine ssBN rfl rfl hB12 siz25 rfl (by simp [Value.oneCell']) (fun w8 hB_ hc_ => ?_)
   have hn12 : ¬ S2 g12 := fun e => by have := (hlo7 _ e).2; omega
   replace hd := hd.other hc_ (fun k hk e => by have h1 : k = g12 := hk; subst h1; exact hn12 e)
   replace hRow := hRow.chg hc_ (fun k hk e => by have h1 : k = g12 := e; have := hrl7 k hk; omega)
   replace hbw := bset hbw hc_ (by omega)
   have hz_w8 := hc_.size
   clear hB_ hc_ hB12
   refine sa rfl rfl (Wn (tN (W_rs (sm rfl rfl ?_))))
   have hop := closed_open hr hcl2 hW.l hW.ok hW.nd
   have hwE : EOk y.1.l := by
    have hs := hcl2.popen hr
    rw [List.append_nil] at hs
    have h16 : (headB 3 ++ (chunksB ds ++ footB y.1.l)).length ≤ 16777216 := by
     have := footB_len y.1.l
     simp only [List.length_append] at h40 ⊢
     omega
    have := scanP_eok h16 3
    rw [← hs, hop] at this
    exact this
   have hPo := popen_any w.heap.size g yc S2 3 w8 hd.at_ hgc.ok (hT.bel hbw)
   have hlo8 := hd.lo
   rw [hop] at hPo
   refine sc _ Tryz.func19 rfl (by kernel_rfl) rfl rfl ((hPo).mono ?_)
   rintro e_ w9 ⟨p, rfl, hpn, hps, hb⟩
   refine cR ?_
   replace hbw := bthen hbw hb
   replace hd := hd.bel hb
   replace hRow := hRow.bel hb
   have hz_w9 := hb.size
   clear hb
   obtain ⟨gp, gx2, gm2, v2, rfl, hP, hPO⟩ := hps rfl
   have hlP := hP.blk.lt
   have hlX := hP.scn.blk.lt
   have hlM : gm2 < (w9).heap.size := by obtain ⟨m, hM, _⟩ := hP.scn.map; exact hM.lt
   have hlV := rowLt hP.scn.row
   have hfx : ∃ f, mget yc.files (nameP 3) = some f := by obtain ⟨f, hf, _⟩ := hcl2.file; exact ⟨f, hf⟩
   obtain ⟨xs, hP, hEO⟩ : ∃ xs : Scn, PakAt w9 g gp gx2 gm2 v2 3 xs ∧ EOk xs.l := ⟨_, hP, hwE⟩
   obtain ⟨ho1, ho2, ho3, ho4⟩ := hPO
   have hnS : ∀ k, (k = gp ∨ k = gx2 ∨ k = gm2 ∨ v2.ownBlock = some k ∨ (Value.slice au sums.length cu).ownBlock = some k) → ¬ S2 k ∧ k < (w9).heap.size := by
    rintro k (rfl | rfl | rfl | e | e)
    ·exact ⟨fun e => by have := (hlo8 _ e).2; omega, hlP⟩
    ·exact ⟨fun e => by have := (hlo8 _ e).2; omega, hlX⟩
    ·exact ⟨fun e => by have := (hlo8 _ e).2; omega, hlM⟩
    ·exact ⟨fun e2 => by have := (hlo8 _ e2).2; have := ho4 k e; omega, hlV k e⟩
    ·exact ⟨(hnR k e).1, by have := (hnR k e).2; omega⟩
   clear hpn hps hlo8 hnR ho1 ho2 ho3 ho4
   refine sm rfl rfl (st (X.ext rfl rfl) rfl (st (X.ext rfl rfl) rfl (sa rfl rfl (sa rfl rfl (Wn (tN (W_seq (W_rs (sa rfl rfl (Wn ?_))))))))))
   refine tN (W_block (W_lp (fun nw10_ lw10_ w10 => ∃ i : Nat, ∃ D : DiskD, ∃ S : Nat → Prop, nw10_ = ks.length - i ∧ lw10_ = ([(1, .slice ak ks.length ck), (2, .bool ah), (7, .pointer (some ⟨g, 0, none⟩)), (10, .slice au sums.length cu), (13, .int .i64 0), (14, .pointer (some ⟨gp, 0, none⟩)), (15, .int .i64 0), (16, .int .i64 i)] : Env) ∧ (i ≤ ks.length) ∧ (Good (30 + 1100 * l.length + 30) D) ∧ (∃ f, mget D.files (nameP 3) = some f) ∧ (∀ k, (k = gp ∨ k = gx2 ∨ k = gm2 ∨ v2.ownBlock = some k ∨ (Value.slice au sums.length cu).ownBlock = some k) → ¬ S k ∧ k < (w10).heap.size) ∧ (Own w.heap.size w10 g D S) ∧ (PakAt w10 g gp gx2 gm2 v2 3 xs) ∧ (Row w10 60 32 (.slice au sums.length cu) sums.length (sumsC sums)) ∧ (Below w.heap.size w w10)) _ ⟨_, ⟨0, yc, S2, rfl, rfl, Nat.zero_le _, hgc, hfx, hnS, hd, hP, hRow, hbw⟩, ⟨rfl, rfl, rfl, rfl, rfl, rfl, rfl, rfl, trivial⟩⟩ ?_))
   clear hfx hnS hd hP hRow hbw
   rintro nw10_ lw10_ w10 ⟨i, D, S, rfl, rfl, hi, hg, hfx, hnS, hd, hP, hRow, hbw⟩
   have hz_w10 := hbw.size
   refine W_seq (W_rs (sm rfl rfl (sm rfl rfl (st (X.lenL rfl rfl Tryz.underlying39) rfl (st (X.lss rfl rfl) rfl (Wn (tN (W_if rfl (fun h57 => ?_) (fun h57 => ?_)))))))))
   ·first | replace h57 := of_decide_eq_true h57 | replace h57 := of_decide_eq_false (notT h57) | replace h57 := notT h57 | skip
    obtain ⟨t, ht⟩ : ∃ t, ks[i]? = some t := ⟨_, List.getElem?_eq_getElem (by omega)⟩
    have hut : (ks.map fun k => (Value.int .i64 k))[i]? = some (.int .i64 t) := by rw [List.getElem?_map, ht]; rfl
    obtain ⟨g1, o1, c', hv, hg1⟩ := (hK.bel hbw).some_ (by omega)
    injection hv with e1 _ e3
    subst e1 e3
    refine W_skip (tN (W_seq (W_block (W_rs (sm rfl rfl (sc _ Tryz.func21 rfl (by kernel_rfl) rfl rfl ((Name_p 3 _ (hT.bel hbw).pow).mono ?_)))))))
    rintro e_ w11 ⟨rfl, hb⟩
    refine cR ?_
    replace hbw := bthen hbw hb
    replace hd := hd.bel hb
    replace hP := hP.bel hb
    replace hRow := hRow.bel hb
    have hz_w11 := hb.size
    clear hb
    refine sc _ Tryz.func20 rfl (by kernel_rfl) rfl rfl ((Size_any g D S (nameP 3) _ hd.at_).mono ?_)
    rintro e_ w12 ⟨rfl, hb⟩
    refine cR ?_
    replace hbw := bthen hbw hb
    replace hd := hd.bel hb
    replace hP := hP.bel hb
    replace hRow := hRow.bel hb
    have hz_w12 := hb.size
    clear hb
    refine sm rfl rfl (st (X.ext rfl rfl) rfl (st (X.ext rfl rfl) rfl (sa rfl rfl (sa rfl rfl (Wn (tN (W_rs (sm rfl rfl (sm rfl rfl (st (X.idxA rfl rfl Tryz.underlying39 siz3 rfl (by omega)) rfl ?_))))))))))
    refine st (X.ld rfl Tryz.underlying3 rfl (by rw [Nat.mul_one]; exact (hK.bel hbw).cellAt (by omega) hut)) rfl ?_
    refine st (X.geq rfl rfl) rfl (sb rfl rfl (fun h71 => ?_) (fun h71 => ?_))
    ·first | replace h71 := of_decide_eq_true h71 | replace h71 := of_decide_eq_false (notT h71) | replace h71 := notT h71 | skip
     refine gY (g := 71) rfl rfl rfl (sm rfl rfl (gY (g := 71) rfl rfl rfl (st (X.gtr rfl rfl) rfl (st (X.pickT rfl rfl) rfl (Wn (tN (W_if rfl (fun h74 => ?_) (fun h74 => ?_))))))))
     ·first | replace h74 := of_decide_eq_true h74 | replace h74 := of_decide_eq_false (notT h74) | replace h74 := notT h74 | skip
      refine W_drN (fun W_ => W_.cell? ⟨g1, o1 + i, none⟩ = some (.int .i64 t)) [0, 2, 3, 4, 5, 6, 7, 8, 9, 10, 11, 12, 13, 14, 1, 15] [true, true, true, true, true, true, true, true, true, true, true, true, true, true, false, false] (by kernel_rfl) (by kernel_rfl) ((hK.bel (bdrew hbw)).cellAt (by omega) hut) ?_
      obtain ⟨w13, hw_⟩ : ∃ w13 : World, w13 = World.drew w12 := ⟨_, rfl⟩
      rw [← hw_]
      have hb : Below w12.heap.size w12 w13 := by rw [hw_]; exact bdrew (Below.refl _ _)
      clear hw_
      have hS := hb
      replace hbw := bthen hbw hb
      replace hd := hd.bel hb
      replace hP := hP.bel hb
      replace hRow := hRow.bel hb
      have hz_w13 := hb.size
      clear hb
      refine oY rfl (fun W_ hW_ => (X.move rfl)) rfl (oY rfl (fun W_ hW_ => (X.move rfl)) rfl (oY rfl (fun W_ hW_ => (X.move rfl)) rfl (oY rfl (fun W_ hW_ => (X.idxA rfl rfl Tryz.underlying39 siz3 rfl (by omega))) rfl (oY rfl (fun W_ hW_ => (X.ld rfl Tryz.underlying3 rfl (by rw [Nat.mul_one]; exact hW_))) rfl ?_))))
      refine oY rfl (fun W_ hW_ => (X.quo rfl rfl (by decide) rfl)) rfl (oY rfl (fun W_ hW_ => (X.move rfl)) rfl (oY rfl (fun W_ hW_ => (X.rem rfl rfl (by omega) rfl)) rfl (oY rfl (fun W_ hW_ => (X.move rfl)) rfl (oY rfl (fun W_ hW_ => (X.move rfl)) rfl (oY rfl (fun W_ hW_ => (X.idxA rfl rfl Tryz.underlying39 siz3 rfl (by omega))) rfl (oY rfl (fun W_ hW_ => (X.ld rfl Tryz.underlying3 rfl (by rw [Nat.mul_one]; exact hW_))) rfl ?_))))))
      refine oY rfl (fun W_ hW_ => (X.rem rfl rfl (by decide) rfl)) rfl (oY rfl (fun W_ hW_ => (X.convI (z := ((byteI (t.tmod 256)).toNat : Int)) rfl Tryz.underlying3 Tryz.underlying5 (wb8 _))) rfl (oL rfl (fun Q_ hQ_ hP_ => (sc _ Tryz.func21 rfl (by kernel_rfl) rfl rfl ((Name_p 3 _ (hT.bel hbw).pow).mono ?_)))))
      rintro e_ w14 ⟨rfl, hb⟩
      refine cR ?_
      replace hbw := bthen hbw hb
      replace hd := hd.bel hb
      replace hP := hP.bel hb
      replace hRow := hRow.bel hb
      have hz_w14 := hb.size
      clear hb
      refine Wn (hQ_ _ _ ((hK.bel hbw).cellAt (by omega) hut) ?_)
      clear hQ_ hP_ Q_
      refine oL rfl (fun Q_ hQ_ hP_ => (sc _ Tryz.func22 rfl (by kernel_rfl) rfl rfl ((Rot_any g D S (nameP 3) _ (byteI (t.tmod 256)) _ hd.at_ hg.ok).mono ?_)))
      rintro e_ w15 ⟨rfl, h1, hX⟩
      refine cR ?_
      have hbwn := bchg hbw hX (fun k hk => (hd.lo k hk).1)
      have hzX := hX.size
      have hdn := hd.step h1 hX hbw.size
      replace hP := hP.chg hX (hnS _ (.inl rfl)).1 (hnS _ (.inr (.inl rfl))).1 (hnS _ (.inr (.inr (.inl rfl)))).1 (fun k hk => (hnS k (.inr (.inr (.inr (.inl hk))))).1)
      replace hRow := hRow.chg hX (fun k hk => (hnS k (.inr (.inr (.inr (.inr hk))))).1)
      have hnSn : ∀ k, (k = gp ∨ k = gx2 ∨ k = gm2 ∨ v2.ownBlock = some k ∨ (Value.slice au sums.length cu).ownBlock = some k) → ¬ Ext S w14 w15 k ∧ k < (w15).heap.size := fun k hk => ⟨fun e => e.elim (hnS k hk).1 (fun e => by have := (hnS k hk).2; omega), by have := (hnS k hk).2; omega⟩
      replace hfx := rot_there (i := (IntKind.i64.wrap (t.tdiv 256)).tmod (sizeM D (nameP 3)).1) (c := byteI (t.tmod 256)) hg.ok.srt hfx
      replace hg := rot_good hg (nameP 3) ((IntKind.i64.wrap (t.tdiv 256)).tmod (sizeM D (nameP 3)).1) (byteI (t.tmod 256))
      clear hX hd h1 hbw hnS
      have hd := hdn
      have hbw := hbwn
      have hnS := hnSn
      clear hdn hbwn hnSn
      refine Wn (hQ_ _ _ ((hK.bel hbw).cellAt (by omega) hut) ?_)
      clear hQ_ hP_ Q_
      refine oN (nN (bN (tN (W_reg (sm rfl rfl (st (X.add64 rfl rfl (by omega)) rfl (sa rfl rfl (Wn (tN ⟨_, _, ?_, ⟨i + 1, _, _, rfl, rfl, by omega, hg, hfx, fun k hk => ⟨(hnS k hk).1, by have := (hnS k hk).2; omega⟩, hd, hP, hRow, hbw⟩, ⟨rfl, rfl, rfl, rfl, rfl, rfl, rfl, rfl, trivial⟩⟩)))))))))
      omega
     ·first | replace h74 := of_decide_eq_false h74 | replace h74 := of_decide_eq_true (notF h74) | replace h74 := notF h74 | skip
      refine W_skip (bN (tN (W_reg (sm rfl rfl (st (X.add64 rfl rfl (by omega)) rfl (sa rfl rfl (Wn (tN ⟨_, _, ?_, ⟨i + 1, _, _, rfl, rfl, by omega, hg, hfx, fun k hk => ⟨(hnS k hk).1, by have := (hnS k hk).2; omega⟩, hd, hP, hRow, hbw⟩, ⟨rfl, rfl, rfl, rfl, rfl, rfl, rfl, rfl, trivial⟩⟩))))))))
      omega
    ·first | replace h71 := of_decide_eq_false h71 | replace h71 := of_decide_eq_true (notF h71) | replace h71 := notF h71 | skip
     refine gN (g := 71) rfl rfl rfl rfl (gN (g := 71) rfl rfl rfl rfl (st (X.pickF rfl rfl) rfl (Wn (tN (W_no rfl (rfl) (W_skip (bN (tN (W_reg (sm rfl rfl ?_))))))))))
     refine st (X.add64 rfl rfl (by omega)) rfl (sa rfl rfl (Wn (tN ⟨_, _, ?_, ⟨i + 1, _, _, rfl, rfl, by omega, hg, hfx, fun k hk => ⟨(hnS k hk).1, by have := (hnS k hk).2; omega⟩, hd, hP, hRow, hbw⟩, ⟨rfl, rfl, rfl, rfl, rfl, rfl, rfl, rfl, trivial⟩⟩)))
     omega
   ·first | replace h57 := of_decide_eq_false h57 | replace h57 := of_decide_eq_true (notF h57) | replace h57 := notF h57 | skip
    refine W_exit (tE (tE (bH (tN (W_seq (W_rs (sm rfl rfl (st (X.neq rfl rfl) rfl (sbN rfl (rfl) rfl (gY (g := 93) rfl rfl rfl (sm rfl rfl (gY (g := 93) rfl rfl rfl (st (X.neq rfl rfl) rfl ?_)))))))))))))
    refine st (X.pickF rfl rfl) rfl (sbN rfl (rfl) rfl (gY (g := 97) rfl rfl rfl (sm rfl rfl (gY (g := 97) rfl rfl rfl (st (X.kEq rfl) rfl (st (X.pickF rfl rfl) rfl (Wn (tN (W_no rfl (rfl) (W_skip ?_))))))))))
    refine tN (W_seq (W_rs (sm rfl rfl (st (X.not rfl) rfl (Wn (tN (W_if rfl (fun h102 => ?_) (fun h102 => ?_))))))))
    ·first | replace h102 := of_decide_eq_true h102 | replace h102 := of_decide_eq_false (notT h102) | replace h102 := notT h102 | skip
     refine W_rs (sm rfl rfl (sc _ Tryz.func19 rfl (by kernel_rfl) rfl rfl ((popen_any w.heap.size g D S 3 _ hd.at_ hg.ok (hT.bel hbw)).mono ?_)))
     rintro e_ w16 ⟨p, rfl, hpn, hps, hb⟩
     refine cR ?_
     replace hbw := bthen hbw hb
     replace hd := hd.bel hb
     replace hP := hP.bel hb
     replace hRow := hRow.bel hb
     have hz_w16 := hb.size
     clear hb
     obtain ⟨f, hf⟩ := hfx
     have hopD := popen_there hr hf
     have hscD := scanP_code f.now hr
     rw [← hopD] at hscD
     refine sm rfl rfl (st (X.ext rfl rfl) rfl (st (X.ext rfl rfl) rfl (sa rfl rfl (sa rfl rfl (Wn (tN (W_rs (sm rfl rfl (st (X.neq rfl rfl) rfl (Wn ?_))))))))))
     refine tN (W_if rfl (fun h109 => ?_) (fun h109 => ?_))
     ·first | replace h109 := of_decide_eq_true h109 | replace h109 := of_decide_eq_false (notT h109) | replace h109 := notT h109 | skip
      have h12 : (popenM D 3).2 = 12 := hscD.elim (fun e => absurd e h109) id
      obtain rfl := hpn h109
      refine W_rs (sm rfl rfl (st (X.eql rfl rfl) rfl (sbY rfl (decide_eq_true h12) rfl (gY (g := 112) rfl rfl rfl (sm rfl rfl (gY (g := 112) rfl rfl rfl (st (X.kEq rfl) rfl (st (X.pickT rfl rfl) rfl (sbY rfl (rfl) rfl (gY (g := 116) rfl rfl rfl ?_))))))))))
      refine sc _ Tryz.func9 rfl (by kernel_rfl) rfl rfl ((pawake_any _ ((hT.bel hbw).to hbw.size)).mono ?_)
      rintro e_ w17 ⟨rfl, hb⟩
      refine cR ?_
      replace hbw := bthen hbw hb
      replace hd := hd.bel hb
      replace hRow := hRow.bel hb
      have hz_w17 := hb.size
      clear hb
      refine st (X.pickT rfl rfl) rfl (sa rfl rfl (Wn (tN (W_ret (tR ?_)))))
      exact (rT rfl rfl ⟨rfl, hbw⟩).1
     ·first | replace h109 := of_decide_eq_false h109 | replace h109 := of_decide_eq_true (notF h109) | replace h109 := notF h109 | skip
      clear hP hEO xs
      obtain ⟨gp, gx2, gm2, v2, rfl, hP, hPO⟩ := hps (Decidable.of_not_not h109)
      have hEO : EOk (popenM D 3).1.l := by rw [hopD]; exact scanP_eok (hg.ok.len hf).1 3
      obtain ⟨xs, hP, hEO⟩ : ∃ xs : Scn, PakAt w16 g gp gx2 gm2 v2 3 xs ∧ EOk xs.l := ⟨_, hP, hEO⟩
      clear hps hpn hPO
      refine W_skip (tN (W_seq (W_rs (sa rfl rfl (Wn (tN (W_block (W_lp (fun nw18_ lw18_ w18 => ∃ i : Nat, nw18_ = sums.length - i ∧ lw18_ = ([(10, .slice au sums.length cu), (14, .pointer (some ⟨gp, 0, none⟩)), (19, .int .i64 i)] : Env) ∧ (i ≤ sums.length) ∧ (Own w.heap.size w18 g D S) ∧ (PakAt w18 g gp gx2 gm2 v2 3 xs) ∧ (Row w18 60 32 (.slice au sums.length cu) sums.length (sumsC sums)) ∧ (Below w.heap.size w w18)) _ ⟨_, ⟨0, rfl, rfl, Nat.zero_le _, hd, hP, hRow, hbw⟩, ⟨rfl, rfl, rfl, trivial⟩⟩ ?_))))))))
      clear hd hP hRow hbw
      rintro nw18_ lw18_ w18 ⟨i, rfl, rfl, hi, hd, hP, hRow, hbw⟩
      have hz_w18 := hbw.size
      refine W_seq (W_rs (sm rfl rfl (sm rfl rfl (st (X.lenL rfl rfl Tryz.underlying45) rfl (st (X.lss rfl rfl) rfl (Wn (tN (W_if rfl (fun h122 => ?_) (fun h122 => ?_)))))))))
      ·first | replace h122 := of_decide_eq_true h122 | replace h122 := of_decide_eq_false (notT h122) | replace h122 := notT h122 | skip
       obtain ⟨q, hq⟩ : ∃ q, sums[i]? = some q := ⟨_, List.getElem?_eq_getElem (by omega)⟩
       have hRd := hRow.reads
       obtain ⟨gu, ou, cu', huv, hgu⟩ := hRd.some_ (by omega)
       injection huv with e1 _ e3
       subst e1 e3
       clear hRd
       have hq32 := hs32 q (List.mem_of_getElem? hq)
       have hh := pget_honest (D := D) (n := 3) (l := xs.l) (a := q)
       refine W_skip (tN (W_seq (W_block (W_rs (sm rfl rfl (sm rfl rfl (sm rfl rfl (st (X.idxA rfl rfl Tryz.underlying45 siz60 rfl (by omega)) rfl (st (X.ldN (cs := q.map bv) rfl Tryz.underlying60 rfl (by rw [List.length_map, hq32]; exact siz60) (sumsRange hRow.reads hs32 hq)) rfl ?_)))))))))
       refine sc _ Tryz.func23 rfl (by kernel_rfl) rfl rfl ((pget_any q hP hd.at_ hg.ok (hT.bel hbw) hq32 hEO).mono ?_)
       rintro e_ w19 ⟨rfl, hb⟩
       refine cR ?_
       replace hbw := bthen hbw hb
       replace hd := hd.bel hb
       replace hP := hP.bel hb
       replace hRow := hRow.bel hb
       have hz_w19 := hb.size
       clear hb
       refine sm rfl rfl (st (X.ext rfl rfl) rfl (st (X.ext rfl rfl) rfl (sa rfl rfl (sa rfl rfl (Wn (tN ?_))))))
       by_cases hsp0_ : (pgetM D 3 xs.l q).2 ≠ 0
       rotate_left
       ·refine W_drsN (fun W_ => W_.rangeAt gu (ou + i * 32) (q.map bv)) [0, 1, 2, 3, 5, 6, 7, 8, 4, 9, 10, 11, 12, 13, 14, 15, 16, 17, 18, 19, 20, 21, 22, 23, 24, 25, 26] [true, true, true, true, true, true, true, true, false, true, true, true, true, true, true, true, true, true, true, true, true, true, true, true, true, true, true] (by kernel_rfl) (by kernel_rfl) (sumsRange (hRow.reads.bel (bdrew (Below.refl _ _))) hs32 hq) ?_
        obtain ⟨w20, hw_⟩ : ∃ w20 : World, w20 = World.drew w19 := ⟨_, rfl⟩
        rw [← hw_]
        have hb : Below w19.heap.size w19 w20 := by rw [hw_]; exact bdrew (Below.refl _ _)
        clear hw_
        have hS := hb
        replace hbw := bthen hbw hb
        replace hd := hd.bel hb
        replace hP := hP.bel hb
        replace hRow := hRow.bel hb
        have hz_w20 := hb.size
        clear hb
        refine oY rfl (fun W_ hW_ => (X.move rfl)) rfl (oY rfl (fun W_ hW_ => (X.eql rfl rfl)) rfl (oY rfl (fun W_ hW_ => (X.mvB (c := true) rfl (decide_eq_true (Decidable.of_not_not hsp0_)))) rfl (oYg (g := 136) rfl rfl rfl rfl (fun W_ hW_ => (X.move rfl)) rfl (oYg (g := 136) rfl rfl rfl rfl (fun W_ hW_ => (X.move rfl)) rfl (oYg (g := 136) rfl rfl rfl rfl (fun W_ hW_ => (X.move rfl)) rfl (oYg (g := 136) rfl rfl rfl rfl (fun W_ hW_ => (X.idxA rfl rfl Tryz.underlying45 siz60 rfl (by omega))) rfl (oYg (g := 136) rfl rfl rfl rfl (fun W_ hW_ => (X.ldN (cs := q.map bv) rfl Tryz.underlying60 rfl (by rw [List.length_map, hq32]; exact siz60) hW_)) rfl ?_)))))))
        refine oL rfl (fun Q_ hQ_ hP_ => (gY (g := 136) rfl rfl rfl (sc _ Tryz.func24 rfl (by kernel_rfl) rfl rfl ((Of_list _ _ (hT.bel hbw).sha (Nat.le_trans (pget_len hg.ok _ _ _) (by decide))).mono ?_))))
        rintro e_ w21 ⟨rfl, hb⟩
        refine cR ?_
        replace hbw := bthen hbw hb
        replace hd := hd.bel hb
        replace hP := hP.bel hb
        replace hRow := hRow.bel hb
        have hz_w21 := hb.size
        clear hb
        refine Wn (hQ_ _ _ (sumsRange hRow.reads hs32 hq) ?_)
        clear hQ_ hP_ Q_
        refine oYg (g := 136) rfl rfl rfl rfl (fun W_ hW_ => (X.neSumF (sha_length _) hq32 rfl rfl)) rfl (oY rfl (fun W_ hW_ => (X.pickT rfl rfl)) rfl (oY rfl (fun W_ hW_ => (X.mvB (c := false) rfl ((by rw [hh.1 (Decidable.of_not_not hsp0_)]; simp)))) rfl ?_))
        refine oYg (g := 145) rfl rfl rfl rfl (fun W_ hW_ => (X.move rfl)) rfl (oYg (g := 145) rfl rfl rfl rfl (fun W_ hW_ => (X.neq rfl rfl)) rfl (oYg (g := 145) rfl rfl rfl rfl (fun W_ hW_ => (X.mvB (c := false) rfl (decide_eq_false hsp0_))) rfl (oNg (g := 148) rfl rfl rfl rfl (sumsRange hRow.reads hs32 hq) rfl (oNg (g := 148) rfl rfl rfl rfl (sumsRange hRow.reads hs32 hq) rfl (oNg (g := 148) rfl rfl rfl rfl (sumsRange hRow.reads hs32 hq) rfl (oNu (g := 151) rfl rfl rfl rfl (sumsRange hRow.reads hs32 hq) rfl (oNu (g := 151) rfl rfl rfl rfl (sumsRange hRow.reads hs32 hq) rfl (oNu (g := 151) rfl rfl rfl rfl (sumsRange hRow.reads hs32 hq) rfl (oNu (g := 154) rfl rfl rfl rfl (sumsRange hRow.reads hs32 hq) rfl (oNu (g := 154) rfl rfl rfl rfl (sumsRange hRow.reads hs32 hq) rfl ?_))))))))))
        refine oNu (g := 151) rfl rfl rfl rfl (sumsRange hRow.reads hs32 hq) rfl (oNg (g := 148) rfl rfl rfl rfl (sumsRange hRow.reads hs32 hq) rfl (oYg (g := 145) rfl rfl rfl rfl (fun W_ hW_ => (X.pickF rfl rfl)) rfl (oY rfl (fun W_ hW_ => (X.pickF rfl rfl)) rfl (oN (nN (W_no rfl (rfl) (W_skip (bN (tN (W_reg ?_))))))))))
        refine sm rfl rfl (st (X.add64 rfl rfl (by omega)) rfl (sa rfl rfl (Wn (tN ⟨_, _, ?_, ⟨i + 1, rfl, rfl, by omega, hd, hP, hRow, hbw⟩, ⟨rfl, rfl, rfl, trivial⟩⟩))))
        omega
       by_cases hsp1_ : (pgetM D 3 xs.l q).2 = 35
       rotate_left
       ·refine W_drsN (fun W_ => W_.rangeAt gu (ou + i * 32) (q.map bv)) [0, 1, 2, 3, 5, 6, 7, 8, 4, 9, 10, 11, 12, 13, 14, 15, 16, 17, 18, 19, 20, 21, 22, 23, 24, 25, 26] [true, true, true, true, true, true, true, true, false, true, true, true, true, true, true, true, true, true, true, true, true, true, true, true, true, true, true] (by kernel_rfl) (by kernel_rfl) (sumsRange (hRow.reads.bel (bdrew (Below.refl _ _))) hs32 hq) ?_
        obtain ⟨w22, hw_⟩ : ∃ w22 : World, w22 = World.drew w19 := ⟨_, rfl⟩
        rw [← hw_]
        have hb : Below w19.heap.size w19 w22 := by rw [hw_]; exact bdrew (Below.refl _ _)
        clear hw_
        have hS := hb
        replace hbw := bthen hbw hb
        replace hd := hd.bel hb
        replace hP := hP.bel hb
        replace hRow := hRow.bel hb
        have hz_w22 := hb.size
        clear hb
        refine oY rfl (fun W_ hW_ => (X.move rfl)) rfl (oY rfl (fun W_ hW_ => (X.eql rfl rfl)) rfl (oY rfl (fun W_ hW_ => (X.mvB (c := false) rfl (decide_eq_false hsp0_))) rfl (oNg (g := 136) rfl rfl rfl rfl (sumsRange hRow.reads hs32 hq) rfl (oNg (g := 136) rfl rfl rfl rfl (sumsRange hRow.reads hs32 hq) rfl (oNg (g := 136) rfl rfl rfl rfl (sumsRange hRow.reads hs32 hq) rfl (oNg (g := 136) rfl rfl rfl rfl (sumsRange hRow.reads hs32 hq) rfl (oNg (g := 136) rfl rfl rfl rfl (sumsRange hRow.reads hs32 hq) rfl (oNg (g := 136) rfl rfl rfl rfl (sumsRange hRow.reads hs32 hq) rfl (oNg (g := 136) rfl rfl rfl rfl (sumsRange hRow.reads hs32 hq) rfl (oY rfl (fun W_ hW_ => (X.pickF rfl rfl)) rfl ?_))))))))))
        refine oY rfl (fun W_ hW_ => (X.mvB (c := false) rfl (rfl))) rfl (oYg (g := 145) rfl rfl rfl rfl (fun W_ hW_ => (X.move rfl)) rfl (oYg (g := 145) rfl rfl rfl rfl (fun W_ hW_ => (X.neq rfl rfl)) rfl (oYg (g := 145) rfl rfl rfl rfl (fun W_ hW_ => (X.mvB (c := true) rfl (decide_eq_true hsp0_))) rfl (oYg (g := 148) rfl rfl rfl rfl (fun W_ hW_ => (X.move rfl)) rfl (oYg (g := 148) rfl rfl rfl rfl (fun W_ hW_ => (X.neS rfl rfl)) rfl (oYg (g := 148) rfl rfl rfl rfl (fun W_ hW_ => (X.mvB (c := false) rfl (decide_eq_false (by rw [(hh.2 hsp0_).1]; simp)))) rfl ?_))))))
        refine oYg (g := 151) rfl rfl rfl rfl (fun W_ hW_ => (X.move rfl)) rfl (oYg (g := 151) rfl rfl rfl rfl (fun W_ hW_ => (X.neq rfl rfl)) rfl (oYg (g := 151) rfl rfl rfl rfl (fun W_ hW_ => (X.mvB (c := true) rfl (decide_eq_true hsp1_))) rfl (oYg (g := 154) rfl rfl rfl rfl (fun W_ hW_ => (X.move rfl)) rfl (oYg (g := 154) rfl rfl rfl rfl (fun W_ hW_ => (X.neq rfl rfl)) rfl (oYg (g := 151) rfl rfl rfl rfl (fun W_ hW_ => (X.pickT rfl rfl)) rfl (oYg (g := 148) rfl rfl rfl rfl (fun W_ hW_ => (X.pickF rfl rfl)) rfl (oYg (g := 145) rfl rfl rfl rfl (fun W_ hW_ => (X.pickT rfl rfl)) rfl (oY rfl (fun W_ hW_ => (X.pickF rfl rfl)) rfl (oN (nN ?_))))))))))
        refine W_no rfl (decide_eq_false (by rw [pget_code hsp0_ hsp1_]; simp)) ?_
        refine W_skip (bN (tN (W_reg (sm rfl rfl (st (X.add64 rfl rfl (by omega)) rfl (sa rfl rfl (Wn (tN ⟨_, _, ?_, ⟨i + 1, rfl, rfl, by omega, hd, hP, hRow, hbw⟩, ⟨rfl, rfl, rfl, trivial⟩⟩))))))))
        omega
       refine W_drsN (fun W_ => W_.rangeAt gu (ou + i * 32) (q.map bv)) [0, 1, 2, 3, 5, 6, 7, 8, 4, 9, 10, 11, 12, 13, 14, 15, 16, 17, 18, 19, 20, 21, 22, 23, 24, 25, 26] [true, true, true, true, true, true, true, true, false, true, true, true, true, true, true, true, true, true, true, true, true, true, true, true, true, true, true] (by kernel_rfl) (by kernel_rfl) (sumsRange (hRow.reads.bel (bdrew (Below.refl _ _))) hs32 hq) ?_
       obtain ⟨w23, hw_⟩ : ∃ w23 : World, w23 = World.drew w19 := ⟨_, rfl⟩
       rw [← hw_]
       have hb : Below w19.heap.size w19 w23 := by rw [hw_]; exact bdrew (Below.refl _ _)
       clear hw_
       have hS := hb
       replace hbw := bthen hbw hb
       replace hd := hd.bel hb
       replace hP := hP.bel hb
       replace hRow := hRow.bel hb
       have hz_w23 := hb.size
       clear hb
       refine oY rfl (fun W_ hW_ => (X.move rfl)) rfl (oY rfl (fun W_ hW_ => (X.eql rfl rfl)) rfl (oY rfl (fun W_ hW_ => (X.mvB (c := false) rfl (decide_eq_false hsp0_))) rfl (oNg (g := 136) rfl rfl rfl rfl (sumsRange hRow.reads hs32 hq) rfl (oNg (g := 136) rfl rfl rfl rfl (sumsRange hRow.reads hs32 hq) rfl (oNg (g := 136) rfl rfl rfl rfl (sumsRange hRow.reads hs32 hq) rfl (oNg (g := 136) rfl rfl rfl rfl (sumsRange hRow.reads hs32 hq) rfl (oNg (g := 136) rfl rfl rfl rfl (sumsRange hRow.reads hs32 hq) rfl (oNg (g := 136) rfl rfl rfl rfl (sumsRange hRow.reads hs32 hq) rfl (oNg (g := 136) rfl rfl rfl rfl (sumsRange hRow.reads hs32 hq) rfl (oY rfl (fun W_ hW_ => (X.pickF rfl rfl)) rfl ?_))))))))))
       refine oY rfl (fun W_ hW_ => (X.mvB (c := false) rfl (rfl))) rfl (oYg (g := 145) rfl rfl rfl rfl (fun W_ hW_ => (X.move rfl)) rfl (oYg (g := 145) rfl rfl rfl rfl (fun W_ hW_ => (X.neq rfl rfl)) rfl (oYg (g := 145) rfl rfl rfl rfl (fun W_ hW_ => (X.mvB (c := true) rfl (decide_eq_true hsp0_))) rfl (oYg (g := 148) rfl rfl rfl rfl (fun W_ hW_ => (X.move rfl)) rfl (oYg (g := 148) rfl rfl rfl rfl (fun W_ hW_ => (X.neS rfl rfl)) rfl (oYg (g := 148) rfl rfl rfl rfl (fun W_ hW_ => (X.mvB (c := false) rfl (decide_eq_false (by rw [(hh.2 hsp0_).1]; simp)))) rfl ?_))))))
       refine oYg (g := 151) rfl rfl rfl rfl (fun W_ hW_ => (X.move rfl)) rfl (oYg (g := 151) rfl rfl rfl rfl (fun W_ hW_ => (X.neq rfl rfl)) rfl (oYg (g := 151) rfl rfl rfl rfl (fun W_ hW_ => (X.mvB (c := false) rfl (decide_eq_false (by rw [hsp1_]; simp)))) rfl ?_))
       refine oNg (g := 154) rfl rfl rfl rfl (sumsRange hRow.reads hs32 hq) rfl (oNg (g := 154) rfl rfl rfl rfl (sumsRange hRow.reads hs32 hq) rfl (oYg (g := 151) rfl rfl rfl rfl (fun W_ hW_ => (X.pickF rfl rfl)) rfl (oYg (g := 148) rfl rfl rfl rfl (fun W_ hW_ => (X.pickF rfl rfl)) rfl (oYg (g := 145) rfl rfl rfl rfl (fun W_ hW_ => (X.pickT rfl rfl)) rfl (oY rfl (fun W_ hW_ => (X.pickF rfl rfl)) rfl (oN (nN (W_no rfl (rfl) (W_skip (bN ?_))))))))))
       refine tN (W_reg (sm rfl rfl (st (X.add64 rfl rfl (by omega)) rfl (sa rfl rfl (Wn (tN ⟨_, _, ?_, ⟨i + 1, rfl, rfl, by omega, hd, hP, hRow, hbw⟩, ⟨rfl, rfl, rfl, trivial⟩⟩))))))
       omega
      ·first | replace h122 := of_decide_eq_false h122 | replace h122 := of_decide_eq_true (notF h122) | replace h122 := notF h122 | skip
       refine W_exit (tE (tE (bH (tN (W_rs (sc _ Tryz.func9 rfl (by kernel_rfl) rfl rfl ((pawake_any _ ((hT.bel hbw).to hbw.size)).mono ?_)))))))
       rintro e_ w24 ⟨rfl, hb⟩
       refine cR ?_
       replace hbw := bthen hbw hb
       replace hd := hd.bel hb
       replace hP := hP.bel hb
       replace hRow := hRow.bel hb
       have hz_w24 := hb.size
       clear hb
       refine sa rfl rfl (Wn (tN (W_ret ?_)))
       exact (rT rfl rfl ⟨rfl, hbw⟩).1
    ·first | replace h102 := of_decide_eq_false h102 | replace h102 := of_decide_eq_true (notF h102) | replace h102 := notF h102 | skip
     refine W_skip (tN (W_seq (W_rs (sa rfl rfl (Wn (tN (W_block (W_lp (fun nw25_ lw25_ w25 => ∃ i : Nat, nw25_ = sums.length - i ∧ lw25_ = ([(10, .slice au sums.length cu), (14, .pointer (some ⟨gp, 0, none⟩)), (19, .int .i64 i)] : Env) ∧ (i ≤ sums.length) ∧ (Own w.heap.size w25 g D S) ∧ (PakAt w25 g gp gx2 gm2 v2 3 xs) ∧ (Row w25 60 32 (.slice au sums.length cu) sums.length (sumsC sums)) ∧ (Below w.heap.size w w25)) _ ⟨_, ⟨0, rfl, rfl, Nat.zero_le _, hd, hP, hRow, hbw⟩, ⟨rfl, rfl, rfl, trivial⟩⟩ ?_))))))))
     clear hd hP hRow hbw
     rintro nw25_ lw25_ w25 ⟨i, rfl, rfl, hi, hd, hP, hRow, hbw⟩
     have hz_w25 := hbw.size
     refine W_seq (W_rs (sm rfl rfl (sm rfl rfl (st (X.lenL rfl rfl Tryz.underlying45) rfl (st (X.lss rfl rfl) rfl (Wn (tN (W_if rfl (fun h122 => ?_) (fun h122 => ?_)))))))))
     ·first | replace h122 := of_decide_eq_true h122 | replace h122 := of_decide_eq_false (notT h122) | replace h122 := notT h122 | skip
      obtain ⟨q, hq⟩ : ∃ q, sums[i]? = some q := ⟨_, List.getElem?_eq_getElem (by omega)⟩
      have hRd := hRow.reads
      obtain ⟨gu, ou, cu', huv, hgu⟩ := hRd.some_ (by omega)
      injection huv with e1 _ e3
      subst e1 e3
      clear hRd
      have hq32 := hs32 q (List.mem_of_getElem? hq)
      have hh := pget_honest (D := D) (n := 3) (l := xs.l) (a := q)
      refine W_skip (tN (W_seq (W_block (W_rs (sm rfl rfl (sm rfl rfl (sm rfl rfl (st (X.idxA rfl rfl Tryz.underlying45 siz60 rfl (by omega)) rfl (st (X.ldN (cs := q.map bv) rfl Tryz.underlying60 rfl (by rw [List.length_map, hq32]; exact siz60) (sumsRange hRow.reads hs32 hq)) rfl ?_)))))))))
      refine sc _ Tryz.func23 rfl (by kernel_rfl) rfl rfl ((pget_any q hP hd.at_ hg.ok (hT.bel hbw) hq32 hEO).mono ?_)
      rintro e_ w26 ⟨rfl, hb⟩
      refine cR ?_
      replace hbw := bthen hbw hb
      replace hd := hd.bel hb
      replace hP := hP.bel hb
      replace hRow := hRow.bel hb
      have hz_w26 := hb.size
      clear hb
      refine sm rfl rfl (st (X.ext rfl rfl) rfl (st (X.ext rfl rfl) rfl (sa rfl rfl (sa rfl rfl (Wn (tN ?_))))))
      by_cases hsp0_ : (pgetM D 3 xs.l q).2 ≠ 0
      rotate_left
      ·refine W_drsN (fun W_ => W_.rangeAt gu (ou + i * 32) (q.map bv)) [0, 1, 2, 3, 5, 6, 7, 8, 4, 9, 10, 11, 12, 13, 14, 15, 16, 17, 18, 19, 20, 21, 22, 23, 24, 25, 26] [true, true, true, true, true, true, true, true, false, true, true, true, true, true, true, true, true, true, true, true, true, true, true, true, true, true, true] (by kernel_rfl) (by kernel_rfl) (sumsRange (hRow.reads.bel (bdrew (Below.refl _ _))) hs32 hq) ?_
       obtain ⟨w27, hw_⟩ : ∃ w27 : World, w27 = World.drew w26 := ⟨_, rfl⟩
       rw [← hw_]
       have hb : Below w26.heap.size w26 w27 := by rw [hw_]; exact bdrew (Below.refl _ _)
       clear hw_
       have hS := hb
       replace hbw := bthen hbw hb
       replace hd := hd.bel hb
       replace hP := hP.bel hb
       replace hRow := hRow.bel hb
       have hz_w27 := hb.size
       clear hb
       refine oY rfl (fun W_ hW_ => (X.move rfl)) rfl (oY rfl (fun W_ hW_ => (X.eql rfl rfl)) rfl (oY rfl (fun W_ hW_ => (X.mvB (c := true) rfl (decide_eq_true (Decidable.of_not_not hsp0_)))) rfl (oYg (g := 136) rfl rfl rfl rfl (fun W_ hW_ => (X.move rfl)) rfl (oYg (g := 136) rfl rfl rfl rfl (fun W_ hW_ => (X.move rfl)) rfl (oYg (g := 136) rfl rfl rfl rfl (fun W_ hW_ => (X.move rfl)) rfl (oYg (g := 136) rfl rfl rfl rfl (fun W_ hW_ => (X.idxA rfl rfl Tryz.underlying45 siz60 rfl (by omega))) rfl (oYg (g := 136) rfl rfl rfl rfl (fun W_ hW_ => (X.ldN (cs := q.map bv) rfl Tryz.underlying60 rfl (by rw [List.length_map, hq32]; exact siz60) hW_)) rfl ?_)))))))
       refine oL rfl (fun Q_ hQ_ hP_ => (gY (g := 136) rfl rfl rfl (sc _ Tryz.func24 rfl (by kernel_rfl) rfl rfl ((Of_list _ _ (hT.bel hbw).sha (Nat.le_trans (pget_len hg.ok _ _ _) (by decide))).mono ?_))))
       rintro e_ w28 ⟨rfl, hb⟩
       refine cR ?_
       replace hbw := bthen hbw hb
       replace hd := hd.bel hb
       replace hP := hP.bel hb
       replace hRow := hRow.bel hb
       have hz_w28 := hb.size
       clear hb
       refine Wn (hQ_ _ _ (sumsRange hRow.reads hs32 hq) ?_)
       clear hQ_ hP_ Q_
       refine oYg (g := 136) rfl rfl rfl rfl (fun W_ hW_ => (X.neSumF (sha_length _) hq32 rfl rfl)) rfl (oY rfl (fun W_ hW_ => (X.pickT rfl rfl)) rfl (oY rfl (fun W_ hW_ => (X.mvB (c := false) rfl ((by rw [hh.1 (Decidable.of_not_not hsp0_)]; simp)))) rfl ?_))
       refine oYg (g := 145) rfl rfl rfl rfl (fun W_ hW_ => (X.move rfl)) rfl (oYg (g := 145) rfl rfl rfl rfl (fun W_ hW_ => (X.neq rfl rfl)) rfl (oYg (g := 145) rfl rfl rfl rfl (fun W_ hW_ => (X.mvB (c := false) rfl (decide_eq_false hsp0_))) rfl (oNg (g := 148) rfl rfl rfl rfl (sumsRange hRow.reads hs32 hq) rfl (oNg (g := 148) rfl rfl rfl rfl (sumsRange hRow.reads hs32 hq) rfl (oNg (g := 148) rfl rfl rfl rfl (sumsRange hRow.reads hs32 hq) rfl (oNu (g := 151) rfl rfl rfl rfl (sumsRange hRow.reads hs32 hq) rfl (oNu (g := 151) rfl rfl rfl rfl (sumsRange hRow.reads hs32 hq) rfl (oNu (g := 151) rfl rfl rfl rfl (sumsRange hRow.reads hs32 hq) rfl (oNu (g := 154) rfl rfl rfl rfl (sumsRange hRow.reads hs32 hq) rfl (oNu (g := 154) rfl rfl rfl rfl (sumsRange hRow.reads hs32 hq) rfl ?_))))))))))
       refine oNu (g := 151) rfl rfl rfl rfl (sumsRange hRow.reads hs32 hq) rfl (oNg (g := 148) rfl rfl rfl rfl (sumsRange hRow.reads hs32 hq) rfl (oYg (g := 145) rfl rfl rfl rfl (fun W_ hW_ => (X.pickF rfl rfl)) rfl (oY rfl (fun W_ hW_ => (X.pickF rfl rfl)) rfl (oN (nN (W_no rfl (rfl) (W_skip (bN (tN (W_reg ?_))))))))))
       refine sm rfl rfl (st (X.add64 rfl rfl (by omega)) rfl (sa rfl rfl (Wn (tN ⟨_, _, ?_, ⟨i + 1, rfl, rfl, by omega, hd, hP, hRow, hbw⟩, ⟨rfl, rfl, rfl, trivial⟩⟩))))
       omega
      by_cases hsp1_ : (pgetM D 3 xs.l q).2 = 35
      rotate_left
      ·refine W_drsN (fun W_ => W_.rangeAt gu (ou + i * 32) (q.map bv)) [0, 1, 2, 3, 5, 6, 7, 8, 4, 9, 10, 11, 12, 13, 14, 15, 16, 17, 18, 19, 20, 21, 22, 23, 24, 25, 26] [true, true, true, true, true, true, true, true, false, true, true, true, true, true, true, true, true, true, true, true, true, true, true, true, true, true, true] (by kernel_rfl) (by kernel_rfl) (sumsRange (hRow.reads.bel (bdrew (Below.refl _ _))) hs32 hq) ?_
       obtain ⟨w29, hw_⟩ : ∃ w29 : World, w29 = World.drew w26 := ⟨_, rfl⟩
       rw [← hw_]
       have hb : Below w26.heap.size w26 w29 := by rw [hw_]; exact bdrew (Below.refl _ _)
       clear hw_
       have hS := hb
       replace hbw := bthen hbw hb
       replace hd := hd.bel hb
       replace hP := hP.bel hb
       replace hRow := hRow.bel hb
       have hz_w29 := hb.size
       clear hb
       refine oY rfl (fun W_ hW_ => (X.move rfl)) rfl (oY rfl (fun W_ hW_ => (X.eql rfl rfl)) rfl (oY rfl (fun W_ hW_ => (X.mvB (c := false) rfl (decide_eq_false hsp0_))) rfl (oNg (g := 136) rfl rfl rfl rfl (sumsRange hRow.reads hs32 hq) rfl (oNg (g := 136) rfl rfl rfl rfl (sumsRange hRow.reads hs32 hq) rfl (oNg (g := 136) rfl rfl rfl rfl (sumsRange hRow.reads hs32 hq) rfl (oNg (g := 136) rfl rfl rfl rfl (sumsRange hRow.reads hs32 hq) rfl (oNg (g := 136) rfl rfl rfl rfl (sumsRange hRow.reads hs32 hq) rfl (oNg (g := 136) rfl rfl rfl rfl (sumsRange hRow.reads hs32 hq) rfl (oNg (g := 136) rfl rfl rfl rfl (sumsRange hRow.reads hs32 hq) rfl (oY rfl (fun W_ hW_ => (X.pickF rfl rfl)) rfl ?_))))))))))
       refine oY rfl (fun W_ hW_ => (X.mvB (c := false) rfl (rfl))) rfl (oYg (g := 145) rfl rfl rfl rfl (fun W_ hW_ => (X.move rfl)) rfl (oYg (g := 145) rfl rfl rfl rfl (fun W_ hW_ => (X.neq rfl rfl)) rfl (oYg (g := 145) rfl rfl rfl rfl (fun W_ hW_ => (X.mvB (c := true) rfl (decide_eq_true hsp0_))) rfl (oYg (g := 148) rfl rfl rfl rfl (fun W_ hW_ => (X.move rfl)) rfl (oYg (g := 148) rfl rfl rfl rfl (fun W_ hW_ => (X.neS rfl rfl)) rfl (oYg (g := 148) rfl rfl rfl rfl (fun W_ hW_ => (X.mvB (c := false) rfl (decide_eq_false (by rw [(hh.2 hsp0_).1]; simp)))) rfl ?_))))))
       refine oYg (g := 151) rfl rfl rfl rfl (fun W_ hW_ => (X.move rfl)) rfl (oYg (g := 151) rfl rfl rfl rfl (fun W_ hW_ => (X.neq rfl rfl)) rfl (oYg (g := 151) rfl rfl rfl rfl (fun W_ hW_ => (X.mvB (c := true) rfl (decide_eq_true hsp1_))) rfl (oYg (g := 154) rfl rfl rfl rfl (fun W_ hW_ => (X.move rfl)) rfl (oYg (g := 154) rfl rfl rfl rfl (fun W_ hW_ => (X.neq rfl rfl)) rfl (oYg (g := 151) rfl rfl rfl rfl (fun W_ hW_ => (X.pickT rfl rfl)) rfl (oYg (g := 148) rfl rfl rfl rfl (fun W_ hW_ => (X.pickF rfl rfl)) rfl (oYg (g := 145) rfl rfl rfl rfl (fun W_ hW_ => (X.pickT rfl rfl)) rfl (oY rfl (fun W_ hW_ => (X.pickF rfl rfl)) rfl (oN (nN ?_))))))))))
       refine W_no rfl (decide_eq_false (by rw [pget_code hsp0_ hsp1_]; simp)) ?_
       refine W_skip (bN (tN (W_reg (sm rfl rfl (st (X.add64 rfl rfl (by omega)) rfl (sa rfl rfl (Wn (tN ⟨_, _, ?_, ⟨i + 1, rfl, rfl, by omega, hd, hP, hRow, hbw⟩, ⟨rfl, rfl, rfl, trivial⟩⟩))))))))
       omega
      refine W_drsN (fun W_ => W_.rangeAt gu (ou + i * 32) (q.map bv)) [0, 1, 2, 3, 5, 6, 7, 8, 4, 9, 10, 11, 12, 13, 14, 15, 16, 17, 18, 19, 20, 21, 22, 23, 24, 25, 26] [true, true, true, true, true, true, true, true, false, true, true, true, true, true, true, true, true, true, true, true, true, true, true, true, true, true, true] (by kernel_rfl) (by kernel_rfl) (sumsRange (hRow.reads.bel (bdrew (Below.refl _ _))) hs32 hq) ?_
      obtain ⟨w30, hw_⟩ : ∃ w30 : World, w30 = World.drew w26 := ⟨_, rfl⟩
      rw [← hw_]
      have hb : Below w26.heap.size w26 w30 := by rw [hw_]; exact bdrew (Below.refl _ _)
      clear hw_
      have hS := hb
      replace hbw := bthen hbw hb
      replace hd := hd.bel hb
      replace hP := hP.bel hb
      replace hRow := hRow.bel hb
      have hz_w30 := hb.size
      clear hb
      refine oY rfl (fun W_ hW_ => (X.move rfl)) rfl (oY rfl (fun W_ hW_ => (X.eql rfl rfl)) rfl (oY rfl (fun W_ hW_ => (X.mvB (c := false) rfl (decide_eq_false hsp0_))) rfl (oNg (g := 136) rfl rfl rfl rfl (sumsRange hRow.reads hs32 hq) rfl (oNg (g := 136) rfl rfl rfl rfl (sumsRange hRow.reads hs32 hq) rfl (oNg (g := 136) rfl rfl rfl rfl (sumsRange hRow.reads hs32 hq) rfl (oNg (g := 136) rfl rfl rfl rfl (sumsRange hRow.reads hs32 hq) rfl (oNg (g := 136) rfl rfl rfl rfl (sumsRange hRow.reads hs32 hq) rfl (oNg (g := 136) rfl rfl rfl rfl (sumsRange hRow.reads hs32 hq) rfl (oNg (g := 136) rfl rfl rfl rfl (sumsRange hRow.reads hs32 hq) rfl (oY rfl (fun W_ hW_ => (X.pickF rfl rfl)) rfl ?_))))))))))
      refine oY rfl (fun W_ hW_ => (X.mvB (c := false) rfl (rfl))) rfl (oYg (g := 145) rfl rfl rfl rfl (fun W_ hW_ => (X.move rfl)) rfl (oYg (g := 145) rfl rfl rfl rfl (fun W_ hW_ => (X.neq rfl rfl)) rfl (oYg (g := 145) rfl rfl rfl rfl (fun W_ hW_ => (X.mvB (c := true) rfl (decide_eq_true hsp0_))) rfl (oYg (g := 148) rfl rfl rfl rfl (fun W_ hW_ => (X.move rfl)) rfl (oYg (g := 148) rfl rfl rfl rfl (fun W_ hW_ => (X.neS rfl rfl)) rfl (oYg (g := 148) rfl rfl rfl rfl (fun W_ hW_ => (X.mvB (c := false) rfl (decide_eq_false (by rw [(hh.2 hsp0_).1]; simp)))) rfl ?_))))))
      refine oYg (g := 151) rfl rfl rfl rfl (fun W_ hW_ => (X.move rfl)) rfl (oYg (g := 151) rfl rfl rfl rfl (fun W_ hW_ => (X.neq rfl rfl)) rfl (oYg (g := 151) rfl rfl rfl rfl (fun W_ hW_ => (X.mvB (c := false) rfl (decide_eq_false (by rw [hsp1_]; simp)))) rfl ?_))
      refine oNg (g := 154) rfl rfl rfl rfl (sumsRange hRow.reads hs32 hq) rfl (oNg (g := 154) rfl rfl rfl rfl (sumsRange hRow.reads hs32 hq) rfl (oYg (g := 151) rfl rfl rfl rfl (fun W_ hW_ => (X.pickF rfl rfl)) rfl (oYg (g := 148) rfl rfl rfl rfl (fun W_ hW_ => (X.pickF rfl rfl)) rfl (oYg (g := 145) rfl rfl rfl rfl (fun W_ hW_ => (X.pickT rfl rfl)) rfl (oY rfl (fun W_ hW_ => (X.pickF rfl rfl)) rfl (oN (nN (W_no rfl (rfl) (W_skip (bN ?_))))))))))
      refine tN (W_reg (sm rfl rfl (st (X.add64 rfl rfl (by omega)) rfl (sa rfl rfl (Wn (tN ⟨_, _, ?_, ⟨i + 1, rfl, rfl, by omega, hd, hP, hRow, hbw⟩, ⟨rfl, rfl, rfl, trivial⟩⟩))))))
      omega
     ·first | replace h122 := of_decide_eq_false h122 | replace h122 := of_decide_eq_true (notF h122) | replace h122 := notF h122 | skip
      refine W_exit (tE (tE (bH (tN (W_rs (sc _ Tryz.func9 rfl (by kernel_rfl) rfl rfl ((pawake_any _ ((hT.bel hbw).to hbw.size)).mono ?_)))))))
      rintro e_ w31 ⟨rfl, hb⟩
      refine cR ?_
      replace hbw := bthen hbw hb
      replace hd := hd.bel hb
      replace hP := hP.bel hb
      replace hRow := hRow.bel hb
      have hz_w31 := hb.size
      clear hb
      refine sa rfl rfl (Wn (tN (W_ret ?_)))
      exact (rT rfl rfl ⟨rfl, hbw⟩).1
end Go.Proofs.YtnlabkogebnioaaGreatDoor
namespace Go.Proofs.YtnlabkogebnioaaGreatDoor
open Go.ChangeShapes Go.WideShapes Go.ChangeAt Go.RowKit Sha Go.Shelf
def kInts : List Int := [1116352408, 1899447441, 3049323471, 3921009573, 961987163, 1508970993, 2453635748, 2870763221, 3624381080, 310598401, 607225278, 1426881987, 1925078388, 2162078206, 2614888103, 3248222580, 3835390401, 4022224774, 264347078, 604807628, 770255983, 1249150122, 1555081692, 1996064986, 2554220882, 2821834349, 2952996808, 3210313671, 3336571891, 3584528711, 113926993, 338241895, 666307205, 773529912, 1294757372, 1396182291, 1695183700, 1986661051, 2177026350, 2456956037, 2730485921, 2820302411, 3259730800, 3345764771, 3516065817, 3600352804, 4094571909, 275423344, 430227734, 506948616, 659060556, 883997877, 958139571, 1322822218, 1537002063, 1747873779, 1955562222, 2024104815, 2227730452, 2361852424, 2428436474, 2756734187, 3204031479, 3329325298]
def bInts : List Int := [1779033703, 3144134277, 1013904242, 2773480762, 1359893119, 2600822924, 528734635, 1541459225]
def pInts : List Int := [1, 10, 100, 1000, 10000, 100000, 1000000, 10000000, 100000000, 1000000000, 10000000000, 100000000000, 1000000000000, 10000000000000, 100000000000000, 1000000000000000, 10000000000000000, 100000000000000000, 1000000000000000000, 10000000000000000000]
theorem gK : Tryz.prog.globalNamed "armarium/sha.k" = some 1 := by kernel_rfl
theorem gKt : (Tryz.prog.globals[1]?).map (·.type) = some 226 := by kernel_rfl
theorem gB : Tryz.prog.globalNamed "armarium/sha.begin" = some 0 := by kernel_rfl
theorem gBt : (Tryz.prog.globals[0]?).map (·.type) = some 179 := by kernel_rfl
theorem gPt : (Tryz.prog.globals[2]?).map (·.type) = some 286 := by kernel_rfl
theorem tabs_of_laid {W : World} (h : laidMetH Tryz.prog [("math/bits.deBruijn32tab", Rows.laid_math_bits_deBruijn32tab), ("math/bits.deBruijn64tab", Rows.laid_math_bits_deBruijn64tab), ("internal/strconv.uint64pow10", Rows.laid_internal_strconv_uint64pow10), ("unicode/utf8.acceptRanges", Rows.laid_unicode_utf8_acceptRanges), ("armarium/sha.k", Rows.laid_armarium_sha_k), ("armarium/sha.begin", Rows.laid_armarium_sha_begin), ("unicode/utf8.first", Rows.laid_unicode_utf8_first)] W) : PTabs W.heap.size W := by
 have h1 : Lib.TabIs Tryz.prog W "armarium/sha.k" .u32 kInts := Lib.tabIs_of_head (rest := [("armarium/sha.begin", Rows.laid_armarium_sha_begin), ("unicode/utf8.first", Rows.laid_unicode_utf8_first)]) gK gKt Tryz.underlying226 Tryz.underlying145 (by kernel_rfl) (by kernel_rfl) (laidMet.tail (laidMet.tail (laidMet.tail (laidMet.tail h))))
 have h2 : Lib.TabIs Tryz.prog W "armarium/sha.begin" .u32 bInts := Lib.tabIs_of_head (rest := [("unicode/utf8.first", Rows.laid_unicode_utf8_first)]) gB gBt Tryz.underlying179 Tryz.underlying145 (by kernel_rfl) (by kernel_rfl) (laidMet.tail (laidMet.tail (laidMet.tail (laidMet.tail (laidMet.tail h)))))
 have h3 : Lib.TabIs Tryz.prog W "internal/strconv.uint64pow10" .u64 pInts := Lib.tabIs_of_head (rest := [("unicode/utf8.acceptRanges", Rows.laid_unicode_utf8_acceptRanges), ("armarium/sha.k", Rows.laid_armarium_sha_k), ("armarium/sha.begin", Rows.laid_armarium_sha_begin), ("unicode/utf8.first", Rows.laid_unicode_utf8_first)]) gPow gPt Tryz.underlying286 Tryz.underlying165 (by kernel_rfl) (by kernel_rfl) (laidMet.tail (laidMet.tail h))
 have hk : ∀ j, j < 64 → W.cell? ⟨1, j, none⟩ = some (.int .u32 (kTab.getD j 0).toNat) := fun j hj => by
  rw [h1.cell gK j hj]
  have e : ∀ j : Fin 64, kInts.getD j.val 0 = ((kTab.getD j.val 0).toNat : Int) := by decide +kernel
  rw [e ⟨j, hj⟩]
 have hb : ∀ j, W.cell? ⟨0, j, none⟩ = (stCells begin_)[j]? := fun j => by
  have := World.var?_cell gB h2 j
  rw [this]
  rfl
 have hp : PowTab W := by
  have e : pInts = Lib.pow10Tab := by decide +kernel
  rw [e] at h3
  exact h3
 have l1 := World.block_lt_of_cell? W ⟨1, 0, none⟩ (hk 0 (by omega))
 have l2 := World.block_lt_of_cell? W ⟨0, 0, none⟩ ((hb 0).trans rfl)
 have l3 : 2 < W.heap.size := by
  have := h3.cell gPow 0 (by decide)
  exact World.block_lt_of_cell? W ⟨2, 0, none⟩ this
 exact ⟨⟨hk, hb, l1, l2⟩, hp, l1, l2, l3⟩
noncomputable def laidWorld (os : Os) : World := { World.holding Tryz.prog os ⟨#[], #[], []⟩ with heap := ((((((((World.holding Tryz.prog os ⟨#[], #[], []⟩).heap.modify 5 (laying (([0, 1, 28, 2, 29, 14, 24, 3, 30, 22, 20, 15, 25, 17, 4, 8, 31, 27, 13, 23, 21, 19, 16, 7, 26, 12, 18, 6, 11, 5, 10, 9] : List Int).map fun z => Value.int .u8 z).toArray)).modify 6 (laying (([0, 1, 56, 2, 57, 49, 28, 3, 61, 58, 42, 50, 38, 29, 17, 4, 62, 47, 59, 36, 45, 43, 51, 22, 53, 39, 33, 30, 24, 18, 12, 5, 63, 55, 48, 27, 60, 41, 37, 16, 46, 35, 44, 21, 52, 32, 23, 11, 54, 26, 40, 15, 34, 20, 31, 10, 25, 14, 19, 9, 13, 8, 7, 6] : List Int).map fun z => Value.int .u8 z).toArray)).modify 2 (laying (pInts.map fun z => Value.int .u64 z).toArray)).modify 4 (laying ((List.range 16).flatMap fun i => [Value.int .u8 (Lib.accLo i), Value.int .u8 (Lib.accHi i)]).toArray)).modify 1 (laying (kInts.map fun z => Value.int .u32 z).toArray)).modify 0 (laying (bInts.map fun z => Value.int .u32 z).toArray)).modify 3 (laying (Lib.firstTab.map fun z => Value.int .u8 z).toArray)) }
end Go.Proofs.YtnlabkogebnioaaGreatDoor
