/- refs: Diff; what nil counts answer; the law RefsNil. -/
import Derived.Test.YtnagmpnpgekhfaaRefsUnps
namespace Go.Proofs.Ytnagmpnpgekhfaa
open Go.RowKit
theorem Add_nil (v : Value) (w : World) : Calls Try.prog 26 #[.pointer none, v] w fun e w' => e = .returned (.tuple #[.slice none 0 0, .int .i64 2]) ∧ Below w.heap.size w w' := by
  refine W_enter (args := [.pointer none, v]) 85 Try.func26 rfl rfl rfl ?_
  refine W_sub [(0, .pointer none), (1, v)] ?_ ⟨rfl, rfl, trivial⟩
  have hbw := Below.refl w.heap.size w
  refine W_rs ?_
  refine sa rfl rfl ?_
  refine sa rfl rfl ?_
  refine Wn ?_
  refine tN ?_
  refine W_seq ?_
  refine W_rs ?_
  refine sm rfl rfl ?_
  refine st (X.nilN rfl) rfl ?_
  refine Wn ?_
  refine tN ?_
  refine W_yes rfl (rfl) ?_
  refine W_rs ?_
  refine sa rfl rfl ?_
  refine sa rfl rfl ?_
  refine Wn ?_
  refine tN ?_
  refine W_ret (tR ?_)
  exact (rTT rfl rfl rfl ⟨rfl, hbw⟩).1
theorem Copy_nil (w : World) : Calls Try.prog 39 #[.pointer none] w fun e w' => e = .returned (.pointer none) ∧ Below w.heap.size w w' := by
  refine W_enter (args := [.pointer none]) 12 Try.func39 rfl rfl rfl ?_
  refine W_sub [(0, .pointer none)] ?_ ⟨rfl, trivial⟩
  have hbw := Below.refl w.heap.size w
  refine W_rs ?_
  refine sa rfl rfl ?_
  refine Wn ?_
  refine tN ?_
  refine W_seq ?_
  refine W_rs ?_
  refine sm rfl rfl ?_
  refine st (X.nilN rfl) rfl ?_
  refine Wn ?_
  refine tN ?_
  refine W_yes rfl (rfl) ?_
  refine W_rs ?_
  refine sa rfl rfl ?_
  refine Wn ?_
  refine tN ?_
  refine W_ret (tR ?_)
  exact (rT rfl rfl ⟨rfl, hbw⟩).1
def negC (c : Chk) : Chk := ⟨c.sum, -c.len⟩
/-- what All answers, from here on -/
def AllC (p : Option Addr) (l : List Chk) (w : World) : Prop := ∀ w', Below w.heap.size w w' → Calls Try.prog 28 #[.pointer p] w' fun e w'' => ∃ v, e = .returned v ∧ Row w'' 57 33 v l.length (l.flatMap Chk.cells) ∧ (∀ k, v.ownBlock = some k → w'.heap.size ≤ k) ∧ Below w'.heap.size w' w''
theorem AllC.none (w : World) : AllC .none [] w := fun w' _ => (All_nil w').mono fun _ _ ⟨h1, h2⟩ => ⟨_, h1, Row.nil _ _ _, fun k hk => by simp [Value.ownBlock] at hk, h2⟩
theorem AllC.some {g b : Nat} {x : List Chk} {w : World} (h : CountsAt w g b x) (hc : Cnts x) (hl : x.length ≤ 1000000) : AllC (.some ⟨g, 0, .none⟩) x w := fun w' hb => by
  have := All_any g b x w' (h.bel hb) hc.sum hl
  rwa [hc.net] at this
set_option maxRecDepth 10000 in
theorem Diff_of (pf pt : Option Addr) (lf lt : List Chk) (w : World) (hT : AllC pt lt w) (hF : AllC pf lf w) (hl : lf.length ≤ 100000) (ht : lt.length ≤ 100000)
    (bf : ∀ c ∈ lf, c.sum.length = 32 ∧ -2147483647 ≤ c.len ∧ c.len ≤ 2147483647) (bt : ∀ c ∈ lt, c.sum.length = 32 ∧ -2147483647 ≤ c.len ∧ c.len ≤ 2147483647) :
    Calls Try.prog 37 #[.pointer pf, .pointer pt] w fun e w' => ∃ v, e = .returned v ∧ Row w' 57 33 v (netM (lt ++ lf.map negC)).length ((netM (lt ++ lf.map negC)).flatMap Chk.cells) ∧ (∀ k, v.ownBlock = some k → w.heap.size ≤ k) ∧ Below w.heap.size w w' := by
  refine W_enter (args := [.pointer pf, .pointer pt]) 29 Try.func37 rfl rfl rfl ?_
  refine W_sub [(0, .pointer pf), (1, .pointer pt)] ?_ ⟨rfl, rfl, trivial⟩
  have hbw := Below.refl w.heap.size w
  refine W_rs ?_
  refine sa rfl rfl ?_
  refine Wn ?_
  refine tN ?_
  refine W_rs ?_
  refine sm rfl rfl ?_
  refine sc _ Try.func28 rfl (by kernel_rfl) rfl rfl ((hT _ hbw).mono ?_)
  rintro e_ w1 ⟨vt, rfl, hR, hO, hb⟩
  refine cR ?_
  replace hbw := bthen hbw hb
  have hz_w1 := hb.size
  clear hb
  have h5l := hR.own_lt
  refine sa rfl rfl ?_
  refine Wn ?_
  refine tN ?_
  refine W_seq ?_
  refine W_rs ?_
  refine sm rfl rfl ?_
  refine sc _ Try.func28 rfl (by kernel_rfl) rfl rfl ((hF _ hbw).mono ?_)
  rintro e_ w2 ⟨vf, rfl, hRf, hOf, hb⟩
  refine cR ?_
  have hpend := hb
  replace hbw := bthen hbw hb
  have hz_w2 := hb.size
  clear hb
  replace hR := hR.bel hpend
  clear hpend
  obtain ⟨a, cp, rfl, hnn, hcp⟩ := hRf.shape
  have hsep : ∀ k, vt.ownBlock = some k → ¬ (Value.slice a lf.length cp).ownBlock = some k := fun k h1 h2 => by have := h5l k h1; have := hOf k h2; omega
  have hRt : Row w2 57 33 vt (lt ++ (lf.take 0).map negC).length ((lt ++ (lf.take 0).map negC).flatMap Chk.cells) := by rw [List.take_zero, List.map_nil, List.append_nil]; exact hR
  refine st (X.lenL rfl rfl Try.underlying22) rfl ?_
  refine sm rfl rfl ?_
  refine Wn ?_
  refine tN ?_
  refine W_block ?_
  refine W_lp (fun nw3_ lw3_ w3 => ∃ j : Nat, ∃ v5 : Value, nw3_ = lf.length - j ∧ lw3_ = ([(5, v5), (11, .slice a lf.length cp), (12, .int .i64 lf.length), (13, .int .i64 j)] : Env) ∧ (j ≤ lf.length) ∧ (Row w3 57 33 v5 (lt ++ (lf.take j).map negC).length ((lt ++ (lf.take j).map negC).flatMap Chk.cells)) ∧ (Row w3 57 33 (.slice a lf.length cp) lf.length (lf.flatMap Chk.cells)) ∧ (∀ k, v5.ownBlock = some k → w.heap.size ≤ k) ∧ (∀ k, v5.ownBlock = some k → ¬ (Value.slice a lf.length cp).ownBlock = some k) ∧ (Below w.heap.size w w3)) _ ⟨_, ⟨0, vt, rfl, rfl, by omega, hRt, hRf, hO, hsep, hbw⟩, ⟨rfl, rfl, rfl, rfl, trivial⟩⟩ ?_
  clear hRf hO hsep hbw
  rintro nw3_ lw3_ w3 ⟨j, v5, rfl, rfl, hj, hR, hRf, hO, hsep, hbw⟩
  have hz_w3 := hbw.size
  refine W_rs ?_
  refine st (X.lss rfl rfl) rfl ?_
  refine Wn ?_
  refine tN ?_
  refine W_seq ?_
  refine W_if rfl (fun h14 => ?_) (fun h14 => ?_)
  · first | replace h14 := of_decide_eq_true h14 | replace h14 := of_decide_eq_false (notT h14) | replace h14 := notT h14 | skip
    obtain ⟨x, hx⟩ : ∃ x, lf[j]? = some x := ⟨_, List.getElem?_eq_getElem (by omega)⟩
    have hxb := bf x (List.mem_of_getElem? hx)
    have hxs := hxb.1
    have hRe := hRf.reads
    obtain ⟨g1, o1, c', hv, hg1⟩ := hRe.some_ (by omega)
    injection hv with e1 _ e3
    subst e1 e3
    refine W_skip ?_
    refine tN ?_
    refine W_seq ?_
    refine W_block ?_
    refine W_rs ?_
    refine st (X.idxA rfl rfl Try.underlying22 siz57 rfl (by omega)) rfl ?_
    refine st (X.ldN (cs := x.cells) rfl Try.underlying57 rfl (by rw [Chk.cells_length hxs]; exact siz57) ((show ChksAt _ _ lf from ⟨hRe, fun c hc => (bf c hc).1⟩).range hx)) rfl ?_
    refine salA inf57 rfl (fun g7 w4 hB7 hg7 hb hl7 => ?_)
    have hpend := hb
    replace hbw := bthen hbw hb
    have hz_w4 := hb.size
    clear hb
    refine ssBN rfl rfl hB7 (by rw [Chk.size hxs]; exact siz57) (by rw [Chk.size hxs]; rfl) (Chk.cells_one x) (fun w5 hB_ hc_ => ?_)
    replace hB7 := hB_
    clear hB_
    replace hpend := bset hpend hc_ (by omega)
    replace hbw := bset hbw hc_ (by omega)
    have hz_w5 := hc_.size
    clear hc_
    refine Wn ?_
    refine tN ?_
    refine W_reg ?_
    refine sm rfl rfl ?_
    refine st (X.fa fa57_0 rfl) rfl ?_
    refine st (X.ldN (cs := x.sum.map bv) rfl Try.underlying36 rfl (by rw [List.length_map, hxs]; exact siz36) (sumRange hB7.range)) rfl ?_
    refine st (X.fa fa57_1 rfl) rfl ?_
    refine st (X.ldB rfl hB7 Try.underlying3 rfl (Chk.cells_len hxs)) rfl ?_
    refine st (X.neg rfl (show IntKind.i64.wrap (0 - x.len) = -x.len by rw [w64 (by omega)]; omega)) rfl ?_
    refine st (X.bld rfl (bdelta x.sum hxs (-x.len) _)) rfl ?_
    replace hR := hR.bel hpend
    replace hRf := hRf.bel hpend
    clear hpend
    refine sbs1 rfl Try.underlying22 inf57 (Chk.size (c := ⟨x.sum, -x.len⟩) hxs) rfl (by decide) (by decide) rfl (fun g24 w6 hR24 hg24 hb => ?_)
    replace hbw := bthen hbw hb
    replace hR := hR.bel hb
    replace hRf := hRf.bel hb
    have hz57 := hb.size
    clear hb
    refine sapp rfl rfl Try.underlying22 inf57 rfl (by decide) hR (hR24.reads.src Try.underlying22 (fun u hu => by have := Chk.cells_one ⟨x.sum, -x.len⟩; rw [List.all_eq_true] at this; exact this u hu)) (by rw [List.length_append, List.length_map, List.length_take]; simp only [maxLen]; omega) (by rw [List.length_append, List.length_map, List.length_take]; omega) rfl (fun v5' w7 hR' hC hv' => ?_)
    have hfl := hRf.own_lt
    replace hbw := bapp hbw hC hO
    replace hRf := hRf.chg hC (fun k hk e => hsep k e hk)
    have hsep' : ∀ k, v5'.ownBlock = some k → ¬ (Value.slice (some ⟨g1, o1, none⟩) lf.length cp).ownBlock = some k := fun k hk h2 => by rcases hv' with e | e; exact hsep k (by rw [← e]; exact hk) h2; rw [e] at hk; injection hk with hk; have := hfl k h2; omega
    replace hO := own_next hv' hO (by omega)
    replace hR' : Row w7 57 33 v5' (lt ++ (lf.take (j + 1)).map negC).length ((lt ++ (lf.take (j + 1)).map negC).flatMap Chk.cells) := by
      rw [take_next' hx, List.map_append, ← List.append_assoc, List.length_append, List.flatMap_append, show (List.map negC [x]).flatMap Chk.cells = Chk.cells ⟨x.sum, -x.len⟩ by simp [negC]]
      exact hR'
    have hz58 := hC.size
    clear hC hv'
    refine sa rfl rfl ?_
    refine Wn ?_
    refine bN ?_
    refine tN ?_
    refine W_reg ?_
    refine st (X.add64 rfl rfl (by omega)) rfl ?_
    refine sm rfl rfl ?_
    refine Wn ?_
    refine tN ⟨_, _, ?_, ⟨j + 1, v5', rfl, rfl, by omega, hR', hRf, hO, hsep', hbw⟩, ⟨rfl, rfl, rfl, rfl, trivial⟩⟩
    omega
  · first | replace h14 := of_decide_eq_false h14 | replace h14 := of_decide_eq_true (notF h14) | replace h14 := notF h14 | skip
    obtain rfl : j = lf.length := by omega
    rw [List.take_length] at hR
    have hb32 : ∀ c ∈ lt ++ lf.map negC, c.sum.length = 32 ∧ -2147483647 ≤ c.len ∧ c.len ≤ 2147483647 := fun c hc => by
      rcases List.mem_append.1 hc with h | h
      · exact bt c h
      · obtain ⟨d, hd, rfl⟩ := List.mem_map.1 h
        have := bf d hd
        exact ⟨this.1, by show -2147483647 ≤ -d.len; omega, by show -d.len ≤ 2147483647; omega⟩
    refine W_exit (tE (tE (bH ?_)))
    refine tN ?_
    refine W_rs ?_
    refine sm rfl rfl ?_
    refine sc _ Try.func23 rfl (by kernel_rfl) rfl rfl ((Net_any v5 (lt ++ lf.map negC) _ ⟨hR.reads, fun c hc => (hb32 c hc).1⟩ (by rw [List.length_append, List.length_map]; omega) (fun c hc => by have := hb32 c hc; omega)).mono ?_)
    rintro e_ w8 ⟨v, rfl, hRn, hOn, hb⟩
    refine cR ?_
    have hpend := hb
    replace hbw := bthen hbw hb
    have hz_w8 := hb.size
    clear hb
    refine sa rfl rfl ?_
    refine Wn ?_
    refine tN ?_
    replace hR := hR.bel hpend
    replace hRf := hRf.bel hpend
    clear hpend
    refine W_ret ?_
    exact (rT rfl rfl ⟨_, rfl, hRn, fun k hk => by have := hOn k hk; omega, hbw⟩).1
theorem packed_nil : str (packedM []) = str [0, 0, 0, 0] := rfl
set_option maxRecDepth 10000 in
theorem RefsNil_walk (w : World) (v : Value) (l : List Chk) (h : ChksAt w v l) (s : List UInt8) (hs : s.length = 32) : Calls Try.prog 6 #[v, .agg (s.map bv).toArray] w fun e w' => e = .returned (.bool true) ∧ Below w.heap.size w w' := by
  obtain ⟨a, cp, rfl, hn, hcp⟩ := h.1.shape
  refine W_enter (args := [.slice a l.length cp, .agg (s.map bv).toArray]) 65 Try.func6 rfl rfl rfl ?_
  refine W_sub [(0, .slice a l.length cp), (1, .agg (s.map bv).toArray)] ?_ ⟨rfl, rfl, trivial⟩
  have hbw := Below.refl w.heap.size w
  refine W_rs ?_
  refine sboxA rfl rfl (fun g3 w1 hB3 hg3 hb hl3 => ?_)
  replace hbw := bthen hbw hb
  have hz_w1 := hb.size
  clear hb
  refine sa rfl rfl ?_
  refine Wn ?_
  refine tN ?_
  refine W_seq ?_
  refine W_rs ?_
  refine sm rfl rfl ?_
  refine st (X.lenL rfl rfl Try.underlying22) rfl ?_
  refine st (X.gtr rfl rfl) rfl ?_
  refine Wn ?_
  refine tN ?_
  refine W_if rfl (fun h10 => ?_) (fun h10 => ?_)
  · first | replace h10 := of_decide_eq_true h10 | replace h10 := of_decide_eq_false (notT h10) | replace h10 := notT h10 | skip
    refine W_rs ?_
    refine sc _ Try.func18 rfl (by kernel_rfl) rfl rfl ((awake_any _).mono ?_)
    rintro e_ w2 ⟨rfl, hb⟩
    refine cR ?_
    replace hbw := bthen hbw hb
    replace hB3 := hB3.bel hb
    have hz_w2 := hb.size
    clear hb
    refine sa rfl rfl ?_
    refine Wn ?_
    refine tN ?_
    refine W_ret (tR ?_)
    exact (rT rfl rfl ⟨rfl, hbw⟩).1
  · first | replace h10 := of_decide_eq_false h10 | replace h10 := of_decide_eq_true (notF h10) | replace h10 := notF h10 | skip
    refine W_skip ?_
    refine tN ?_
    refine W_rs ?_
    refine sa rfl rfl ?_
    refine Wn ?_
    refine tN ?_
    refine W_rs ?_
    refine sm rfl rfl ?_
    refine sm rfl rfl ?_
    refine sc _ Try.func26 rfl (by kernel_rfl) rfl rfl ((Add_nil _ _).mono ?_)
    rintro e_ w3 ⟨rfl, hb⟩
    refine cR ?_
    replace hbw := bthen hbw hb
    replace hB3 := hB3.bel hb
    have hz_w3 := hb.size
    clear hb
    refine sm rfl rfl ?_
    refine st (X.ext rfl rfl) rfl ?_
    refine st (X.ext rfl rfl) rfl ?_
    refine sa rfl rfl ?_
    refine sa rfl rfl ?_
    refine Wn ?_
    refine tN ?_
    refine W_rs ?_
    refine sm rfl rfl ?_
    refine st (X.eql rfl rfl) rfl ?_
    refine sbY rfl (rfl) rfl ?_
    refine gY (g := 20) rfl rfl rfl ?_
    refine sm rfl rfl ?_
    refine gY (g := 20) rfl rfl rfl ?_
    refine st (X.lenL rfl rfl Try.underlying39) rfl ?_
    refine gY (g := 20) rfl rfl rfl ?_
    refine st (X.eql rfl rfl) rfl ?_
    refine st (X.pickT rfl rfl) rfl ?_
    refine sbY rfl (rfl) rfl ?_
    refine gY (g := 25) rfl rfl rfl ?_
    refine sm rfl rfl ?_
    refine gY (g := 25) rfl rfl rfl ?_
    refine st (X.ldBN (cs := (s.map bv).toArray) rfl hB3 Try.underlying36 rfl (by rw [encSum_size ⟨s, hs⟩]; exact siz36)) rfl ?_
    refine gY (g := 25) rfl rfl rfl ?_
    refine sc _ Try.func35 rfl (by kernel_rfl) rfl rfl ((Get_nil ⟨s, hs⟩ _).mono ?_)
    rintro e_ w4 ⟨rfl, hb⟩
    refine cR ?_
    replace hbw := bthen hbw hb
    replace hB3 := hB3.bel hb
    have hz_w4 := hb.size
    clear hb
    refine gY (g := 25) rfl rfl rfl ?_
    refine st (X.eql rfl rfl) rfl ?_
    refine st (X.pickT rfl rfl) rfl ?_
    refine sbY rfl (rfl) rfl ?_
    refine gY (g := 31) rfl rfl rfl ?_
    refine sm rfl rfl ?_
    refine gY (g := 31) rfl rfl rfl ?_
    refine sc _ Try.func28 rfl (by kernel_rfl) rfl rfl ((All_nil _).mono ?_)
    rintro e_ w5 ⟨rfl, hb⟩
    refine cR ?_
    replace hbw := bthen hbw hb
    replace hB3 := hB3.bel hb
    have hz_w5 := hb.size
    clear hb
    refine gY (g := 31) rfl rfl rfl ?_
    refine st (X.lenL rfl rfl Try.underlying22) rfl ?_
    refine gY (g := 31) rfl rfl rfl ?_
    refine st (X.eql rfl rfl) rfl ?_
    refine st (X.pickT rfl rfl) rfl ?_
    refine sbY rfl (rfl) rfl ?_
    refine gY (g := 37) rfl rfl rfl ?_
    refine sm rfl rfl ?_
    refine gY (g := 37) rfl rfl rfl ?_
    refine sc _ Try.func29 rfl (by kernel_rfl) rfl rfl ((Len_nil _).mono ?_)
    rintro e_ w6 ⟨rfl, hb⟩
    refine cR ?_
    replace hbw := bthen hbw hb
    replace hB3 := hB3.bel hb
    have hz_w6 := hb.size
    clear hb
    refine gY (g := 37) rfl rfl rfl ?_
    refine st (X.eql rfl rfl) rfl ?_
    refine st (X.pickT rfl rfl) rfl ?_
    refine sbY rfl (rfl) rfl ?_
    refine gY (g := 42) rfl rfl rfl ?_
    refine sm rfl rfl ?_
    refine gY (g := 42) rfl rfl rfl ?_
    refine sc _ Try.func30 rfl (by kernel_rfl) rfl rfl ((Total_nil _).mono ?_)
    rintro e_ w7 ⟨rfl, hb⟩
    refine cR ?_
    replace hbw := bthen hbw hb
    replace hB3 := hB3.bel hb
    have hz_w7 := hb.size
    clear hb
    refine gY (g := 42) rfl rfl rfl ?_
    refine st (X.eql rfl rfl) rfl ?_
    refine st (X.pickT rfl rfl) rfl ?_
    refine sbY rfl (rfl) rfl ?_
    refine gY (g := 47) rfl rfl rfl ?_
    refine sm rfl rfl ?_
    refine gY (g := 47) rfl rfl rfl ?_
    refine sc _ Try.func39 rfl (by kernel_rfl) rfl rfl ((Copy_nil _).mono ?_)
    rintro e_ w8 ⟨rfl, hb⟩
    refine cR ?_
    replace hbw := bthen hbw hb
    replace hB3 := hB3.bel hb
    have hz_w8 := hb.size
    clear hb
    refine gY (g := 47) rfl rfl rfl ?_
    refine st (X.nilN rfl) rfl ?_
    refine st (X.pickT rfl rfl) rfl ?_
    refine sbY rfl (rfl) rfl ?_
    refine gY (g := 52) rfl rfl rfl ?_
    refine sm rfl rfl ?_
    refine gY (g := 52) rfl rfl rfl ?_
    refine sc _ Try.func32 rfl (by kernel_rfl) rfl rfl ((Encode_nil _).mono ?_)
    rintro e_ w9 ⟨rfl, hb⟩
    refine cR ?_
    replace hbw := bthen hbw hb
    replace hB3 := hB3.bel hb
    have hz_w9 := hb.size
    clear hb
    refine gY (g := 52) rfl rfl rfl ?_
    refine st (X.eqS rfl rfl) rfl ?_
    refine st (X.pickT rfl rfl) rfl ?_
    refine sbY rfl (by decide) rfl ?_
    refine gY (g := 57) rfl rfl rfl ?_
    refine sc _ Try.func37 rfl (by kernel_rfl) rfl rfl ((Diff_of none none [] [] _ (AllC.none _) (AllC.none _) (by simp) (by simp) (fun c hc => by cases hc) (fun c hc => by cases hc)).mono ?_)
    rintro e_ w10 ⟨vd, rfl, hRd, hOd, hb⟩
    refine cR ?_
    replace hbw := bthen hbw hb
    replace hB3 := hB3.bel hb
    have hz_w10 := hb.size
    clear hb
    obtain ⟨ad, cd, rfl, hnd, hcd⟩ := hRd.shape
    refine gY (g := 57) rfl rfl rfl ?_
    refine st (X.lenL rfl rfl Try.underlying22) rfl ?_
    refine gY (g := 57) rfl rfl rfl ?_
    refine st (X.eql rfl rfl) rfl ?_
    refine st (X.pickT rfl rfl) rfl ?_
    refine sbY rfl (by decide) rfl ?_
    refine gY (g := 62) rfl rfl rfl ?_
    refine sc _ Try.func18 rfl (by kernel_rfl) rfl rfl ((awake_any _).mono ?_)
    rintro e_ w11 ⟨rfl, hb⟩
    refine cR ?_
    replace hbw := bthen hbw hb
    replace hB3 := hB3.bel hb
    have hz_w11 := hb.size
    clear hb
    refine st (X.pickT rfl rfl) rfl ?_
    refine sa rfl rfl ?_
    refine Wn ?_
    refine tN ?_
    refine W_ret ?_
    exact (rT rfl rfl ⟨rfl, hbw⟩).1
end Go.Proofs.Ytnagmpnpgekhfaa
