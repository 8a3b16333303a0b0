/- fan: Join; the law FanJoins. -/
import Derived.Test.YtnagmpnpgekhfaaFanTellsL
import Derived.Test.YtnagmpnpgekhfaaTree
import Derived.Lib.AppendZerosOnto
namespace Go.Proofs.Ytnagmpnpgekhfaa
open Go.RowKit
section
variable {P : Program} {N : Nat} {ds : List Deferred} {Q : Post} {l : Env} {w : World} {ops : Array Oper} {rest : List Oper} {x y : Operand} {ty t tn e : TypeId} {pos : String} {aft : Array Edge} {d : Nat} {k : IntKind} {m : Int} {a : Option Addr} {n c size : Nat}
theorem X.capL {ats : Array TypeId} {ad : Option Addr} {q c : Nat} {e : TypeId} (hx : ev l x = some (.slice ad q c)) (ht : ats = #[t]) (hu : P.underlying t = some (.slice e)) : X P l (.call { callee := .builtin .cap, args := #[x], argTypes := ats }) ty w (.int .i64 c) w := fun ρ hρ => by
  subst ht
  unfold execOp
  simp [resolve, invoke, builtin, Builtin.cap_, hρ _ _ hx, run_underlying hu, goInt]
theorem X.toLE {j : Nat} (hx : ev l x = some (.slice a n c)) (hy : ev l y = some (.int k m)) (hu : P.underlying t = some (.slice e)) (hi : (P.info? e).map (·.size) = some size) (hm : m = (j : Int)) (hin : j ≤ c) : X P l (.slice t x none (some y) none) ty w (sliced a 0 j c size) w := fun ρ hρ => by
  subst hm
  have he : P.elem t = e := by unfold Program.elem; rw [hu]
  have hs : (sizeOf e).run P w = .ok size w := by
    obtain ⟨q, hq, hs⟩ := Option.map_eq_some_iff.1 hi
    simp [sizeOf, typeInfo, hq, hs]
  have := run_slice_h (P := P) w t a n c (by rw [he]; exact hu) k (j : Int) (by omega) (by omega)
  unfold execOp
  simp [hρ _ _ hx, hρ _ _ hy, Instr.sliceAt, run_underlying hu, this, he, hs, Result.andThen]
/-- append(nil, make(..)...) -/
theorem sappZ {z : Value} {size bytes q : Nat} (hx : ev l x = some (.slice none 0 0)) (hy : ev l y = some (.int .i64 m)) (hm : m = (q : Int)) (ht : P.underlying t = some (.slice e)) (htn : P.underlying tn = some (.int .i64)) (hinfo : (P.info? e).map (fun i => (i.zero, i.size, i.bytes)) = some (some z, size, bytes)) (hzs : z.cells.size = size) (hsz : 0 < size) (h0 : 0 < q)
    (h63 : q ≤ maxLen) (hbytes : q * bytes ≤ 140737488355328) (hd : Nat.blt d N = true)
    (h : ∀ v' w', Row w' e size v' q (Builtin.zeroCells z.cells q).toList → Below w.heap.size w w' → (∀ b, v'.ownBlock = some b → w.heap.size ≤ b) → WL P N ds ops Q rest ((d, v') :: l) w') :
    WL P N ds ops Q (⟨some d, .call { callee := .builtin .append, args := #[x, y], argTypes := #[t, tn] }, ty, pos, aft, none⟩ :: rest) l w := by
  subst hm
  obtain ⟨i, hi, hz, hsize, hby⟩ := info_of hinfo
  subst hsize hby
  have hsmall : q ≤ 9223372036854775807 := by simp only [maxLen] at h63; omega
  have hr := Lib.run_append_grow_zeros (P := P) w t tn ty e i z .i64 .i64 ht htn hi hz none 0 0 [] (by simp [Builtin.firstCells]) q h0 hsz (by omega) (by omega) (by omega) (growslice_fits (by omega) (by simpa using hbytes))
  have hge := grownCap_ge w (0 + q) 0 e
  have hcm : grownCap w (0 + q) 0 e ≤ maxLen := grownCap_le_maxLen w (0 + q) 0 e (by omega)
  have hzl : (Builtin.zeroCells z.cells q).size = q * i.size := by rw [size_zeroCells, hzs]
  have hrow : Row (w.drew.alloc (.cells (([] : List Value).toArray ++ Builtin.zeroCells z.cells q ++ Builtin.zeroCells z.cells (grownCap w (0 + q) 0 e - (0 + q))) e)) e i.size (.slice (some ⟨w.heap.size, 0, none⟩) (0 + q) (grownCap w (0 + q) 0 e)) q (Builtin.zeroCells z.cells q).toList := by
    refine ⟨by rw [Array.length_toList, hzl], .inr ⟨w.heap.size, 0, _, _, (0, 0), by rw [Nat.zero_add], heap_alloc_new w.drew _, by omega, hcm, ?_, ?_, fun j _ => by simp⟩⟩
    · simp only [Array.size_append, List.size_toArray, size_zeroCells, hzs, List.length_nil, Nat.zero_add, ← Nat.add_mul]
      rw [show q + (grownCap w q 0 e - q) = grownCap w q 0 e by rw [Nat.zero_add] at hge; omega]
      omega
    · simp only [Array.toList_append, List.drop_zero, List.nil_append]
      refine List.take_left' ?_
      rw [Array.length_toList, hzl]
  refine st (w' := w.drew.alloc (.cells (([] : List Value).toArray ++ Builtin.zeroCells z.cells q ++ Builtin.zeroCells z.cells (grownCap w (0 + q) 0 e - (0 + q))) e)) (fun ρ hρ => ?_) hd (h _ _ hrow ((bdrew (Below.refl _ _)).alloc (Nat.le_refl _) _) (fun b hb => by simp [Value.ownBlock] at hb; omega))
  unfold execOp
  simp only [resolve, invoke, builtin, Sem.run_bind, Sem.run_pure, Result.andThen_ok, List.map_toArray, List.map_cons, List.map_nil, hρ _ _ hx, hρ _ _ hy, hr]
end
theorem Grow_any (k : Nat) (w : World) (hk : k ≤ 1000000) : Calls Try.prog 99 #[.slice none 0 0, .int .i64 k] w fun e w' => ∃ v', e = .returned v' ∧ Row w' 90 35 v' 0 [] ∧ (∀ b, v'.ownBlock = some b → w.heap.size ≤ b) ∧ Below w.heap.size w w' := by
  refine W_enter (args := [.slice none 0 0, .int .i64 k]) 27 Try.func99 rfl rfl rfl ?_
  refine W_sub [(0, .slice none 0 0), (1, .int .i64 k)] ?_ ⟨rfl, rfl, trivial⟩
  have hbw := Below.refl w.heap.size w
  refine W_rs ?_
  refine sa rfl rfl ?_
  refine Wn ?_
  refine tN ?_
  refine W_seq ?_
  refine W_rs ?_
  refine sm rfl rfl ?_
  refine st (X.lss rfl rfl) rfl ?_
  refine Wn ?_
  refine tN ?_
  refine W_if rfl (fun h6 => ?_) (fun h6 => ?_)
  · first | replace h6 := of_decide_eq_true h6 | replace h6 := of_decide_eq_false (notT h6) | replace h6 := notT h6 | skip
    omega
  · first | replace h6 := of_decide_eq_false h6 | replace h6 := of_decide_eq_true (notF h6) | replace h6 := notF h6 | skip
    refine W_skip ?_
    refine tN ?_
    refine W_seq ?_
    refine W_rs ?_
    refine sm rfl rfl ?_
    refine sm rfl rfl ?_
    refine st (X.capL rfl rfl Try.underlying69) rfl ?_
    refine sm rfl rfl ?_
    refine st (X.lenL rfl rfl Try.underlying69) rfl ?_
    refine st (X.sub64 rfl rfl (by omega)) rfl ?_
    refine st (X.sub64 rfl rfl (by omega)) rfl ?_
    refine sa rfl rfl ?_
    refine Wn ?_
    refine tN ?_
    refine W_rs ?_
    refine sm rfl rfl ?_
    refine st (X.gtr rfl rfl) rfl ?_
    refine Wn ?_
    refine tN ?_
    refine W_if rfl (fun h16 => ?_) (fun h16 => ?_)
    · first | replace h16 := of_decide_eq_true h16 | replace h16 := of_decide_eq_false (notT h16) | replace h16 := notT h16 | skip
      have hk0 : 0 < k := by omega
      refine W_reg ?_
      refine sm rfl rfl ?_
      refine sm rfl rfl ?_
      refine st (X.capL rfl rfl Try.underlying69) rfl ?_
      refine st (X.toLE (j := 0) rfl rfl Try.underlying69 siz90 rfl (by omega)) rfl ?_
      refine sm rfl rfl ?_
      refine sappZ (q := k) rfl rfl (by omega) Try.underlying69 Try.underlying3 inf90 rfl (by decide) hk0 (by simp only [maxLen]; omega) (by omega) rfl (fun v' w1 hR hb hO => ?_)
      replace hbw := bthen hbw hb
      have hz55 := hb.size
      clear hb
      obtain ⟨a', c', rfl, hn', hc'⟩ := hR.shape
      have hR0 := hR.cut rfl 0 0 (Nat.le_refl _) (Nat.zero_le _)
      rw [Nat.zero_mul, List.take_zero, List.drop_zero] at hR0
      refine sm rfl rfl ?_
      refine st (X.lenL rfl rfl Try.underlying69) rfl ?_
      refine st (X.toLE (j := 0) rfl rfl Try.underlying69 siz90 rfl (by omega)) rfl ?_
      refine sa rfl rfl ?_
      refine Wn ?_
      refine tN ?_
      refine W_rs ?_
      refine sm rfl rfl ?_
      refine sa rfl rfl ?_
      refine Wn ?_
      refine tN ?_
      refine W_ret ?_
      exact (rT rfl rfl ⟨_, rfl, hR0, fun b hb => by have := hO b (ownBlock_sliced hb); omega, hbw⟩).1
    · first | replace h16 := of_decide_eq_false h16 | replace h16 := of_decide_eq_true (notF h16) | replace h16 := notF h16 | skip
      refine W_skip ?_
      refine tN ?_
      refine W_rs ?_
      refine sm rfl rfl ?_
      refine sa rfl rfl ?_
      refine Wn ?_
      refine tN ?_
      refine W_ret ?_
      exact (rT rfl rfl ⟨_, rfl, Row.nil _ _ _, fun b hb => by simp [Value.ownBlock] at hb, hbw⟩).1
theorem flat_len_take {α : Type} (ls : List (List α)) (j : Nat) : (ls.take j).flatten.length ≤ ls.flatten.length := by
  have : ls.flatten = (ls.take j).flatten ++ (ls.drop j).flatten := by rw [← List.flatten_append, List.take_append_drop]
  rw [this, List.length_append]
  omega
theorem flat_next {α : Type} {ls : List (List α)} {j : Nat} {l : List α} (h : ls[j]? = some l) : (ls.take (j + 1)).flatten = (ls.take j).flatten ++ l := by
  rw [take_next' h, List.flatten_append]
  simp
theorem ents_one {l : List Ent} : ∀ u ∈ l.flatMap Ent.cells, u.oneCell' = true := fun u hu => by
  obtain ⟨e, _, hu⟩ := List.mem_flatMap.1 hu
  have := Ent.cells_one e
  rw [List.all_eq_true] at this
  exact this u hu
theorem Concat_any (v : Value) (ls : List (List Ent)) (w : World) (h : RowsAt 35 Ent.cells w v ls) (hl : ls.flatten.length ≤ 1000000) (hll : ls.length ≤ 1000000) :
    Calls Try.prog 87 #[v] w fun e w' => ∃ v', e = .returned v' ∧ Row w' 90 35 v' ls.flatten.length (ls.flatten.flatMap Ent.cells) ∧ (∀ b, v'.ownBlock = some b → w.heap.size ≤ b) ∧ Below w.heap.size w w' := by
  obtain ⟨vs, hV, hE⟩ := h
  obtain ⟨a, cp, rfl, hn, hcp⟩ := hV.shape
  refine W_enter (args := [.slice a ls.length cp]) 36 Try.func87 rfl rfl rfl ?_
  refine W_sub [(0, .slice a ls.length cp)] ?_ ⟨rfl, trivial⟩
  have hbw := Below.refl w.heap.size w
  refine W_rs ?_
  refine sa rfl rfl ?_
  refine Wn ?_
  refine tN ?_
  refine W_rs ?_
  refine sa rfl rfl ?_
  refine Wn ?_
  refine tN ?_
  refine W_seq ?_
  refine W_rs ?_
  refine sm rfl rfl ?_
  refine st (X.lenL rfl rfl Try.underlying144) rfl ?_
  refine sm rfl rfl ?_
  refine Wn ?_
  refine tN ?_
  refine W_block ?_
  refine W_lp (fun nw1_ lw1_ w1 => ∃ j : Nat, nw1_ = ls.length - j ∧ lw1_ = ([(0, .slice a ls.length cp), (3, .int .i64 ((ls.take j).flatten.length : Nat)), (9, .slice a ls.length cp), (10, .int .i64 ls.length), (11, .int .i64 j)] : Env) ∧ (j ≤ ls.length) ∧ (Below w.heap.size w w1)) _ ⟨_, ⟨0, rfl, rfl, by omega, hbw⟩, ⟨rfl, rfl, rfl, rfl, rfl, trivial⟩⟩ ?_
  clear hbw
  rintro nw1_ lw1_ w1 ⟨j, rfl, rfl, hj, hbw⟩
  have hz_w1 := hbw.size
  refine W_rs ?_
  refine st (X.lss rfl rfl) rfl ?_
  refine Wn ?_
  refine tN ?_
  refine W_seq ?_
  refine W_if rfl (fun h12 => ?_) (fun h12 => ?_)
  · first | replace h12 := of_decide_eq_true h12 | replace h12 := of_decide_eq_false (notT h12) | replace h12 := notT h12 | skip
    obtain ⟨x, hx⟩ : ∃ x, ls[j]? = some x := ⟨_, List.getElem?_eq_getElem (by omega)⟩
    obtain ⟨u, hu, hur⟩ := hE j x hx
    obtain ⟨au, cu, rfl, _, _⟩ := hur.shape
    obtain ⟨g1, o1, c', hv, hg1⟩ := (hV.bel hbw).some_ (by omega)
    injection hv with e1 _ e3
    subst e1 e3
    have hln := flat_len_take ls (j + 1)
    rw [flat_next hx, List.length_append] at hln
    refine W_skip ?_
    refine tN ?_
    refine W_seq ?_
    refine W_block ?_
    refine W_rs ?_
    refine st (X.idxA rfl rfl Try.underlying144 siz69 rfl (by omega)) rfl ?_
    refine st (X.ld rfl Try.underlying69 rfl (by rw [Nat.mul_one]; exact (hV.bel hbw).cellAt (by omega) hu)) rfl ?_
    refine sa rfl rfl ?_
    refine Wn ?_
    refine tN ?_
    refine W_rs ?_
    refine sm rfl rfl ?_
    refine sm rfl rfl ?_
    refine st (X.lenL rfl rfl Try.underlying69) rfl ?_
    refine st (X.add64 rfl rfl (by omega)) rfl ?_
    refine sa rfl rfl ?_
    refine Wn ?_
    refine tN ?_
    refine W_rs ?_
    refine sm rfl rfl ?_
    refine st (X.lss rfl rfl) rfl ?_
    refine Wn ?_
    refine tN ?_
    refine W_if rfl (fun h20 => ?_) (fun h20 => ?_)
    · first | replace h20 := of_decide_eq_true h20 | replace h20 := of_decide_eq_false (notT h20) | replace h20 := notT h20 | skip
      omega
    · first | replace h20 := of_decide_eq_false h20 | replace h20 := of_decide_eq_true (notF h20) | replace h20 := notF h20 | skip
      refine W_skip ?_
      refine bN ?_
      refine tN ?_
      refine W_reg ?_
      refine st (X.add64 rfl rfl (by omega)) rfl ?_
      refine sm rfl rfl ?_
      refine Wn ?_
      refine tN ⟨_, _, ?_, ⟨j + 1, rfl, rfl, by omega, hbw⟩, ⟨rfl, by rw [flat_next hx, List.length_append]; rfl, rfl, rfl, rfl, trivial⟩⟩
      omega
  · first | replace h12 := of_decide_eq_false h12 | replace h12 := of_decide_eq_true (notF h12) | replace h12 := notF h12 | skip
    obtain rfl : j = ls.length := by omega
    rw [List.take_length]
    refine W_exit (tE (tE (bH ?_)))
    refine tN ?_
    refine W_rs ?_
    refine sm rfl rfl ?_
    refine sc _ Try.func99 rfl (by kernel_rfl) rfl rfl ((Grow_any ls.flatten.length _ hl).mono ?_)
    rintro e_ w2 ⟨v6, rfl, hR6, hO6, hb⟩
    refine cR ?_
    replace hbw := bthen hbw hb
    have hz_w2 := hb.size
    clear hb
    refine sa rfl rfl ?_
    refine Wn ?_
    refine tN ?_
    refine W_seq ?_
    refine W_rs ?_
    refine sm rfl rfl ?_
    refine st (X.lenL rfl rfl Try.underlying144) rfl ?_
    refine sm rfl rfl ?_
    refine Wn ?_
    refine tN ?_
    refine W_block ?_
    have hO6' : ∀ b, v6.ownBlock = some b → w.heap.size ≤ b := fun b hb => by have := hO6 b hb; omega
    refine W_lp (fun nw3_ lw3_ w3 => ∃ j : Nat, ∃ v6 : Value, nw3_ = ls.length - j ∧ lw3_ = ([(6, v6), (25, .slice a ls.length cp), (26, .int .i64 ls.length), (27, .int .i64 j)] : Env) ∧ (j ≤ ls.length) ∧ (Row w3 90 35 v6 (ls.take j).flatten.length ((ls.take j).flatten.flatMap Ent.cells)) ∧ (∀ b, v6.ownBlock = some b → w.heap.size ≤ b) ∧ (Below w.heap.size w w3)) _ ⟨_, ⟨0, v6, rfl, rfl, by omega, hR6, hO6', hbw⟩, ⟨rfl, rfl, rfl, rfl, trivial⟩⟩ ?_
    clear hbw
    rintro nw3_ lw3_ w3 ⟨j, v6, rfl, rfl, hj, hR, hO, hbw⟩
    have hz_w3 := hbw.size
    refine W_rs ?_
    refine st (X.lss rfl rfl) rfl ?_
    refine Wn ?_
    refine tN ?_
    refine W_seq ?_
    refine W_if rfl (fun h28 => ?_) (fun h28 => ?_)
    · first | replace h28 := of_decide_eq_true h28 | replace h28 := of_decide_eq_false (notT h28) | replace h28 := notT h28 | skip
      obtain ⟨x, hx⟩ : ∃ x, ls[j]? = some x := ⟨_, List.getElem?_eq_getElem (by omega)⟩
      obtain ⟨u, hu, hur⟩ := hE j x hx
      obtain ⟨au, cu, rfl, _, _⟩ := hur.shape
      obtain ⟨g1, o1, c', hv, hg1⟩ := (hV.bel hbw).some_ (by omega)
      injection hv with e1 _ e3
      subst e1 e3
      have hln := flat_len_take ls (j + 1)
      rw [flat_next hx, List.length_append] at hln
      refine W_skip ?_
      refine tN ?_
      refine W_seq ?_
      refine W_block ?_
      refine W_rs ?_
      refine st (X.idxA rfl rfl Try.underlying144 siz69 rfl (by omega)) rfl ?_
      refine st (X.ld rfl Try.underlying69 rfl (by rw [Nat.mul_one]; exact (hV.bel hbw).cellAt (by omega) hu)) rfl ?_
      refine sa rfl rfl ?_
      refine Wn ?_
      refine tN ?_
      refine W_reg ?_
      refine sm rfl rfl ?_
      refine sm rfl rfl ?_
      refine sapp rfl rfl Try.underlying69 inf90 rfl (by decide) hR ((hur.bel hbw).src Try.underlying69 ents_one) (by simp only [maxLen]; omega) (by omega) rfl (fun v6' w4 hR' hC hv' => ?_)
      replace hbw := bapp hbw hC hO
      have hO' := own_next hv' hO (by omega)
      replace hR' : Row w4 90 35 v6' (ls.take (j + 1)).flatten.length ((ls.take (j + 1)).flatten.flatMap Ent.cells) := by rw [flat_next hx, List.length_append, List.flatMap_append]; exact hR'
      clear hC hv'
      refine sa rfl rfl ?_
      refine Wn ?_
      refine bN ?_
      refine tN ?_
      refine W_reg ?_
      refine st (X.add64 rfl rfl (by omega)) rfl ?_
      refine sm rfl rfl ?_
      refine Wn ?_
      refine tN ⟨_, _, ?_, ⟨j + 1, v6', rfl, rfl, by omega, hR', hO', hbw⟩, ⟨rfl, rfl, rfl, rfl, trivial⟩⟩
      omega
    · first | replace h28 := of_decide_eq_false h28 | replace h28 := of_decide_eq_true (notF h28) | replace h28 := notF h28 | skip
      obtain rfl : j = ls.length := by omega
      rw [List.take_length] at hR
      refine W_exit (tE (tE (bH ?_)))
      refine tN ?_
      refine W_rs ?_
      refine sm rfl rfl ?_
      refine sa rfl rfl ?_
      refine Wn ?_
      refine tN ?_
      refine W_ret ?_
      exact (rT rfl rfl ⟨v6, rfl, hR, hO, hbw⟩).1
theorem EntsAt.chgI {w w' : World} {v : Value} {l : List Ent} {k n0 c0 : Nat} {t : TypeId} {a0 : Option Addr} (h : EntsAt w v l) (h32 : S32 l) (hB : Blk w k t #[.slice a0 n0 c0]) (hc : Chg (fun q => q = k) w w') : EntsAt w' v l := by
  obtain ⟨h1, a, cap, rfl, h3, h4, h5⟩ := h
  refine ⟨h1, a, cap, rfl, h3, h4, fun h0 => ?_⟩
  obtain ⟨g, off, rfl, hg, hcl⟩ := h5 h0
  have hne : g ≠ k := by
    rintro rfl
    obtain ⟨x, hx⟩ : ∃ x, l[0]? = some x := ⟨_, List.getElem?_eq_getElem h0⟩
    have hxs := h32 x (List.mem_of_getElem? hx)
    have hf : (l.flatMap Ent.cells)[0]? = some (bv (x.sum.headD 0)) := by
      cases l with
      | nil => simp at hx
      | cons y l =>
        simp at hx
        subst hx
        rw [List.flatMap_cons]
        cases hs : y.sum with
        | nil => simp [hs] at hxs
        | cons b s => simp [Ent.cells, hs]
    have := hcl 0 _ hf
    rw [hB.cell] at this
    match off with
    | 0 => simp [bv] at this
    | q + 1 => simp at this
  have := hc.size
  exact ⟨g, off, rfl, by omega, fun j u hu => (hc.cell (p := ⟨g, off + j, none⟩) hg hne).trans (hcl j u hu)⟩
theorem bs2L (a1 a2 : Option Addr) (n1 c1 n2 c2 : Nat) (w : World) : (Instr.buildSlice 144 2 #[(0, .slice a1 n1 c1), (1, .slice a2 n2 c2)]).run Try.prog w = .ok (.slice (some ⟨w.heap.size, 0, none⟩) 2 2) (w.alloc (.cells #[.slice a1 n1 c1, .slice a2 n2 c2] 69)) := by kernel_rfl
theorem Join_any (va vb : Value) (A B : List Ent) (w : World) (ha : EntsAt w va A) (hb_ : EntsAt w vb B) (hA : S32 A) (hB : S32 B) (hl : (A ++ B).length ≤ 1000000) :
    Calls Try.prog 60 #[.agg #[va], .agg #[vb]] w (IdxPost w (makeM (A ++ B))) := by
  obtain ⟨aa, ca, rfl, han, hac⟩ := ha.shape
  obtain ⟨ab, cb, rfl, hbn, hbc⟩ := hb_.shape
  have hfl : [A, B].flatten = A ++ B := by simp
  have hAB32 : S32 (A ++ B) := fun e he => by rcases List.mem_append.1 he with h | h; exact hA e h; exact hB e h
  refine W_enter (args := [.agg #[.slice aa A.length ca], .agg #[.slice ab B.length cb]]) 15 Try.func60 rfl rfl rfl ?_
  refine W_sub [(0, .agg #[.slice aa A.length ca]), (1, .agg #[.slice ab B.length cb])] ?_ ⟨rfl, rfl, trivial⟩
  have hbw := Below.refl w.heap.size w
  refine W_rs ?_
  refine sboxA rfl rfl (fun g2 w1 hB2 hg2 hb hl2 => ?_)
  replace hbw := bthen hbw hb
  have hz_w1 := hb.size
  clear hb
  refine sboxA rfl rfl (fun g3 w2 hB3 hg3 hb hl3 => ?_)
  replace hbw := bthen hbw hb
  replace hB2 := hB2.bel hb
  have hz_w2 := hb.size
  clear hb
  refine salA inf71 rfl (fun g4 w3 hB4 hg4 hb hl4 => ?_)
  replace hbw := bthen hbw hb
  replace hB2 := hB2.bel hb
  replace hB3 := hB3.bel hb
  have hz_w3 := hb.size
  clear hb
  refine sa rfl rfl ?_
  refine Wn ?_
  refine tN ?_
  refine W_rs ?_
  refine st (X.fa fa71_0 rfl) rfl ?_
  refine st (X.ldL rfl hB2 Try.underlying69 rfl rfl) rfl ?_
  refine st (X.fa fa71_0 rfl) rfl ?_
  refine st (X.ldL rfl hB3 Try.underlying69 rfl rfl) rfl ?_
  refine sbs (ps := [(0, .tmp 7), (1, .tmp 9)]) 1 rfl (bs2L _ _ _ _ _ _ _) (by simp [maxLen]) rfl rfl (fun g10 w4 hR10 hg10 hb => ?_)
  replace hB2 := hB2.belowAll hb
  replace hB3 := hB3.belowAll hb
  replace hB4 := hB4.belowAll hb
  replace hbw := bthen hbw hb
  have hz14 := hb.size
  clear hb
  have hRows : RowsAt 35 Ent.cells w4 (.slice (some ⟨g10, 0, none⟩) 2 2) [A, B] := ⟨_, hR10.reads, fun i l hi => by
    match i, hi with
    | 0, hi => simp at hi; subst hi; exact ⟨_, rfl, ha.bel hbw⟩
    | 1, hi => simp at hi; subst hi; exact ⟨_, rfl, hb_.bel hbw⟩
    | i + 2, hi => simp at hi⟩
  refine sc _ Try.func87 rfl (by kernel_rfl) rfl rfl ((Concat_any _ [A, B] _ hRows (by rw [hfl]; exact hl) (by simp)).mono ?_)
  rintro e_ w5 ⟨vc, rfl, hRc, hOc, hb⟩
  refine cR ?_
  replace hbw := bthen hbw hb
  replace hB2 := hB2.bel hb
  replace hB3 := hB3.bel hb
  replace hB4 := hB4.bel hb
  have hz_w5 := hb.size
  clear hb
  rw [hfl] at hRc
  refine sc _ Try.func45 rfl (by kernel_rfl) rfl rfl ((Make_any vc (A ++ B) _ hRc.reads hAB32 hl).mono ?_)
  rintro e_ w6 ⟨vm, rfl, hE, hb⟩
  refine cR ?_
  replace hbw := bthen hbw hb
  replace hB2 := hB2.bel hb
  replace hB3 := hB3.bel hb
  replace hB4 := hB4.bel hb
  have hz_w6 := hb.size
  clear hb
  obtain ⟨am, cm, rfl, _, _⟩ := hE.shape
  refine st (X.ext rfl rfl) rfl ?_
  refine st (X.ext rfl rfl) rfl ?_
  refine ssBN rfl rfl hB4 siz71 rfl rfl (fun w7 hB_ hc_ => ?_)
  have hE2 : EntsAt w7 (.slice am (makeM (A ++ B)).1.length cm) (makeM (A ++ B)).1 := hE.chgI (make_S32 hAB32) hB4 hc_
  replace hB4 := hB_
  replace hbw := bset hbw hc_ (by omega)
  clear hB_ hc_
  refine sa rfl rfl ?_
  refine Wn ?_
  refine tN ?_
  refine W_ret ?_
  refine (rCT rfl rfl hB4 Try.underlying71 rfl siz71 rfl ?_).1
  exact ⟨_, rfl, hE2, hbw⟩
/- ---------- the law FanJoins ---------- -/
theorem join_dup {A B : List Ent} {x y : Ent} (hx : x ∈ A) (hy : y ∈ B) (he : x.sum = y.sum) (hl : (A ++ B).length ≤ 65536) (hf : (A ++ B).all fitE = true) : makeM (A ++ B) = ([], 16) := by
  unfold makeM
  rw [if_neg (by omega), if_neg (by rw [hf]; simp), if_neg]
  intro hn
  rw [List.map_append, List.nodup_append] at hn
  exact hn.2.2 x.sum (List.mem_map_of_mem hx) y.sum (List.mem_map_of_mem hy) he
theorem join_ok {A B : List Ent} (hA : Up A) (hB : Up B) (hd : ∀ x ∈ A, ∀ y ∈ B, x.sum ≠ y.sum) (hl : (A ++ B).length ≤ 65536) (hf : (A ++ B).all fitE = true) : (makeM (A ++ B)).2 = 0 := by
  have hn : ((A ++ B).map (·.sum)).Nodup := by
    rw [List.map_append, List.nodup_append]
    refine ⟨hA.nodup, hB.nodup, fun a ha b hb e => ?_⟩
    obtain ⟨x, hx, rfl⟩ := List.mem_map.1 ha
    obtain ⟨y, hy, rfl⟩ := List.mem_map.1 hb
    exact hd x hx y hy e
  unfold makeM
  rw [if_neg (by omega), if_neg (by rw [hf]; simp), if_pos hn]
theorem join_comm {A B : List Ent} (h1 : (makeM (A ++ B)).2 = 0) (h2 : (makeM (B ++ A)).2 = 0) : (makeM (A ++ B)).1 = (makeM (B ++ A)).1 := by
  have i1 := (make_ok h1).2.2.2.2
  have i2 := (make_ok h2).2.2.2.2
  exact i1.up.ext i2.up fun x => by rw [i1.perm.mem_iff, i2.perm.mem_iff, List.mem_append, List.mem_append, or_comm]
theorem fit_app {A B : List Ent} (h1 : A.all fitE = true) (h2 : B.all fitE = true) : (A ++ B).all fitE = true := by rw [List.all_append, h1, h2]; rfl
theorem S32_app {A B : List Ent} (h1 : S32 A) (h2 : S32 B) : S32 (A ++ B) := fun e he => by
  rcases List.mem_append.1 he with h | h
  · exact h1 e h
  · exact h2 e h
set_option maxRecDepth 10000 in
set_option maxHeartbeats 2000000 in
theorem FanJoins_walk (w : World) (v : Value) (l : List Ent) (h : EntsAt w v l) (h32 : S32 l) (u : Value) (m : List Ent) (hm : EntsAt w u m) (hm32 : S32 m) : Calls Try.prog 16 #[v, u] w fun e w' => e = .returned (.bool true) ∧ Below w.heap.size w w' := by
  obtain ⟨a, cp, rfl, hn, hcp⟩ := h.shape
  obtain ⟨am, cm, rfl, hnm, hcm⟩ := hm.shape
  refine W_enter (args := [.slice a l.length cp, .slice am m.length cm]) 120 Try.func16 rfl rfl rfl ?_
  refine W_sub [(0, .slice a l.length cp), (1, .slice am m.length cm)] ?_ ⟨rfl, rfl, trivial⟩
  have hbw := Below.refl w.heap.size w
  refine W_rs ?_
  refine sa rfl rfl ?_
  refine Wn ?_
  refine tN ?_
  refine W_seq ?_
  refine W_rs ?_
  refine sm rfl rfl ?_
  refine st (X.lenL rfl rfl Try.underlying69) rfl ?_
  refine st (X.gtr rfl rfl) rfl ?_
  refine sb rfl rfl (fun h20 => ?_) (fun h20 => ?_)
  · first | replace h20 := of_decide_eq_true h20 | replace h20 := of_decide_eq_false (notT h20) | replace h20 := notT h20 | skip
    refine gN (g := 20) rfl rfl rfl rfl ?_
    refine gN (g := 20) rfl rfl rfl rfl ?_
    refine gN (g := 20) rfl rfl rfl rfl ?_
    refine st (X.pickT rfl rfl) rfl ?_
    refine Wn ?_
    refine tN ?_
    refine W_yes rfl (rfl) ?_
    refine W_rs ?_
    refine sc _ Try.func44 rfl (by kernel_rfl) rfl rfl ((fawake_any _).mono ?_)
    rintro e_ w1 ⟨rfl, hb⟩
    refine cR ?_
    replace hbw := bthen hbw hb
    have hz_w1 := hb.size
    clear hb
    refine sa rfl rfl ?_
    refine Wn ?_
    refine tN ?_
    refine W_ret (tR ?_)
    exact (rT rfl rfl ⟨rfl, hbw⟩).1
  · first | replace h20 := of_decide_eq_false h20 | replace h20 := of_decide_eq_true (notF h20) | replace h20 := notF h20 | skip
    refine gY (g := 20) rfl rfl rfl ?_
    refine sm rfl rfl ?_
    refine gY (g := 20) rfl rfl rfl ?_
    refine st (X.lenL rfl rfl Try.underlying69) rfl ?_
    refine gY (g := 20) rfl rfl rfl ?_
    refine st (X.gtr rfl rfl) rfl ?_
    refine st (X.pickF rfl rfl) rfl ?_
    refine Wn ?_
    refine tN ?_
    refine W_if rfl (fun h24 => ?_) (fun h24 => ?_)
    · first | replace h24 := of_decide_eq_true h24 | replace h24 := of_decide_eq_false (notT h24) | replace h24 := notT h24 | skip
      refine W_rs ?_
      refine sc _ Try.func44 rfl (by kernel_rfl) rfl rfl ((fawake_any _).mono ?_)
      rintro e_ w2 ⟨rfl, hb⟩
      refine cR ?_
      replace hbw := bthen hbw hb
      have hz_w2 := hb.size
      clear hb
      refine sa rfl rfl ?_
      refine Wn ?_
      refine tN ?_
      refine W_ret (tR ?_)
      exact (rT rfl rfl ⟨rfl, hbw⟩).1
    · first | replace h24 := of_decide_eq_false h24 | replace h24 := of_decide_eq_true (notF h24) | replace h24 := notF h24 | skip
      have hAl := make_length l
      have hBl := make_length m
      have hA32 := make_S32 h32
      have hB32 := make_S32 hm32
      refine W_skip ?_
      refine tN ?_
      refine W_rs ?_
      refine sm rfl rfl ?_
      refine sc _ Try.func45 rfl (by kernel_rfl) rfl rfl ((Make_any _ l _ (h.bel hbw) h32 (by omega)).mono ?_)
      rintro e_ w3 ⟨vA, rfl, hEA, hb⟩
      refine cR ?_
      replace hbw := bthen hbw hb
      have hz_w3 := hb.size
      clear hb
      obtain ⟨aA, cA, rfl, _, _⟩ := hEA.shape
      refine sm rfl rfl ?_
      refine st (X.ext rfl rfl) rfl ?_
      refine st (X.ext rfl rfl) rfl ?_
      refine salA inf71 rfl (fun g5 w4 hB5 hg5 hb hl5 => ?_)
      have hpend := hb
      replace hbw := bthen hbw hb
      have hz_w4 := hb.size
      clear hb
      refine ssBN rfl rfl hB5 siz71 rfl rfl (fun w5 hB_ hc_ => ?_)
      replace hB5 := hB_
      clear hB_
      replace hpend := bset hpend hc_ (by omega)
      replace hbw := bset hbw hc_ (by omega)
      have hz_w5 := hc_.size
      clear hc_
      refine sa rfl rfl ?_
      refine Wn ?_
      refine tN ?_
      refine W_rs ?_
      refine sm rfl rfl ?_
      refine sc _ Try.func45 rfl (by kernel_rfl) rfl rfl ((Make_any _ m _ (hm.bel hbw) hm32 (by omega)).mono ?_)
      rintro e_ w6 ⟨vB, rfl, hEB, hb⟩
      refine cR ?_
      replace hpend := bthen hpend hb
      replace hbw := bthen hbw hb
      replace hB5 := hB5.bel hb
      have hz_w6 := hb.size
      clear hb
      obtain ⟨aB, cB, rfl, _, _⟩ := hEB.shape
      replace hEA := hEA.bel hpend
      clear hpend
      refine sm rfl rfl ?_
      refine st (X.ext rfl rfl) rfl ?_
      refine st (X.ext rfl rfl) rfl ?_
      refine salA inf71 rfl (fun g7 w7 hB7 hg7 hb hl7 => ?_)
      have hpend := hb
      replace hbw := bthen hbw hb
      replace hB5 := hB5.bel hb
      have hz_w7 := hb.size
      clear hb
      refine ssBN rfl rfl hB7 siz71 rfl rfl (fun w8 hB_ hc_ => ?_)
      replace hB7 := hB_
      clear hB_
      replace hpend := bset hpend hc_ (by omega)
      replace hB5 := hB5.chg hc_ (by first | (show ¬ _ = _; omega) | (intro k_ hk_; simp [Value.ownBlock] at hk_; subst hk_; show ¬ _ = _; omega))
      replace hbw := bset hbw hc_ (by omega)
      have hz_w8 := hc_.size
      clear hc_
      refine sa rfl rfl ?_
      refine Wn ?_
      refine tN ?_
      refine W_seq ?_
      refine W_rs ?_
      refine sm rfl rfl ?_
      refine st (X.neq rfl rfl) rfl ?_
      refine sb rfl rfl (fun h38 => ?_) (fun h38 => ?_)
      · first | replace h38 := of_decide_eq_true h38 | replace h38 := of_decide_eq_false (notT h38) | replace h38 := notT h38 | skip
        refine gN (g := 38) rfl rfl rfl rfl ?_
        refine gN (g := 38) rfl rfl rfl rfl ?_
        refine st (X.pickT rfl rfl) rfl ?_
        refine Wn ?_
        refine tN ?_
        refine W_yes rfl (rfl) ?_
        refine W_rs ?_
        refine sc _ Try.func44 rfl (by kernel_rfl) rfl rfl ((fawake_any _).mono ?_)
        rintro e_ w9 ⟨rfl, hb⟩
        refine cR ?_
        replace hpend := bthen hpend hb
        replace hbw := bthen hbw hb
        replace hB5 := hB5.bel hb
        replace hB7 := hB7.bel hb
        have hz_w9 := hb.size
        clear hb
        refine sa rfl rfl ?_
        refine Wn ?_
        refine tN ?_
        replace hEA := hEA.bel hpend
        replace hEB := hEB.bel hpend
        clear hpend
        refine W_ret (tR ?_)
        exact (rT rfl rfl ⟨rfl, hbw⟩).1
      · first | replace h38 := of_decide_eq_false h38 | replace h38 := of_decide_eq_true (notF h38) | replace h38 := notF h38 | skip
        refine gY (g := 38) rfl rfl rfl ?_
        refine sm rfl rfl ?_
        refine gY (g := 38) rfl rfl rfl ?_
        refine st (X.neq rfl rfl) rfl ?_
        refine st (X.pickF rfl rfl) rfl ?_
        refine Wn ?_
        refine tN ?_
        refine W_if rfl (fun h41 => ?_) (fun h41 => ?_)
        · first | replace h41 := of_decide_eq_true h41 | replace h41 := of_decide_eq_false (notT h41) | replace h41 := notT h41 | skip
          refine W_rs ?_
          refine sc _ Try.func44 rfl (by kernel_rfl) rfl rfl ((fawake_any _).mono ?_)
          rintro e_ w10 ⟨rfl, hb⟩
          refine cR ?_
          replace hpend := bthen hpend hb
          replace hbw := bthen hbw hb
          replace hB5 := hB5.bel hb
          replace hB7 := hB7.bel hb
          have hz_w10 := hb.size
          clear hb
          refine sa rfl rfl ?_
          refine Wn ?_
          refine tN ?_
          replace hEA := hEA.bel hpend
          replace hEB := hEB.bel hpend
          clear hpend
          refine W_ret (tR ?_)
          exact (rT rfl rfl ⟨rfl, hbw⟩).1
        · first | replace h41 := of_decide_eq_false h41 | replace h41 := of_decide_eq_true (notF h41) | replace h41 := notF h41 | skip
          have hl0 : (makeM l).2 = 0 := Classical.not_not.1 h38
          have hm0 : (makeM m).2 = 0 := Classical.not_not.1 h41
          obtain ⟨A, hA⟩ : ∃ A, (makeM l).1 = A := ⟨_, rfl⟩
          obtain ⟨B, hB⟩ : ∃ B, (makeM m).1 = B := ⟨_, rfl⟩
          have hAu : Up A := hA ▸ make_up l
          have hBu : Up B := hB ▸ make_up m
          have hAf : A.all fitE = true := hA ▸ make_all
          have hBf : B.all fitE = true := hB ▸ make_all
          have hAp : A.Perm l := hA ▸ (make_ok hl0).2.2.2.2.perm
          have hBp : B.Perm m := hB ▸ (make_ok hm0).2.2.2.2.perm
          rw [hA] at hEA hAl hA32 hB5
          rw [hB] at hEB hBl hB32 hB7
          have hABl : (A ++ B).length ≤ 120 := by rw [List.length_append]; omega
          have hBAl : (B ++ A).length ≤ 120 := by rw [List.length_append]; omega
          refine W_skip ?_
          refine tN ?_
          refine W_rs ?_
          refine st (X.ldBN rfl hB5 Try.underlying71 rfl siz71) rfl ?_
          refine st (X.ldBN rfl hB7 Try.underlying71 rfl siz71) rfl ?_
          replace hEA := hEA.bel hpend
          replace hEB := hEB.bel hpend
          clear hpend
          refine sc _ Try.func60 rfl (by kernel_rfl) rfl rfl ((Join_any _ _ A B _ hEA hEB hA32 hB32 (by omega)).mono ?_)
          rintro e_ w11 ⟨vz, rfl, hEz, hb⟩
          refine cR ?_
          have hpend := hb
          replace hbw := bthen hbw hb
          replace hB5 := hB5.bel hb
          replace hB7 := hB7.bel hb
          have hz_w11 := hb.size
          clear hb
          obtain ⟨az, cz, rfl, _, _⟩ := hEz.shape
          replace hEA := hEA.bel hpend
          replace hEB := hEB.bel hpend
          clear hpend
          refine sm rfl rfl ?_
          refine st (X.ext rfl rfl) rfl ?_
          refine st (X.ext rfl rfl) rfl ?_
          refine salA inf71 rfl (fun g9 w12 hB9 hg9 hb hl9 => ?_)
          have hpend := hb
          replace hbw := bthen hbw hb
          replace hB5 := hB5.bel hb
          replace hB7 := hB7.bel hb
          have hz_w12 := hb.size
          clear hb
          refine ssBN rfl rfl hB9 siz71 rfl rfl (fun w13 hB_ hc_ => ?_)
          replace hB9 := hB_
          clear hB_
          replace hpend := bset hpend hc_ (by omega)
          replace hB5 := hB5.chg hc_ (by first | (show ¬ _ = _; omega) | (intro k_ hk_; simp [Value.ownBlock] at hk_; subst hk_; show ¬ _ = _; omega))
          replace hB7 := hB7.chg hc_ (by first | (show ¬ _ = _; omega) | (intro k_ hk_; simp [Value.ownBlock] at hk_; subst hk_; show ¬ _ = _; omega))
          replace hbw := bset hbw hc_ (by omega)
          have hz_w13 := hc_.size
          clear hc_
          refine sa rfl rfl ?_
          refine Wn ?_
          refine tN ?_
          refine W_rs ?_
          refine st (X.ldBN rfl hB7 Try.underlying71 rfl siz71) rfl ?_
          refine st (X.ldBN rfl hB5 Try.underlying71 rfl siz71) rfl ?_
          replace hEA := hEA.bel hpend
          replace hEB := hEB.bel hpend
          replace hEz := hEz.bel hpend
          clear hpend
          refine sc _ Try.func60 rfl (by kernel_rfl) rfl rfl ((Join_any _ _ B A _ hEB hEA hB32 hA32 (by omega)).mono ?_)
          rintro e_ w14 ⟨vy, rfl, hEy, hb⟩
          refine cR ?_
          have hpend := hb
          replace hbw := bthen hbw hb
          replace hB5 := hB5.bel hb
          replace hB7 := hB7.bel hb
          replace hB9 := hB9.bel hb
          have hz_w14 := hb.size
          clear hb
          obtain ⟨ay, cy, rfl, _, _⟩ := hEy.shape
          replace hEA := hEA.bel hpend
          replace hEB := hEB.bel hpend
          replace hEz := hEz.bel hpend
          clear hpend
          refine sm rfl rfl ?_
          refine st (X.ext rfl rfl) rfl ?_
          refine st (X.ext rfl rfl) rfl ?_
          refine salA inf71 rfl (fun g11 w15 hB11 hg11 hb hl11 => ?_)
          have hpend := hb
          replace hbw := bthen hbw hb
          replace hB5 := hB5.bel hb
          replace hB7 := hB7.bel hb
          replace hB9 := hB9.bel hb
          have hz_w15 := hb.size
          clear hb
          refine ssBN rfl rfl hB11 siz71 rfl rfl (fun w16 hB_ hc_ => ?_)
          replace hB11 := hB_
          clear hB_
          replace hpend := bset hpend hc_ (by omega)
          replace hB5 := hB5.chg hc_ (by first | (show ¬ _ = _; omega) | (intro k_ hk_; simp [Value.ownBlock] at hk_; subst hk_; show ¬ _ = _; omega))
          replace hB7 := hB7.chg hc_ (by first | (show ¬ _ = _; omega) | (intro k_ hk_; simp [Value.ownBlock] at hk_; subst hk_; show ¬ _ = _; omega))
          replace hB9 := hB9.chg hc_ (by first | (show ¬ _ = _; omega) | (intro k_ hk_; simp [Value.ownBlock] at hk_; subst hk_; show ¬ _ = _; omega))
          replace hbw := bset hbw hc_ (by omega)
          have hz_w16 := hc_.size
          clear hc_
          refine sa rfl rfl ?_
          refine Wn ?_
          refine tN ?_
          refine W_rs ?_
          refine sa rfl rfl ?_
          refine Wn ?_
          refine tN ?_
          refine W_seq ?_
          refine W_rs ?_
          refine sa rfl rfl ?_
          refine Wn ?_
          refine tN ?_
          refine W_block ?_
          replace hEA := hEA.bel hpend
          replace hEB := hEB.bel hpend
          replace hEz := hEz.bel hpend
          replace hEy := hEy.bel hpend
          clear hpend
          obtain ⟨wB, hwB⟩ : ∃ W_ : World, W_ = w16 := ⟨_, rfl⟩
          have hbB : Below wB.heap.size wB w16 := by rw [hwB]; exact Below.refl _ _
          have hwBz : w.heap.size ≤ wB.heap.size := by rw [hwB]; exact hbw.size
          rw [← hwB] at hEB hEz hEy
          clear hwB
          refine W_lp (fun nw17_ lw17_ w17 => ∃ j : Nat, ∃ n : Nat, nw17_ = l.length - j ∧ lw17_ = ([(0, .slice a l.length cp), (1, .slice am m.length cm), (7, .pointer (some ⟨g7, 0, none⟩)), (9, .pointer (some ⟨g9, 0, none⟩)), (10, .int .i64 (makeM (A ++ B)).2), (11, .pointer (some ⟨g11, 0, none⟩)), (12, .int .i64 (makeM (B ++ A)).2), (13, .int .i64 n), (14, .int .i64 j)] : Env) ∧ (j ≤ l.length) ∧ (n ≤ j) ∧ (0 < n → ∃ x ∈ A, ∃ y ∈ B, x.sum = y.sum) ∧ (n = 0 → ∀ x ∈ l.take j, ∀ y ∈ B, x.sum ≠ y.sum) ∧ (Below wB.heap.size wB w17) ∧ (Blk w17 g7 71 #[.slice aB B.length cB]) ∧ (Blk w17 g9 71 #[.slice az (makeM (A ++ B)).1.length cz]) ∧ (Blk w17 g11 71 #[.slice ay (makeM (B ++ A)).1.length cy]) ∧ (Below w.heap.size w w17)) _ ⟨_, ⟨0, 0, rfl, rfl, by omega, by omega, (fun h => by omega), (fun _ x hx => by simp at hx), hbB, hB7, hB9, hB11, hbw⟩, ⟨rfl, rfl, rfl, rfl, rfl, rfl, rfl, rfl, rfl, trivial⟩⟩ ?_
          clear hbB hB7 hB9 hB11 hbw
          rintro nw17_ lw17_ w17 ⟨j, n, rfl, rfl, hj, hnj, hn1, hn0, hbB, hB7, hB9, hB11, hbw⟩
          have hz_w17 := hbw.size
          have hz_hbB_w17 := hbB.size
          have hlt_hB7_w17 := hB7.lt
          have hlt_hB9_w17 := hB9.lt
          have hlt_hB11_w17 := hB11.lt
          refine W_seq ?_
          refine W_rs ?_
          refine sm rfl rfl ?_
          refine sm rfl rfl ?_
          refine st (X.lenL rfl rfl Try.underlying69) rfl ?_
          refine st (X.lss rfl rfl) rfl ?_
          refine Wn ?_
          refine tN ?_
          refine W_if rfl (fun h58 => ?_) (fun h58 => ?_)
          · first | replace h58 := of_decide_eq_true h58 | replace h58 := of_decide_eq_false (notT h58) | replace h58 := notT h58 | skip
            obtain ⟨x, hx⟩ : ∃ x, l[j]? = some x := ⟨_, List.getElem?_eq_getElem (by omega)⟩
            have hxs := h32 x (List.mem_of_getElem? hx)
            obtain ⟨g1, o1, c', hv, hg1⟩ := (h.bel hbw).some_ (by omega)
            injection hv with e1 _ e3
            subst e1 e3
            have hg32 : ((findM B x.sum).getD eZ).sum.length = 32 := by
              cases hq : findM B x.sum with
              | none => rfl
              | some y => exact hB32 y (find_mem hq).1
            refine W_skip ?_
            refine tN ?_
            refine W_seq ?_
            refine W_block ?_
            refine W_trsN (fun W_ => Blk W_ g7 71 #[.slice aB B.length cB] ∧ W_.rangeAt g1 (o1 + j * 35 + 0) (x.sum.map bv)) (.yes 0 (.yes 1 (.yes 2 (.yes 3 (.yes 4 (.yes 5 (.pick (.alt 6 (.yes 7 (.yes 8 (.yes 9 (.pick (.alt 10 (.pick (.alt 11 (.yes 12 (.nil)) (.no))) (.no)))))) (.alt 10 (.pick (.alt 6 (.yes 7 (.yes 8 (.yes 9 (.pick (.alt 11 (.yes 12 (.nil)) (.no)))))) (.no))) (.no)))))))))) (by kernel_rfl) (by kernel_rfl) (⟨hB7.drew, EntsAt.sum (h.bel (bdrew hbw)) h32 hx⟩) ?_
            obtain ⟨w18, hw_⟩ : ∃ w18 : World, w18 = World.drew w17 := ⟨_, rfl⟩
            rw [← hw_]
            have hb : Below w17.heap.size w17 w18 := by rw [hw_]; exact bdrew (Below.refl _ _)
            clear hw_
            have hS := hb
            replace hbw := bthen hbw hb
            replace hbB := bthen hbB hb
            replace hB7 := hB7.bel hb
            replace hB9 := hB9.bel hb
            replace hB11 := hB11.bel hb
            have hz_w18 := hb.size
            clear hb
            refine uY rfl (fun W_ hW_ => (X.ldBN rfl hW_.1 Try.underlying71 rfl siz71)) rfl ?_
            refine uY rfl (fun W_ hW_ => (X.move rfl)) rfl ?_
            refine uY rfl (fun W_ hW_ => (X.move rfl)) rfl ?_
            refine uY rfl (fun W_ hW_ => (X.idxA rfl rfl Try.underlying69 siz90 rfl (by omega))) rfl ?_
            refine uY rfl (fun W_ hW_ => (X.fa fa90_0 rfl)) rfl ?_
            refine uY rfl (fun W_ hW_ => (X.ldN (cs := x.sum.map bv) rfl Try.underlying36 rfl (by rw [List.length_map, hxs]; exact siz36) hW_.2)) rfl ?_
            refine uP (uA rfl (fun Q_ hQ_ hP_ => ?_) (uA rfl (fun Q_ hQ_ hP_ => ?_) u0))
            · refine sc _ Try.func57 rfl (by kernel_rfl) rfl rfl ((Find_any _ B x.sum _ (hEB.bel hbB) hB32 hBu hxs (by omega)).mono ?_)
              rintro e_ w19 ⟨rfl, hb⟩
              refine cR ?_
              replace hbw := bthen hbw hb
              replace hbB := bthen hbB hb
              replace hB7 := hB7.bel hb
              replace hB9 := hB9.bel hb
              replace hB11 := hB11.bel hb
              have hz_w19 := hb.size
              clear hb
              refine Wn (hQ_ _ _ (⟨hB7, EntsAt.sum (h.bel hbw) h32 hx⟩) ?_)
              clear hQ_ hP_ Q_
              refine uY rfl (fun W_ hW_ => (X.move rfl)) rfl ?_
              refine uY rfl (fun W_ hW_ => (X.ext rfl rfl)) rfl ?_
              refine uY rfl (fun W_ hW_ => (X.ext rfl rfl)) rfl ?_
              refine uP (uA rfl (fun Q_ hQ_ hP_ => ?_) u0)
              refine salA inf90 rfl (fun g15 w20 hB15 hg15 hb hl15 => ?_)
              replace hbw := bthen hbw hb
              replace hbB := bthen hbB hb
              replace hB7 := hB7.bel hb
              replace hB9 := hB9.bel hb
              replace hB11 := hB11.bel hb
              have hz_w20 := hb.size
              clear hb
              refine Wn (hQ_ _ _ (⟨hB7, EntsAt.sum (h.bel hbw) h32 hx⟩) ?_)
              clear hQ_ hP_ Q_
              refine uP (uA rfl (fun Q_ hQ_ hP_ => ?_) u0)
              refine ssBN rfl rfl hB15 (by rw [Ent.size hg32]; exact siz90) (by rw [Ent.size hg32]; rfl) (Ent.cells_one _) (fun w21 hB_ hc_ => ?_)
              replace hB15 := hB_
              clear hB_
              replace hB7 := hB7.chg hc_ (by first | (show ¬ _ = _; omega) | (intro k_ hk_; simp [Value.ownBlock] at hk_; subst hk_; show ¬ _ = _; omega))
              replace hB9 := hB9.chg hc_ (by first | (show ¬ _ = _; omega) | (intro k_ hk_; simp [Value.ownBlock] at hk_; subst hk_; show ¬ _ = _; omega))
              replace hB11 := hB11.chg hc_ (by first | (show ¬ _ = _; omega) | (intro k_ hk_; simp [Value.ownBlock] at hk_; subst hk_; show ¬ _ = _; omega))
              replace hbw := bset hbw hc_ (by omega)
              replace hbB := bset hbB hc_ (by omega)
              have hz_w21 := hc_.size
              clear hc_
              refine Wn (hQ_ _ _ (⟨hB7, EntsAt.sum (h.bel hbw) h32 hx⟩) ?_)
              clear hQ_ hP_ Q_
              refine uY rfl (fun W_ hW_ => (X.assign rfl)) rfl ?_
              refine uN ?_
              refine nN ?_
              refine W_rs ?_
              refine sm rfl rfl ?_
              refine Wn ?_
              refine tN ?_
              refine W_if rfl (fun h71 => ?_) (fun h71 => ?_)
              · first | replace h71 := of_decide_eq_true h71 | replace h71 := of_decide_eq_false (notT h71) | replace h71 := notT h71 | skip
                obtain ⟨y, hy⟩ := Option.isSome_iff_exists.1 h71
                have hnew : ∃ x ∈ A, ∃ y ∈ B, x.sum = y.sum := ⟨x, hAp.mem_iff.2 (List.mem_of_getElem? hx), y, (find_mem hy).1, (find_mem hy).2.symm⟩
                let n' : Nat := n + 1
                have hn' : n' = n + 1 := rfl
                have hnj' : n' ≤ j + 1 := by omega
                have hn1' : 0 < n' → ∃ x ∈ A, ∃ y ∈ B, x.sum = y.sum := fun _ => hnew
                have hn0' : n' = 0 → ∀ x ∈ l.take (j + 1), ∀ y ∈ B, x.sum ≠ y.sum := fun h => by omega
                refine W_reg ?_
                refine sm rfl rfl ?_
                refine st (X.add64 rfl rfl (by omega)) rfl ?_
                refine sa rfl rfl ?_
                refine Wn ?_
                refine bN ?_
                refine tN ?_
                refine W_reg ?_
                refine sm rfl rfl ?_
                refine st (X.add64 rfl rfl (by omega)) rfl ?_
                refine sa rfl rfl ?_
                refine Wn ?_
                refine tN ⟨_, _, ?_, ⟨j + 1, n', rfl, rfl, by omega, hnj', hn1', hn0', hbB, hB7, hB9, hB11, hbw⟩, ⟨rfl, rfl, rfl, rfl, rfl, rfl, rfl, rfl, rfl, trivial⟩⟩
                omega
              · first | replace h71 := of_decide_eq_false h71 | replace h71 := of_decide_eq_true (notF h71) | replace h71 := notF h71 | skip
                let n' : Nat := n
                have hn' : n' = n := rfl
                have hnj' : n' ≤ j + 1 := by omega
                have hnone : ∀ y ∈ B, x.sum ≠ y.sum := fun y hy e => by
                  have := find_some hBu hy
                  rw [← e] at this
                  rw [this] at h71
                  simp at h71
                have hn1' : 0 < n' → ∃ x ∈ A, ∃ y ∈ B, x.sum = y.sum := hn1
                have hn0' : n' = 0 → ∀ x ∈ l.take (j + 1), ∀ y ∈ B, x.sum ≠ y.sum := fun h z hz => by
                  rw [take_next' hx] at hz
                  rcases List.mem_append.1 hz with hz | hz
                  · exact hn0 h z hz
                  · simp at hz; rw [hz]; exact hnone
                refine W_skip ?_
                refine bN ?_
                refine tN ?_
                refine W_reg ?_
                refine sm rfl rfl ?_
                refine st (X.add64 rfl rfl (by omega)) rfl ?_
                refine sa rfl rfl ?_
                refine Wn ?_
                refine tN ⟨_, _, ?_, ⟨j + 1, n', rfl, rfl, by omega, hnj', hn1', hn0', hbB, hB7, hB9, hB11, hbw⟩, ⟨rfl, rfl, rfl, rfl, rfl, rfl, rfl, rfl, rfl, trivial⟩⟩
                omega
            · refine salA inf90 rfl (fun g15 w22 hB15 hg15 hb hl15 => ?_)
              replace hbw := bthen hbw hb
              replace hbB := bthen hbB hb
              replace hB7 := hB7.bel hb
              replace hB9 := hB9.bel hb
              replace hB11 := hB11.bel hb
              have hz_w22 := hb.size
              clear hb
              refine Wn (hQ_ _ _ (⟨hB7, EntsAt.sum (h.bel hbw) h32 hx⟩) ?_)
              clear hQ_ hP_ Q_
              refine uP (uA rfl (fun Q_ hQ_ hP_ => ?_) u0)
              refine sc _ Try.func57 rfl (by kernel_rfl) rfl rfl ((Find_any _ B x.sum _ (hEB.bel hbB) hB32 hBu hxs (by omega)).mono ?_)
              rintro e_ w23 ⟨rfl, hb⟩
              refine cR ?_
              replace hbw := bthen hbw hb
              replace hbB := bthen hbB hb
              replace hB7 := hB7.bel hb
              replace hB9 := hB9.bel hb
              replace hB11 := hB11.bel hb
              replace hB15 := hB15.bel hb
              have hz_w23 := hb.size
              clear hb
              refine Wn (hQ_ _ _ (⟨hB7, EntsAt.sum (h.bel hbw) h32 hx⟩) ?_)
              clear hQ_ hP_ Q_
              refine uY rfl (fun W_ hW_ => (X.move rfl)) rfl ?_
              refine uY rfl (fun W_ hW_ => (X.ext rfl rfl)) rfl ?_
              refine uY rfl (fun W_ hW_ => (X.ext rfl rfl)) rfl ?_
              refine uP (uA rfl (fun Q_ hQ_ hP_ => ?_) u0)
              refine ssBN rfl rfl hB15 (by rw [Ent.size hg32]; exact siz90) (by rw [Ent.size hg32]; rfl) (Ent.cells_one _) (fun w24 hB_ hc_ => ?_)
              replace hB15 := hB_
              clear hB_
              replace hB7 := hB7.chg hc_ (by first | (show ¬ _ = _; omega) | (intro k_ hk_; simp [Value.ownBlock] at hk_; subst hk_; show ¬ _ = _; omega))
              replace hB9 := hB9.chg hc_ (by first | (show ¬ _ = _; omega) | (intro k_ hk_; simp [Value.ownBlock] at hk_; subst hk_; show ¬ _ = _; omega))
              replace hB11 := hB11.chg hc_ (by first | (show ¬ _ = _; omega) | (intro k_ hk_; simp [Value.ownBlock] at hk_; subst hk_; show ¬ _ = _; omega))
              replace hbw := bset hbw hc_ (by omega)
              replace hbB := bset hbB hc_ (by omega)
              have hz_w24 := hc_.size
              clear hc_
              refine Wn (hQ_ _ _ (⟨hB7, EntsAt.sum (h.bel hbw) h32 hx⟩) ?_)
              clear hQ_ hP_ Q_
              refine uY rfl (fun W_ hW_ => (X.assign rfl)) rfl ?_
              refine uN ?_
              refine nN ?_
              refine W_rs ?_
              refine sm rfl rfl ?_
              refine Wn ?_
              refine tN ?_
              refine W_if rfl (fun h71 => ?_) (fun h71 => ?_)
              · first | replace h71 := of_decide_eq_true h71 | replace h71 := of_decide_eq_false (notT h71) | replace h71 := notT h71 | skip
                obtain ⟨y, hy⟩ := Option.isSome_iff_exists.1 h71
                have hnew : ∃ x ∈ A, ∃ y ∈ B, x.sum = y.sum := ⟨x, hAp.mem_iff.2 (List.mem_of_getElem? hx), y, (find_mem hy).1, (find_mem hy).2.symm⟩
                let n' : Nat := n + 1
                have hn' : n' = n + 1 := rfl
                have hnj' : n' ≤ j + 1 := by omega
                have hn1' : 0 < n' → ∃ x ∈ A, ∃ y ∈ B, x.sum = y.sum := fun _ => hnew
                have hn0' : n' = 0 → ∀ x ∈ l.take (j + 1), ∀ y ∈ B, x.sum ≠ y.sum := fun h => by omega
                refine W_reg ?_
                refine sm rfl rfl ?_
                refine st (X.add64 rfl rfl (by omega)) rfl ?_
                refine sa rfl rfl ?_
                refine Wn ?_
                refine bN ?_
                refine tN ?_
                refine W_reg ?_
                refine sm rfl rfl ?_
                refine st (X.add64 rfl rfl (by omega)) rfl ?_
                refine sa rfl rfl ?_
                refine Wn ?_
                refine tN ⟨_, _, ?_, ⟨j + 1, n', rfl, rfl, by omega, hnj', hn1', hn0', hbB, hB7, hB9, hB11, hbw⟩, ⟨rfl, rfl, rfl, rfl, rfl, rfl, rfl, rfl, rfl, trivial⟩⟩
                omega
              · first | replace h71 := of_decide_eq_false h71 | replace h71 := of_decide_eq_true (notF h71) | replace h71 := notF h71 | skip
                let n' : Nat := n
                have hn' : n' = n := rfl
                have hnj' : n' ≤ j + 1 := by omega
                have hnone : ∀ y ∈ B, x.sum ≠ y.sum := fun y hy e => by
                  have := find_some hBu hy
                  rw [← e] at this
                  rw [this] at h71
                  simp at h71
                have hn1' : 0 < n' → ∃ x ∈ A, ∃ y ∈ B, x.sum = y.sum := hn1
                have hn0' : n' = 0 → ∀ x ∈ l.take (j + 1), ∀ y ∈ B, x.sum ≠ y.sum := fun h z hz => by
                  rw [take_next' hx] at hz
                  rcases List.mem_append.1 hz with hz | hz
                  · exact hn0 h z hz
                  · simp at hz; rw [hz]; exact hnone
                refine W_skip ?_
                refine bN ?_
                refine tN ?_
                refine W_reg ?_
                refine sm rfl rfl ?_
                refine st (X.add64 rfl rfl (by omega)) rfl ?_
                refine sa rfl rfl ?_
                refine Wn ?_
                refine tN ⟨_, _, ?_, ⟨j + 1, n', rfl, rfl, by omega, hnj', hn1', hn0', hbB, hB7, hB9, hB11, hbw⟩, ⟨rfl, rfl, rfl, rfl, rfl, rfl, rfl, rfl, rfl, trivial⟩⟩
                omega
          · first | replace h58 := of_decide_eq_false h58 | replace h58 := of_decide_eq_true (notF h58) | replace h58 := notF h58 | skip
            obtain rfl : j = l.length := by omega
            rw [List.take_length] at hn0
            refine W_exit (tE (tE (bH ?_)))
            refine tN ?_
            refine W_seq ?_
            refine W_rs ?_
            refine sm rfl rfl ?_
            refine st (X.gtr rfl rfl) rfl ?_
            refine Wn ?_
            refine tN ?_
            refine W_if rfl (fun h75 => ?_) (fun h75 => ?_)
            · first | replace h75 := of_decide_eq_true h75 | replace h75 := of_decide_eq_false (notT h75) | replace h75 := notT h75 | skip
              obtain ⟨x, hxA, y, hyB, hxy⟩ := hn1 (by omega)
              have hz16 := join_dup hxA hyB hxy (by omega) (fit_app hAf hBf)
              have hy16 := join_dup hyB hxA hxy.symm (by omega) (fit_app hBf hAf)
              refine W_drsN (fun W_ => Blk W_ g9 71 #[.slice az (makeM (A ++ B)).1.length cz] ∧ Blk W_ g11 71 #[.slice ay (makeM (B ++ A)).1.length cy]) [0, 1, 2, 3, 4, 5, 6, 7, 8, 10, 9, 11, 12, 13, 14, 15, 16, 17, 18] [true, true, true, true, true, true, true, true, true, true, false, false, true, true, true, true, false, true, true] (by kernel_rfl) (by kernel_rfl) (⟨hB9.drew, hB11.drew⟩) ?_
              obtain ⟨w25, hw_⟩ : ∃ w25 : World, w25 = World.drew w17 := ⟨_, rfl⟩
              rw [← hw_]
              have hb : Below w17.heap.size w17 w25 := by rw [hw_]; exact bdrew (Below.refl _ _)
              clear hw_
              have hS := hb
              replace hbw := bthen hbw hb
              replace hbB := bthen hbB hb
              replace hB7 := hB7.bel hb
              replace hB9 := hB9.bel hb
              replace hB11 := hB11.bel hb
              have hz_w25 := hb.size
              clear hb
              refine oY rfl (fun W_ hW_ => (X.move rfl)) rfl ?_
              refine oY rfl (fun W_ hW_ => (X.eql rfl rfl)) rfl ?_
              refine oY rfl (fun W_ hW_ => (X.mvB (c := true) rfl (by rw [hz16]; rfl))) rfl ?_
              refine oYg (g := 78) rfl rfl rfl rfl (fun W_ hW_ => (X.move rfl)) rfl ?_
              refine oYg (g := 78) rfl rfl rfl rfl (fun W_ hW_ => (X.move rfl)) rfl ?_
              refine oYg (g := 78) rfl rfl rfl rfl (fun W_ hW_ => (X.eql rfl rfl)) rfl ?_
              refine oY rfl (fun W_ hW_ => (X.pickT rfl rfl)) rfl ?_
              refine oY rfl (fun W_ hW_ => (X.mvB (c := true) rfl (by rw [hz16, hy16]; rfl))) rfl ?_
              refine oYg (g := 83) rfl rfl rfl rfl (fun W_ hW_ => (X.ldBN rfl hW_.1 Try.underlying71 rfl siz71)) rfl ?_
              refine oYg (g := 83) rfl rfl rfl rfl (fun W_ hW_ => (X.ldBN rfl hW_.2 Try.underlying71 rfl siz71)) rfl ?_
              refine oL rfl (fun Q_ hQ_ hP_ => ?_)
              refine gY (g := 83) rfl rfl rfl ?_
              refine sc _ Try.func51 rfl (by kernel_rfl) rfl rfl ((ILen_any _ (makeM (A ++ B)).1 _ (hEz.bel hbB)).mono ?_)
              rintro e_ w26 ⟨rfl, hb⟩
              refine cR ?_
              replace hbw := bthen hbw hb
              replace hbB := bthen hbB hb
              replace hB7 := hB7.bel hb
              replace hB9 := hB9.bel hb
              replace hB11 := hB11.bel hb
              have hz_w26 := hb.size
              clear hb
              refine Wn (hQ_ _ _ (⟨hB9, hB11⟩) ?_)
              clear hQ_ hP_ Q_
              refine oL rfl (fun Q_ hQ_ hP_ => ?_)
              refine gY (g := 83) rfl rfl rfl ?_
              refine sc _ Try.func51 rfl (by kernel_rfl) rfl rfl ((ILen_any _ (makeM (B ++ A)).1 _ (hEy.bel hbB)).mono ?_)
              rintro e_ w27 ⟨rfl, hb⟩
              refine cR ?_
              replace hbw := bthen hbw hb
              replace hbB := bthen hbB hb
              replace hB7 := hB7.bel hb
              replace hB9 := hB9.bel hb
              replace hB11 := hB11.bel hb
              have hz_w27 := hb.size
              clear hb
              refine Wn (hQ_ _ _ (⟨hB9, hB11⟩) ?_)
              clear hQ_ hP_ Q_
              refine oYg (g := 83) rfl rfl rfl rfl (fun W_ hW_ => (X.add (z := 0) rfl rfl (by rw [hz16, hy16]; rfl))) rfl ?_
              refine oYg (g := 83) rfl rfl rfl rfl (fun W_ hW_ => (X.eql rfl rfl)) rfl ?_
              refine oY rfl (fun W_ hW_ => (X.pickT rfl rfl)) rfl ?_
              refine oY rfl (fun W_ hW_ => (X.mvB (c := true) rfl (rfl))) rfl ?_
              refine oL rfl (fun Q_ hQ_ hP_ => ?_)
              refine gY (g := 91) rfl rfl rfl ?_
              refine sc _ Try.func44 rfl (by kernel_rfl) rfl rfl ((fawake_any _).mono ?_)
              rintro e_ w28 ⟨rfl, hb⟩
              refine cR ?_
              replace hbw := bthen hbw hb
              replace hbB := bthen hbB hb
              replace hB7 := hB7.bel hb
              replace hB9 := hB9.bel hb
              replace hB11 := hB11.bel hb
              have hz_w28 := hb.size
              clear hb
              refine Wn (hQ_ _ _ (⟨hB9, hB11⟩) ?_)
              clear hQ_ hP_ Q_
              refine oY rfl (fun W_ hW_ => (X.pickT rfl rfl)) rfl ?_
              refine oY rfl (fun W_ hW_ => (X.assign rfl)) rfl ?_
              refine oN ?_
              refine nN ?_
              refine W_ret (tR ?_)
              exact (rT rfl rfl ⟨rfl, hbw⟩).1
            · first | replace h75 := of_decide_eq_false h75 | replace h75 := of_decide_eq_true (notF h75) | replace h75 := notF h75 | skip
              have hdis : ∀ x ∈ A, ∀ y ∈ B, x.sum ≠ y.sum := fun x hx => hn0 (by omega) x (hAp.mem_iff.1 hx)
              have hz0 := join_ok hAu hBu hdis (by omega) (fit_app hAf hBf)
              have hy0 := join_ok hBu hAu (fun x hx y hy e => hdis y hy x hx e.symm) (by omega) (fit_app hBf hAf)
              have hcomm := join_comm hz0 hy0
              have hzl : (makeM (A ++ B)).1.length = l.length + m.length := by rw [(make_ok hz0).2.2.2.2.perm.length_eq, List.length_append, hAp.length_eq, hBp.length_eq]
              have hz32 := make_S32 (S32_app hA32 hB32)
              have hy32 := make_S32 (S32_app hB32 hA32)
              have hyl : (makeM (B ++ A)).1.length ≤ 120 := by rw [← hcomm, hzl]; omega
              refine W_skip ?_
              refine tN ?_
              refine W_drsN (fun W_ => Blk W_ g9 71 #[.slice az (makeM (A ++ B)).1.length cz] ∧ Blk W_ g11 71 #[.slice ay (makeM (B ++ A)).1.length cy]) [0, 1, 2, 3, 4, 5, 6, 7, 9, 10, 11, 12, 13, 8, 14, 15, 16, 17, 19, 18, 20, 21, 22, 23, 24, 25, 26] [true, true, true, true, true, true, true, true, true, true, true, true, true, false, true, true, true, true, true, false, false, true, true, true, false, true, true] (by kernel_rfl) (by kernel_rfl) (⟨hB9.drew, hB11.drew⟩) ?_
              obtain ⟨w29, hw_⟩ : ∃ w29 : World, w29 = World.drew w17 := ⟨_, rfl⟩
              rw [← hw_]
              have hb : Below w17.heap.size w17 w29 := by rw [hw_]; exact bdrew (Below.refl _ _)
              clear hw_
              have hS := hb
              replace hbw := bthen hbw hb
              replace hbB := bthen hbB hb
              replace hB7 := hB7.bel hb
              replace hB9 := hB9.bel hb
              replace hB11 := hB11.bel hb
              have hz_w29 := hb.size
              clear hb
              refine oY rfl (fun W_ hW_ => (X.move rfl)) rfl ?_
              refine oY rfl (fun W_ hW_ => (X.eql rfl rfl)) rfl ?_
              refine oY rfl (fun W_ hW_ => (X.mvB (c := true) rfl (by rw [hz0]; rfl))) rfl ?_
              refine oYg (g := 96) rfl rfl rfl rfl (fun W_ hW_ => (X.move rfl)) rfl ?_
              refine oYg (g := 96) rfl rfl rfl rfl (fun W_ hW_ => (X.eql rfl rfl)) rfl ?_
              refine oY rfl (fun W_ hW_ => (X.pickT rfl rfl)) rfl ?_
              refine oY rfl (fun W_ hW_ => (X.mvB (c := true) rfl (by rw [hy0]; rfl))) rfl ?_
              refine oYg (g := 100) rfl rfl rfl rfl (fun W_ hW_ => (X.ldBN rfl hW_.1 Try.underlying71 rfl siz71)) rfl ?_
              refine oYg (g := 100) rfl rfl rfl rfl (fun W_ hW_ => (X.move rfl)) rfl ?_
              refine oYg (g := 100) rfl rfl rfl rfl (fun W_ hW_ => (X.lenL rfl rfl Try.underlying69)) rfl ?_
              refine oYg (g := 100) rfl rfl rfl rfl (fun W_ hW_ => (X.move rfl)) rfl ?_
              refine oYg (g := 100) rfl rfl rfl rfl (fun W_ hW_ => (X.lenL rfl rfl Try.underlying69)) rfl ?_
              refine oYg (g := 100) rfl rfl rfl rfl (fun W_ hW_ => (X.add64 rfl rfl (by omega))) rfl ?_
              refine oL rfl (fun Q_ hQ_ hP_ => ?_)
              refine gY (g := 100) rfl rfl rfl ?_
              refine sc _ Try.func51 rfl (by kernel_rfl) rfl rfl ((ILen_any _ (makeM (A ++ B)).1 _ (hEz.bel hbB)).mono ?_)
              rintro e_ w30 ⟨rfl, hb⟩
              refine cR ?_
              replace hbw := bthen hbw hb
              replace hbB := bthen hbB hb
              replace hB7 := hB7.bel hb
              replace hB9 := hB9.bel hb
              replace hB11 := hB11.bel hb
              have hz_w30 := hb.size
              clear hb
              refine Wn (hQ_ _ _ (⟨hB9, hB11⟩) ?_)
              clear hQ_ hP_ Q_
              refine oYg (g := 100) rfl rfl rfl rfl (fun W_ hW_ => (X.eql rfl rfl)) rfl ?_
              refine oY rfl (fun W_ hW_ => (X.pickT rfl rfl)) rfl ?_
              refine oY rfl (fun W_ hW_ => (X.mvB (c := true) rfl (decide_eq_true (by rw [hzl]; rfl)))) rfl ?_
              refine oYg (g := 110) rfl rfl rfl rfl (fun W_ hW_ => (X.ldBN rfl hW_.1 Try.underlying71 rfl siz71)) rfl ?_
              refine oYg (g := 110) rfl rfl rfl rfl (fun W_ hW_ => (X.ldBN rfl hW_.2 Try.underlying71 rfl siz71)) rfl ?_
              refine oL rfl (fun Q_ hQ_ hP_ => ?_)
              refine gY (g := 110) rfl rfl rfl ?_
              refine sc _ Try.func48 rfl (by kernel_rfl) rfl rfl ((Encode_any _ (makeM (A ++ B)).1 _ (hEz.bel hbB) hz32 (by omega)).mono ?_)
              rintro e_ w31 ⟨rfl, hb⟩
              refine cR ?_
              replace hbw := bthen hbw hb
              replace hbB := bthen hbB hb
              replace hB7 := hB7.bel hb
              replace hB9 := hB9.bel hb
              replace hB11 := hB11.bel hb
              have hz_w31 := hb.size
              clear hb
              refine Wn (hQ_ _ _ (⟨hB9, hB11⟩) ?_)
              clear hQ_ hP_ Q_
              refine oL rfl (fun Q_ hQ_ hP_ => ?_)
              refine gY (g := 110) rfl rfl rfl ?_
              refine sc _ Try.func48 rfl (by kernel_rfl) rfl rfl ((Encode_any _ (makeM (B ++ A)).1 _ (hEy.bel hbB) hy32 (by omega)).mono ?_)
              rintro e_ w32 ⟨rfl, hb⟩
              refine cR ?_
              replace hbw := bthen hbw hb
              replace hbB := bthen hbB hb
              replace hB7 := hB7.bel hb
              replace hB9 := hB9.bel hb
              replace hB11 := hB11.bel hb
              have hz_w32 := hb.size
              clear hb
              refine Wn (hQ_ _ _ (⟨hB9, hB11⟩) ?_)
              clear hQ_ hP_ Q_
              refine oYg (g := 110) rfl rfl rfl rfl (fun W_ hW_ => (X.eqS rfl rfl)) rfl ?_
              refine oY rfl (fun W_ hW_ => (X.pickT rfl rfl)) rfl ?_
              refine oY rfl (fun W_ hW_ => (X.mvB (c := true) rfl (decide_eq_true (by rw [hcomm])))) rfl ?_
              refine oL rfl (fun Q_ hQ_ hP_ => ?_)
              refine gY (g := 117) rfl rfl rfl ?_
              refine sc _ Try.func44 rfl (by kernel_rfl) rfl rfl ((fawake_any _).mono ?_)
              rintro e_ w33 ⟨rfl, hb⟩
              refine cR ?_
              replace hbw := bthen hbw hb
              replace hbB := bthen hbB hb
              replace hB7 := hB7.bel hb
              replace hB9 := hB9.bel hb
              replace hB11 := hB11.bel hb
              have hz_w33 := hb.size
              clear hb
              refine Wn (hQ_ _ _ (⟨hB9, hB11⟩) ?_)
              clear hQ_ hP_ Q_
              refine oY rfl (fun W_ hW_ => (X.pickT rfl rfl)) rfl ?_
              refine oY rfl (fun W_ hW_ => (X.assign rfl)) rfl ?_
              refine oN ?_
              refine nN ?_
              refine W_ret ?_
              exact (rT rfl rfl ⟨rfl, hbw⟩).1
end Go.Proofs.Ytnagmpnpgekhfaa
