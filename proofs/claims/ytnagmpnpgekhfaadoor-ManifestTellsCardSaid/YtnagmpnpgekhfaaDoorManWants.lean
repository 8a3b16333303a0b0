/- cap, s[:j], append(nil, make(..)...). What a manifest wants, and how long its streams are: plain. manifest: slices.Concat at chunks, Wants, Lens. The law ManifestWants. -/
import Derived.Test.YtnagmpnpgekhfaaDoorOps4
import Derived.Lib.AppendZerosOnto
import Derived.Test.YtnagmpnpgekhfaaDoorNetPlain
import Derived.Test.YtnagmpnpgekhfaaDoorNetRun
import Derived.Test.YtnagmpnpgekhfaaDoorManFew
import Derived.Test.YtnagmpnpgekhfaaDoorStillW
import Derived.Test.YtnagmpnpgekhfaaDoorManAwake
import Derived.Test.YtnagmpnpgekhfaaDoorManVal
namespace Go.Proofs.YtnagmpnpgekhfaaDoor
open Go.RowKit
section
variable {P : Program} {N : Nat} {ds : List Deferred} {Q : Post} {l : Env} {w : World} {ops : Array Oper} {rest : List Oper} {x y : Operand} {ty t tn e : TypeId} {pos : String} {aft : Array Edge} {d : Nat} {k : IntKind} {m : Int} {a : Option Addr} {n c size : Nat}
theorem X.capL {ats : Array TypeId} {ad : Option Addr} {q c : Nat} {e : TypeId} (hx : ev l x = some (.slice ad q c)) (ht : ats = #[t]) (hu : P.underlying t = some (.slice e)) : X P l (.call { callee := .builtin .cap, args := #[x], argTypes := ats }) ty w (.int .i64 c) w := fun ρ hρ => by
  subst ht
  unfold execOp
  simp [resolve, invoke, builtin, Builtin.cap_, hρ _ _ hx, run_underlying hu, goInt]
theorem X.toLE {j : Nat} (hx : ev l x = some (.slice a n c)) (hy : ev l y = some (.int k m)) (hu : P.underlying t = some (.slice e)) (hi : (P.info? e).map (·.size) = some size) (hm : m = (j : Int)) (hin : j ≤ c) : X P l (.slice t x none (some y) none) ty w (sliced a 0 j c size) w := fun ρ hρ => by
  subst hm
  have he : P.elem t = e := by unfold Program.elem; rw [hu]
  have hs : (sizeOf e).run P w = .ok size w := by
    obtain ⟨q, hq, hs⟩ := Option.map_eq_some_iff.1 hi
    simp [sizeOf, typeInfo, hq, hs]
  have := run_slice_h (P := P) w t a n c (by rw [he]; exact hu) k (j : Int) (by omega) (by omega)
  unfold execOp
  simp [hρ _ _ hx, hρ _ _ hy, Instr.sliceAt, run_underlying hu, this, he, hs, Result.andThen]
/-- append(nil, make(..)...) -/
theorem sappZ {z : Value} {size bytes q : Nat} (hx : ev l x = some (.slice none 0 0)) (hy : ev l y = some (.int .i64 m)) (hm : m = (q : Int)) (ht : P.underlying t = some (.slice e)) (htn : P.underlying tn = some (.int .i64)) (hinfo : (P.info? e).map (fun i => (i.zero, i.size, i.bytes)) = some (some z, size, bytes)) (hzs : z.cells.size = size) (hsz : 0 < size) (h0 : 0 < q)
    (h63 : q ≤ maxLen) (hbytes : q * bytes ≤ 140737488355328) (hd : Nat.blt d N = true)
    (h : ∀ v' w', Row w' e size v' q (Builtin.zeroCells z.cells q).toList → Below w.heap.size w w' → (∀ b, v'.ownBlock = some b → w.heap.size ≤ b) → WL P N ds ops Q rest ((d, v') :: l) w') :
    WL P N ds ops Q (⟨some d, .call { callee := .builtin .append, args := #[x, y], argTypes := #[t, tn] }, ty, pos, aft, none⟩ :: rest) l w := by
  subst hm
  obtain ⟨i, hi, hz, hsize, hby⟩ := info_of hinfo
  subst hsize hby
  have hsmall : q ≤ 9223372036854775807 := by simp only [maxLen] at h63; omega
  have hr := Lib.run_append_grow_zeros (P := P) w t tn ty e i z .i64 .i64 ht htn hi hz none 0 0 [] (by simp [Builtin.firstCells]) q h0 hsz (by omega) (by omega) (by omega) (growslice_fits (by omega) (by simpa using hbytes))
  have hge := grownCap_ge w (0 + q) 0 e
  have hcm : grownCap w (0 + q) 0 e ≤ maxLen := grownCap_le_maxLen w (0 + q) 0 e (by omega)
  have hzl : (Builtin.zeroCells z.cells q).size = q * i.size := by rw [size_zeroCells, hzs]
  have hrow : Row (w.drew.alloc (.cells (([] : List Value).toArray ++ Builtin.zeroCells z.cells q ++ Builtin.zeroCells z.cells (grownCap w (0 + q) 0 e - (0 + q))) e)) e i.size (.slice (some ⟨w.heap.size, 0, none⟩) (0 + q) (grownCap w (0 + q) 0 e)) q (Builtin.zeroCells z.cells q).toList := by
    refine ⟨by rw [Array.length_toList, hzl], .inr ⟨w.heap.size, 0, _, _, (0, 0), by rw [Nat.zero_add], heap_alloc_new w.drew _, by omega, hcm, ?_, ?_, fun j _ => by simp⟩⟩
    · simp only [Array.size_append, List.size_toArray, size_zeroCells, hzs, List.length_nil, Nat.zero_add, ← Nat.add_mul]
      rw [show q + (grownCap w q 0 e - q) = grownCap w q 0 e by rw [Nat.zero_add] at hge; omega]
      omega
    · simp only [Array.toList_append, List.drop_zero, List.nil_append]
      refine List.take_left' ?_
      rw [Array.length_toList, hzl]
  refine st (w' := w.drew.alloc (.cells (([] : List Value).toArray ++ Builtin.zeroCells z.cells q ++ Builtin.zeroCells z.cells (grownCap w (0 + q) 0 e - (0 + q))) e)) (fun ρ hρ => ?_) hd (h _ _ hrow ((bdrew (Below.refl _ _)).alloc (Nat.le_refl _) _) (fun b hb => by simp [Value.ownBlock] at hb; omega))
  unfold execOp
  simp only [resolve, invoke, builtin, Sem.run_bind, Sem.run_pure, Result.andThen_ok, List.map_toArray, List.map_cons, List.map_nil, hρ _ _ hx, hρ _ _ hy, hr]
end
end Go.Proofs.YtnagmpnpgekhfaaDoor
namespace Go.Proofs.YtnagmpnpgekhfaaDoor
open Go.RowKit
def sumL : List Chk → Int
  | [] => 0
  | c :: l => c.len + sumL l
theorem sumL_append (l m : List Chk) : sumL (l ++ m) = sumL l + sumL m := by
  induction l with
  | nil => simp [sumL]
  | cons c l ih => simp only [List.cons_append, sumL, ih]; omega
theorem sumL_split (s : Key) : ∀ l : List Chk, sumL l = tot s l + sumL (l.filter (fun o => decide (o.sum ≠ s)))
  | [] => rfl
  | c :: l => by
    have ih := sumL_split s l
    simp only [sumL, tot, List.filter_cons]
    by_cases h : c.sum = s
    · rw [if_pos h, if_neg (by simpa using h)]
      omega
    · rw [if_neg h, if_pos (by simpa using h)]
      simp only [sumL]
      omega
theorem sumL_merge (y : Chk) : ∀ O : List Chk, sumL (merge y false O) = y.len + sumL (O.filter (fun o => decide (o.sum ≠ y.sum)))
  | [] => by simp [merge, sumL]
  | o :: O => by
    have ih := sumL_merge y O
    by_cases h : o.sum < y.sum
    · have hne : o.sum ≠ y.sum := fun e => klt_irrefl _ (e ▸ h)
      simp only [merge, List.filter_cons]
      rw [if_neg (fun k => k.2 h), if_pos hne, if_pos (by simpa using hne)]
      simp only [h, decide_true, Bool.not_true, Bool.or_self, List.nil_append, List.cons_append, sumL, ih]
      omega
    · simp only [merge, List.filter_cons]
      rw [if_pos ⟨trivial, h⟩]
      simp only [h, decide_false, Bool.not_false, Bool.or_true, merge_true]
      by_cases he : o.sum = y.sum
      · rw [if_neg (fun k => k he), if_neg (by simpa using he)]
        simp [sumL]
      · rw [if_pos he, if_pos (by simpa using he)]
        simp [sumL]
theorem sumL_ins (L : List Chk) (x : Chk) : sumL (ins L x) = sumL L + x.len := by
  unfold ins
  rw [sumL_merge, sumL_split x.sum L]
  simp only
  omega
theorem sumL_rev : ∀ l : List Chk, sumL (allM l.reverse) = sumL l.reverse
  | [] => rfl
  | c :: l => by
    rw [List.reverse_cons, allM_snoc, sumL_ins, sumL_append, sumL_rev l]
    simp [sumL]
theorem sumL_all (l : List Chk) : sumL (allM l) = sumL l := by
  have := sumL_rev l.reverse
  rwa [List.reverse_reverse] at this
theorem sumL_nz : ∀ l : List Chk, sumL (l.filter fun c => decide (c.len ≠ 0)) = sumL l
  | [] => rfl
  | c :: l => by
    have ih := sumL_nz l
    rw [List.filter_cons]
    by_cases h : c.len = 0
    · rw [if_neg (by simpa using h), ih, sumL, h]
      omega
    · rw [if_pos (by simpa using h), sumL, sumL, ih]
theorem sumL_net (l : List Chk) : sumL (netM l) = sumL l := (sumL_nz _).trans (sumL_all l)
def onesOf (l : List Chk) : List Chk := l.map fun c => ⟨c.sum, 1⟩
theorem onesOf_length (l : List Chk) : (onesOf l).length = l.length := List.length_map _
theorem onesOf_sum : ∀ l : List Chk, sumL (onesOf l) = l.length
  | [] => rfl
  | c :: l => by
    have := onesOf_sum l
    simp only [onesOf, List.map_cons, sumL, List.length_cons] at *
    omega
theorem onesOf_32 {l : List Chk} (h : ∀ c ∈ l, c.sum.length = 32) : ∀ c ∈ onesOf l, c.sum.length = 32 := fun c hc => by
  obtain ⟨d, hd, rfl⟩ := List.mem_map.1 hc
  exact h d hd
theorem tot_ones (a : Key) : ∀ l : List Chk, 0 ≤ tot a (onesOf l)
  | [] => Int.le_refl _
  | c :: l => by
    have := tot_ones a l
    simp only [onesOf, List.map_cons, tot] at *
    split <;> omega
theorem net_ones {l : List Chk} {c : Chk} (h : c ∈ netM (onesOf l)) : 1 ≤ c.len := by
  have := ((isNet (onesOf l)).mem c).1 h
  have h2 := tot_ones c.sum l
  omega
theorem net_ones_le {l : List Chk} {c : Chk} (h : c ∈ netM (onesOf l)) : c.len ≤ l.length := by
  have h1 := ((isNet (onesOf l)).mem c).1 h
  have h2 : ∀ m : List Chk, tot c.sum (onesOf m) ≤ m.length := fun m => by
    induction m with
    | nil => exact Int.le_refl _
    | cons d m ih =>
      simp only [onesOf, List.map_cons, tot, List.length_cons] at *
      split <;> omega
  have := h2 l
  omega
/-- the sum as the machine makes it -/
def wsum (l : List Chk) : Int := l.foldl (fun a c => IntKind.i64.wrap (a + c.len)) 0
theorem wsum_snoc (l : List Chk) (c : Chk) : wsum (l ++ [c]) = IntKind.i64.wrap (wsum l + c.len) := by
  unfold wsum
  rw [List.foldl_append]
  rfl
theorem wsum_range (l : List Chk) : -9223372036854775808 ≤ wsum l ∧ wsum l ≤ 9223372036854775807 := by
  rcases List.eq_nil_or_concat l with rfl | ⟨m, c, rfl⟩
  · exact ⟨by decide, by decide⟩
  · rw [List.concat_eq_append, wsum_snoc, IntKind.wrap_i64]
    omega
theorem sumL_take {l : List Chk} {j : Nat} {x : Chk} (h : l[j]? = some x) : sumL (l.take (j + 1)) = sumL (l.take j) + x.len := by
  rw [take_next' h, sumL_append]
  simp [sumL]
theorem sumL_small {l : List Chk} (h : ∀ c ∈ l, 0 ≤ c.len ∧ c.len ≤ 1000000) : 0 ≤ sumL l ∧ sumL l ≤ 1000000 * l.length := by
  induction l with
  | nil => exact ⟨Int.le_refl _, by simp [sumL]⟩
  | cons c l ih =>
    have h1 := ih (fun d hd => h d (by simp [hd]))
    have h2 := h c (by simp)
    simp only [sumL, List.length_cons]
    omega
theorem wsum_eq {l : List Chk} (h : ∀ c ∈ l, 0 ≤ c.len ∧ c.len ≤ 1000000) (hl : l.length ≤ 1000000) : wsum l = sumL l := by
  have key : ∀ j, j ≤ l.length → wsum (l.take j) = sumL (l.take j) := by
    intro j
    induction j with
    | zero => intro _; rfl
    | succ j ih =>
      intro hj
      obtain ⟨x, hx⟩ : ∃ x, l[j]? = some x := ⟨_, List.getElem?_eq_getElem (by omega)⟩
      have hs := sumL_small (l := l.take (j + 1)) (fun c hc => h c (List.mem_of_mem_take hc))
      have hlt : (l.take (j + 1)).length ≤ 1000000 := by rw [List.length_take]; omega
      rw [sumL_take hx] at hs ⊢
      rw [take_next' hx, wsum_snoc, ih (by omega), w64 (by omega)]
  have := key l.length (Nat.le_refl _)
  rwa [List.take_length] at this
end Go.Proofs.YtnagmpnpgekhfaaDoor
namespace Go.Proofs.YtnagmpnpgekhfaaDoor
open Go.RowKit
theorem GrowC_any (k : Nat) (w : World) (hk : k ≤ 1000000) : Calls Tryd.prog 49 #[.slice none 0 0, .int .i64 k] w fun e w' => ∃ v', e = .returned v' ∧ Row w' 55 33 v' 0 [] ∧ (∀ b, v'.ownBlock = some b → w.heap.size ≤ b) ∧ Below w.heap.size w w' := by
  refine W_enter (args := [.slice none 0 0, .int .i64 k]) 27 Tryd.func49 rfl rfl rfl ?_
  refine W_sub [(0, .slice none 0 0), (1, .int .i64 k)] ?_ ⟨rfl, rfl, trivial⟩
  have hbw := Below.refl w.heap.size w
  refine W_rs ?_
  refine sa rfl rfl ?_
  refine Wn ?_
  refine tN ?_
  refine W_seq ?_
  refine W_rs ?_
  refine sm rfl rfl ?_
  refine st (X.lss rfl rfl) rfl ?_
  refine Wn ?_
  refine tN ?_
  refine W_if rfl (fun h6 => ?_) (fun h6 => ?_)
  · first | replace h6 := of_decide_eq_true h6 | replace h6 := of_decide_eq_false (notT h6) | replace h6 := notT h6 | skip
    omega
  · first | replace h6 := of_decide_eq_false h6 | replace h6 := of_decide_eq_true (notF h6) | replace h6 := notF h6 | skip
    refine W_skip ?_
    refine tN ?_
    refine W_seq ?_
    refine W_rs ?_
    refine sm rfl rfl ?_
    refine sm rfl rfl ?_
    refine st (X.capL rfl rfl Tryd.underlying51) rfl ?_
    refine sm rfl rfl ?_
    refine st (X.lenL rfl rfl Tryd.underlying51) rfl ?_
    refine st (X.sub64 rfl rfl (by omega)) rfl ?_
    refine st (X.sub64 rfl rfl (by omega)) rfl ?_
    refine sa rfl rfl ?_
    refine Wn ?_
    refine tN ?_
    refine W_rs ?_
    refine sm rfl rfl ?_
    refine st (X.gtr rfl rfl) rfl ?_
    refine Wn ?_
    refine tN ?_
    refine W_if rfl (fun h16 => ?_) (fun h16 => ?_)
    · first | replace h16 := of_decide_eq_true h16 | replace h16 := of_decide_eq_false (notT h16) | replace h16 := notT h16 | skip
      have hk0 : 0 < k := by omega
      refine W_reg ?_
      refine sm rfl rfl ?_
      refine sm rfl rfl ?_
      refine st (X.capL rfl rfl Tryd.underlying51) rfl ?_
      refine st (X.toLE (j := 0) rfl rfl Tryd.underlying51 siz55 rfl (by omega)) rfl ?_
      refine sm rfl rfl ?_
      refine sappZ (q := k) rfl rfl (by omega) Tryd.underlying51 Tryd.underlying3 inf55 rfl (by decide) hk0 (by simp only [maxLen]; omega) (by omega) rfl (fun v' w1 hR hb hO => ?_)
      replace hbw := bthen hbw hb
      have hz55 := hb.size
      clear hb
      obtain ⟨a', c', rfl, hn', hc'⟩ := hR.shape
      have hR0 := hR.cut rfl 0 0 (Nat.le_refl _) (Nat.zero_le _)
      rw [Nat.zero_mul, List.take_zero, List.drop_zero] at hR0
      refine sm rfl rfl ?_
      refine st (X.lenL rfl rfl Tryd.underlying51) rfl ?_
      refine st (X.toLE (j := 0) rfl rfl Tryd.underlying51 siz55 rfl (by omega)) rfl ?_
      refine sa rfl rfl ?_
      refine Wn ?_
      refine tN ?_
      refine W_rs ?_
      refine sm rfl rfl ?_
      refine sa rfl rfl ?_
      refine Wn ?_
      refine tN ?_
      refine W_ret ?_
      exact (rT rfl rfl ⟨_, rfl, hR0, fun b hb => by have := hO b (ownBlock_sliced hb); omega, hbw⟩).1
    · first | replace h16 := of_decide_eq_false h16 | replace h16 := of_decide_eq_true (notF h16) | replace h16 := notF h16 | skip
      refine W_skip ?_
      refine tN ?_
      refine W_rs ?_
      refine sm rfl rfl ?_
      refine sa rfl rfl ?_
      refine Wn ?_
      refine tN ?_
      refine W_ret ?_
      exact (rT rfl rfl ⟨_, rfl, Row.nil _ _ _, fun b hb => by simp [Value.ownBlock] at hb, hbw⟩).1
theorem flat_len_take {α : Type} (ls : List (List α)) (j : Nat) : (ls.take j).flatten.length ≤ ls.flatten.length := by
  have : ls.flatten = (ls.take j).flatten ++ (ls.drop j).flatten := by rw [← List.flatten_append, List.take_append_drop]
  rw [this, List.length_append]
  omega
theorem flat_next {α : Type} {ls : List (List α)} {j : Nat} {l : List α} (h : ls[j]? = some l) : (ls.take (j + 1)).flatten = (ls.take j).flatten ++ l := by
  rw [take_next' h, List.flatten_append]
  simp
theorem chks_one {l : List Chk} : ∀ u ∈ l.flatMap Chk.cells, u.oneCell' = true := fun u hu => by
  obtain ⟨e, _, hu⟩ := List.mem_flatMap.1 hu
  have := Chk.cells_one e
  rw [List.all_eq_true] at this
  exact this u hu
theorem ConcatC_any (v : Value) (ls : List (List Chk)) (w : World) (h : RowsAt 33 Chk.cells w v ls) (hl : ls.flatten.length ≤ 1000000) (hll : ls.length ≤ 1000000) :
    Calls Tryd.prog 36 #[v] w fun e w' => ∃ v', e = .returned v' ∧ Row w' 55 33 v' ls.flatten.length (ls.flatten.flatMap Chk.cells) ∧ (∀ b, v'.ownBlock = some b → w.heap.size ≤ b) ∧ Below w.heap.size w w' := by
  obtain ⟨vs, hV, hE⟩ := h
  obtain ⟨a, cp, rfl, hn, hcp⟩ := hV.shape
  refine W_enter (args := [.slice a ls.length cp]) 36 Tryd.func36 rfl rfl rfl ?_
  refine W_sub [(0, .slice a ls.length cp)] ?_ ⟨rfl, trivial⟩
  have hbw := Below.refl w.heap.size w
  refine W_rs ?_
  refine sa rfl rfl ?_
  refine Wn ?_
  refine tN ?_
  refine W_rs ?_
  refine sa rfl rfl ?_
  refine Wn ?_
  refine tN ?_
  refine W_seq ?_
  refine W_rs ?_
  refine sm rfl rfl ?_
  refine st (X.lenL rfl rfl Tryd.underlying24) rfl ?_
  refine sm rfl rfl ?_
  refine Wn ?_
  refine tN ?_
  refine W_block ?_
  refine W_lp (fun nw1_ lw1_ w1 => ∃ j : Nat, nw1_ = ls.length - j ∧ lw1_ = ([(0, .slice a ls.length cp), (3, .int .i64 ((ls.take j).flatten.length : Nat)), (9, .slice a ls.length cp), (10, .int .i64 ls.length), (11, .int .i64 j)] : Env) ∧ (j ≤ ls.length) ∧ (Below w.heap.size w w1)) _ ⟨_, ⟨0, rfl, rfl, by omega, hbw⟩, ⟨rfl, rfl, rfl, rfl, rfl, trivial⟩⟩ ?_
  clear hbw
  rintro nw1_ lw1_ w1 ⟨j, rfl, rfl, hj, hbw⟩
  have hz_w1 := hbw.size
  refine W_rs ?_
  refine st (X.lss rfl rfl) rfl ?_
  refine Wn ?_
  refine tN ?_
  refine W_seq ?_
  refine W_if rfl (fun h12 => ?_) (fun h12 => ?_)
  · first | replace h12 := of_decide_eq_true h12 | replace h12 := of_decide_eq_false (notT h12) | replace h12 := notT h12 | skip
    obtain ⟨x, hx⟩ : ∃ x, ls[j]? = some x := ⟨_, List.getElem?_eq_getElem (by omega)⟩
    obtain ⟨u, hu, hur⟩ := hE j x hx
    obtain ⟨au, cu, rfl, _, _⟩ := hur.shape
    obtain ⟨g1, o1, c', hv, hg1⟩ := (hV.bel hbw).some_ (by omega)
    injection hv with e1 _ e3
    subst e1 e3
    have hln := flat_len_take ls (j + 1)
    rw [flat_next hx, List.length_append] at hln
    refine W_skip ?_
    refine tN ?_
    refine W_seq ?_
    refine W_block ?_
    refine W_rs ?_
    refine st (X.idxA rfl rfl Tryd.underlying24 siz51 rfl (by omega)) rfl ?_
    refine st (X.ld rfl Tryd.underlying51 rfl (by rw [Nat.mul_one]; exact (hV.bel hbw).cellAt (by omega) hu)) rfl ?_
    refine sa rfl rfl ?_
    refine Wn ?_
    refine tN ?_
    refine W_rs ?_
    refine sm rfl rfl ?_
    refine sm rfl rfl ?_
    refine st (X.lenL rfl rfl Tryd.underlying51) rfl ?_
    refine st (X.add64 rfl rfl (by omega)) rfl ?_
    refine sa rfl rfl ?_
    refine Wn ?_
    refine tN ?_
    refine W_rs ?_
    refine sm rfl rfl ?_
    refine st (X.lss rfl rfl) rfl ?_
    refine Wn ?_
    refine tN ?_
    refine W_if rfl (fun h20 => ?_) (fun h20 => ?_)
    · first | replace h20 := of_decide_eq_true h20 | replace h20 := of_decide_eq_false (notT h20) | replace h20 := notT h20 | skip
      omega
    · first | replace h20 := of_decide_eq_false h20 | replace h20 := of_decide_eq_true (notF h20) | replace h20 := notF h20 | skip
      refine W_skip ?_
      refine bN ?_
      refine tN ?_
      refine W_reg ?_
      refine st (X.add64 rfl rfl (by omega)) rfl ?_
      refine sm rfl rfl ?_
      refine Wn ?_
      refine tN ⟨_, _, ?_, ⟨j + 1, rfl, rfl, by omega, hbw⟩, ⟨rfl, by rw [flat_next hx, List.length_append]; rfl, rfl, rfl, rfl, trivial⟩⟩
      omega
  · first | replace h12 := of_decide_eq_false h12 | replace h12 := of_decide_eq_true (notF h12) | replace h12 := notF h12 | skip
    obtain rfl : j = ls.length := by omega
    rw [List.take_length]
    refine W_exit (tE (tE (bH ?_)))
    refine tN ?_
    refine W_rs ?_
    refine sm rfl rfl ?_
    refine sc _ Tryd.func49 rfl (by kernel_rfl) rfl rfl ((GrowC_any ls.flatten.length _ hl).mono ?_)
    rintro e_ w2 ⟨v6, rfl, hR6, hO6, hb⟩
    refine cR ?_
    replace hbw := bthen hbw hb
    have hz_w2 := hb.size
    clear hb
    refine sa rfl rfl ?_
    refine Wn ?_
    refine tN ?_
    refine W_seq ?_
    refine W_rs ?_
    refine sm rfl rfl ?_
    refine st (X.lenL rfl rfl Tryd.underlying24) rfl ?_
    refine sm rfl rfl ?_
    refine Wn ?_
    refine tN ?_
    refine W_block ?_
    have hO6' : ∀ b, v6.ownBlock = some b → w.heap.size ≤ b := fun b hb => by have := hO6 b hb; omega
    refine W_lp (fun nw3_ lw3_ w3 => ∃ j : Nat, ∃ v6 : Value, nw3_ = ls.length - j ∧ lw3_ = ([(6, v6), (25, .slice a ls.length cp), (26, .int .i64 ls.length), (27, .int .i64 j)] : Env) ∧ (j ≤ ls.length) ∧ (Row w3 55 33 v6 (ls.take j).flatten.length ((ls.take j).flatten.flatMap Chk.cells)) ∧ (∀ b, v6.ownBlock = some b → w.heap.size ≤ b) ∧ (Below w.heap.size w w3)) _ ⟨_, ⟨0, v6, rfl, rfl, by omega, hR6, hO6', hbw⟩, ⟨rfl, rfl, rfl, rfl, trivial⟩⟩ ?_
    clear hbw
    rintro nw3_ lw3_ w3 ⟨j, v6, rfl, rfl, hj, hR, hO, hbw⟩
    have hz_w3 := hbw.size
    refine W_rs ?_
    refine st (X.lss rfl rfl) rfl ?_
    refine Wn ?_
    refine tN ?_
    refine W_seq ?_
    refine W_if rfl (fun h28 => ?_) (fun h28 => ?_)
    · first | replace h28 := of_decide_eq_true h28 | replace h28 := of_decide_eq_false (notT h28) | replace h28 := notT h28 | skip
      obtain ⟨x, hx⟩ : ∃ x, ls[j]? = some x := ⟨_, List.getElem?_eq_getElem (by omega)⟩
      obtain ⟨u, hu, hur⟩ := hE j x hx
      obtain ⟨au, cu, rfl, _, _⟩ := hur.shape
      obtain ⟨g1, o1, c', hv, hg1⟩ := (hV.bel hbw).some_ (by omega)
      injection hv with e1 _ e3
      subst e1 e3
      have hln := flat_len_take ls (j + 1)
      rw [flat_next hx, List.length_append] at hln
      refine W_skip ?_
      refine tN ?_
      refine W_seq ?_
      refine W_block ?_
      refine W_rs ?_
      refine st (X.idxA rfl rfl Tryd.underlying24 siz51 rfl (by omega)) rfl ?_
      refine st (X.ld rfl Tryd.underlying51 rfl (by rw [Nat.mul_one]; exact (hV.bel hbw).cellAt (by omega) hu)) rfl ?_
      refine sa rfl rfl ?_
      refine Wn ?_
      refine tN ?_
      refine W_reg ?_
      refine sm rfl rfl ?_
      refine sm rfl rfl ?_
      refine sapp rfl rfl Tryd.underlying51 inf55 rfl (by decide) hR ((hur.bel hbw).src Tryd.underlying51 chks_one) (by simp only [maxLen]; omega) (by omega) rfl (fun v6' w4 hR' hC hv' => ?_)
      replace hbw := bapp hbw hC hO
      have hO' := own_next hv' hO (by omega)
      replace hR' : Row w4 55 33 v6' (ls.take (j + 1)).flatten.length ((ls.take (j + 1)).flatten.flatMap Chk.cells) := by rw [flat_next hx, List.length_append, List.flatMap_append]; exact hR'
      clear hC hv'
      refine sa rfl rfl ?_
      refine Wn ?_
      refine bN ?_
      refine tN ?_
      refine W_reg ?_
      refine st (X.add64 rfl rfl (by omega)) rfl ?_
      refine sm rfl rfl ?_
      refine Wn ?_
      refine tN ⟨_, _, ?_, ⟨j + 1, v6', rfl, rfl, by omega, hR', hO', hbw⟩, ⟨rfl, rfl, rfl, rfl, trivial⟩⟩
      omega
    · first | replace h28 := of_decide_eq_false h28 | replace h28 := of_decide_eq_true (notF h28) | replace h28 := notF h28 | skip
      obtain rfl : j = ls.length := by omega
      rw [List.take_length] at hR
      refine W_exit (tE (tE (bH ?_)))
      refine tN ?_
      refine W_rs ?_
      refine sm rfl rfl ?_
      refine sa rfl rfl ?_
      refine Wn ?_
      refine tN ?_
      refine W_ret ?_
      exact (rT rfl rfl ⟨v6, rfl, hR, hO, hbw⟩).1
/- ---------- Wants ---------- -/
theorem chk_one1 (c : Chk) : ∀ u ∈ c.cells, u.oneCell' = true := fun u hu => by
  have := Chk.cells_one c
  rw [List.all_eq_true] at this
  exact this u hu
theorem StrsAt.rows {w : World} {v : Value} {ls : List (List Chk)} (h : StrsAt w v ls) : RowsAt 33 Chk.cells w v ls := by
  obtain ⟨vs, h1, h2⟩ := h
  exact ⟨vs, h1, fun i l hl => by obtain ⟨u, hu, hc⟩ := h2 i l hl; exact ⟨u, hu, hc.1⟩⟩
theorem StrsAt.all32 {w : World} {v : Value} {ls : List (List Chk)} (h : StrsAt w v ls) : ∀ c ∈ ls.flatten, c.sum.length = 32 := fun c hc => by
  obtain ⟨l, hl, hc⟩ := List.mem_flatten.1 hc
  obtain ⟨i, hi⟩ := List.mem_iff_getElem?.1 hl
  obtain ⟨vs, h1, h2⟩ := h
  obtain ⟨u, hu, hk⟩ := h2 i l hi
  exact hk.2 c hc
theorem tame_ones (l : List Chk) : Tame (onesOf l) := fun c hc => by
  obtain ⟨d, hd, rfl⟩ := List.mem_map.1 hc
  exact ⟨show (-1099511627776 : Int) ≤ 1 by decide, show (1 : Int) ≤ 1099511627776 by decide⟩
theorem ones_take {l : List Chk} {j : Nat} {x : Chk} (hx : l[j]? = some x) : onesOf (l.take (j + 1)) = onesOf (l.take j) ++ [⟨x.sum, 1⟩] := by
  rw [take_next' hx]
  simp [onesOf]
set_option maxRecDepth 10000 in
theorem Wants_any (m : Man) (vc vs : Value) (w : World) (hs : StrsAt w vs m.strs) (hl : m.strs.flatten.length ≤ 1000000) (hll : m.strs.length ≤ 1000000) :
    Calls Tryd.prog 18 #[manV m vc vs] w fun e w' => ∃ v', e = .returned v' ∧ Row w' 57 33 v' (netM (onesOf m.strs.flatten)).length ((netM (onesOf m.strs.flatten)).flatMap Chk.cells) ∧ (∀ k, v'.ownBlock = some k → w.heap.size ≤ k) ∧ Below w.heap.size w w' := by
  have h32 := hs.all32
  obtain ⟨F, hF⟩ : ∃ F, m.strs.flatten = F := ⟨_, rfl⟩
  refine W_enter (args := [.agg #[.int .i64 m.id, .int .i64 m.rows, vc, vs]]) 23 Tryd.func18 rfl rfl rfl ?_
  refine W_sub [(0, .agg #[.int .i64 m.id, .int .i64 m.rows, vc, vs])] ?_ ⟨rfl, trivial⟩
  have hbw := Below.refl w.heap.size w
  refine W_rs ?_
  refine sboxA rfl rfl (fun g1 w1 hB1 hg1 hb hl1 => ?_)
  replace hbw := bthen hbw hb
  have hz_w1 := hb.size
  clear hb
  refine sa rfl rfl ?_
  refine Wn ?_
  refine tN ?_
  refine W_rs ?_
  refine sa rfl rfl ?_
  refine Wn ?_
  refine tN ?_
  refine W_seq ?_
  refine W_rs ?_
  refine st (X.fa fa26_3 rfl) rfl ?_
  refine st (X.ldL rfl hB1 Tryd.underlying24 rfl rfl) rfl ?_
  refine sc _ Tryd.func36 rfl (by kernel_rfl) rfl rfl ((ConcatC_any _ m.strs _ (hs.bel hbw).rows hl hll).mono ?_)
  rintro e_ w2 ⟨v8, rfl, hR8, hO8, hb⟩
  refine cR ?_
  replace hbw := bthen hbw hb
  replace hB1 := hB1.bel hb
  have hz_w2 := hb.size
  clear hb
  rw [hF] at hR8 h32 hl ⊢
  obtain ⟨a8, c8, rfl, hn8, hc8⟩ := hR8.shape
  have hF8 : ChksAt w2 (.slice a8 F.length c8) F := ⟨hR8.reads, h32⟩
  clear hR8
  refine st (X.lenL rfl rfl Tryd.underlying51) rfl ?_
  refine sm rfl rfl ?_
  refine Wn ?_
  refine tN ?_
  refine W_block ?_
  obtain ⟨wB, hwB⟩ : ∃ W_ : World, W_ = w2 := ⟨_, rfl⟩
  have hbB : Below wB.heap.size wB w2 := by rw [hwB]; exact Below.refl _ _
  have hwBz : w.heap.size ≤ wB.heap.size := by rw [hwB]; exact hbw.size
  rw [← hwB] at hF8
  clear hwB
  refine W_lp (fun nw3_ lw3_ w3 => ∃ j : Nat, ∃ v3 : Value, nw3_ = F.length - j ∧ lw3_ = ([(3, v3), (8, .slice a8 F.length c8), (9, .int .i64 F.length), (10, .int .i64 j)] : Env) ∧ (j ≤ F.length) ∧ (Row w3 57 33 v3 (onesOf (F.take j)).length ((onesOf (F.take j)).flatMap Chk.cells)) ∧ (∀ k, v3.ownBlock = some k → wB.heap.size ≤ k) ∧ (Below wB.heap.size wB w3) ∧ (Below w.heap.size w w3)) _ ⟨_, ⟨0, .slice none 0 0, rfl, rfl, by omega, Row.nil _ _ _, (fun k hk => by simp [Value.ownBlock] at hk), hbB, hbw⟩, ⟨rfl, rfl, rfl, rfl, trivial⟩⟩ ?_
  clear hbB hbw
  rintro nw3_ lw3_ w3 ⟨j, v3, rfl, rfl, hj, hR, hO, hbB, hbw⟩
  have hz_w3 := hbw.size
  have hz_hbB_w3 := hbB.size
  refine W_rs ?_
  refine st (X.lss rfl rfl) rfl ?_
  refine Wn ?_
  refine tN ?_
  refine W_seq ?_
  refine W_if rfl (fun h11 => ?_) (fun h11 => ?_)
  · first | replace h11 := of_decide_eq_true h11 | replace h11 := of_decide_eq_false (notT h11) | replace h11 := notT h11 | skip
    obtain ⟨x, hx⟩ : ∃ x, F[j]? = some x := ⟨_, List.getElem?_eq_getElem (by omega)⟩
    obtain ⟨g1, o1, c', hv, hg1⟩ := (hF8.1.bel hbB).some_ (by omega)
    injection hv with e1 _ e3
    subst e1 e3
    have hxs := h32 x (List.mem_of_getElem? hx)
    have hol : (onesOf (F.take j)).length ≤ 1000000 := by rw [onesOf_length, List.length_take]; omega
    refine W_skip ?_
    refine tN ?_
    refine W_seq ?_
    refine W_block ?_
    refine W_rs ?_
    refine st (X.idxA rfl rfl Tryd.underlying51 siz55 rfl (by omega)) rfl ?_
    refine st (X.ldN (cs := x.cells) rfl Tryd.underlying55 rfl (by rw [Chk.cells_length hxs]; exact siz55) (ChksAt.range (hF8.bel hbB) hx)) rfl ?_
    refine salA inf55 rfl (fun g5 w4 hB5 hg5 hb hl5 => ?_)
    have hpend := hb
    replace hbw := bthen hbw hb
    replace hbB := bthen hbB hb
    have hz_w4 := hb.size
    clear hb
    refine ssBN rfl rfl hB5 (by rw [Chk.size hxs]; exact siz55) (by rw [Chk.size hxs]; rfl) (Chk.cells_one x) (fun w5 hB_ hc_ => ?_)
    replace hB5 := hB_
    clear hB_
    replace hpend := bset hpend hc_ (by omega)
    replace hbw := bset hbw hc_ (by omega)
    replace hbB := bset hbB hc_ (by omega)
    have hz_w5 := hc_.size
    clear hc_
    refine Wn ?_
    refine tN ?_
    refine W_reg ?_
    refine sm rfl rfl ?_
    refine st (X.fa fa55_0 rfl) rfl ?_
    refine st (X.ldN (cs := x.sum.map bv) rfl Tryd.underlying53 rfl (by rw [List.length_map, hxs]; exact siz53) (sumRange hB5.range)) rfl ?_
    refine st (X.bld rfl (bdelta x.sum hxs 1 _)) rfl ?_
    replace hR := hR.bel hpend
    clear hpend
    refine sbs1 rfl Tryd.underlying47 inf57 (Chk.size (c := ⟨x.sum, 1⟩) hxs) rfl (by decide) (by decide) rfl (fun g18 w6 hR18 hg18 hb => ?_)
    replace hbw := bthen hbw hb
    replace hbB := bthen hbB hb
    replace hR := hR.bel hb
    replace hB5 := hB5.bel hb
    have hz54 := hb.size
    clear hb
    refine sapp rfl rfl Tryd.underlying47 inf57 rfl (by decide) hR (hR18.reads.src Tryd.underlying47 (chk_one1 ⟨x.sum, 1⟩)) (by simp only [maxLen]; omega) (by omega) rfl (fun v3' w7 hR' hC hv' => ?_)
    replace hbw := bapp hbw hC (fun k hk => by have := hO k hk; omega)
    have hO' := own_next hv' hO (by have := hbB.size; omega)
    replace hbB := bapp hbB hC hO
    replace hR' : Row w7 57 33 v3' (onesOf (F.take (j + 1))).length ((onesOf (F.take (j + 1))).flatMap Chk.cells) := by rw [ones_take hx, List.length_append, List.flatMap_append, List.flatMap_singleton]; exact hR'
    clear hC hv'
    refine sa rfl rfl ?_
    refine Wn ?_
    refine bN ?_
    refine tN ?_
    refine W_reg ?_
    refine st (X.add64 rfl rfl (by omega)) rfl ?_
    refine sm rfl rfl ?_
    refine Wn ?_
    refine tN ⟨_, _, ?_, ⟨j + 1, v3', rfl, rfl, by omega, hR', hO', hbB, hbw⟩, ⟨rfl, rfl, rfl, rfl, trivial⟩⟩
    omega
  · first | replace h11 := of_decide_eq_false h11 | replace h11 := of_decide_eq_true (notF h11) | replace h11 := notF h11 | skip
    obtain rfl : j = F.length := by omega
    rw [List.take_length] at hR
    refine W_exit (tE (tE (bH ?_)))
    refine tN ?_
    refine W_rs ?_
    refine sm rfl rfl ?_
    refine sc _ Tryd.func37 rfl (by kernel_rfl) rfl rfl ((Net_any v3 (onesOf F) _ ⟨hR.reads, onesOf_32 h32⟩ (by rw [onesOf_length]; exact hl) (tame_ones F)).mono ?_)
    rintro e_ w8 ⟨vn, rfl, hN, hOn, hb⟩
    refine cR ?_
    have hpend := hb
    replace hbw := bthen hbw hb
    replace hbB := bthen hbB hb
    have hz_w8 := hb.size
    clear hb
    refine sa rfl rfl ?_
    refine Wn ?_
    refine tN ?_
    replace hR := hR.bel hpend
    clear hpend
    refine W_ret ?_
    exact (rT rfl rfl ⟨vn, rfl, hN, fun k hk => by have := hOn k hk; omega, hbw⟩).1
/- ---------- Lens ---------- -/
def LensTo (cs : Array Value) (ls : List (List Chk)) (j : Nat) : Prop := cs.size = ls.length ∧ ∀ (i : Nat) (l : List Chk), ls[i]? = some l → cs[i]? = some (.int .i64 (if i < j then wsum l else 0))
theorem LensTo.next {cs : Array Value} {ls : List (List Chk)} {j : Nat} {x : List Chk} (h : LensTo cs ls j) (hx : ls[j]? = some x) : LensTo (cs.setIfInBounds j (.int .i64 (wsum x))) ls (j + 1) := by
  have hj := (List.getElem?_eq_some_iff.1 hx).1
  refine ⟨by simpa using h.1, fun i l hl => ?_⟩
  rw [Array.getElem?_setIfInBounds]
  by_cases e : j = i
  · subst e
    rw [hx] at hl
    injection hl with hl
    subst hl
    rw [if_pos rfl, if_pos (by rw [h.1]; exact hj), if_pos (by omega)]
  · rw [if_neg e, h.2 i l hl]
    by_cases h1 : i < j
    · rw [if_pos h1, if_pos (by omega)]
    · rw [if_neg h1, if_neg (by omega)]
theorem LensTo.same {cs : Array Value} {ls : List (List Chk)} {j : Nat} {x : List Chk} (h : LensTo cs ls j) (hx : ls[j]? = some x) : cs = cs.setIfInBounds j (.int .i64 (wsum (x.take 0))) := by
  have h1 := h.2 j x hx
  rw [if_neg (Nat.lt_irrefl _)] at h1
  apply Array.ext_getElem?
  intro i
  rw [Array.getElem?_setIfInBounds]
  by_cases e : j = i
  · subst e
    have hj := (List.getElem?_eq_some_iff.1 hx).1
    rw [if_pos rfl, if_pos (by rw [h.1]; exact hj), h1]
    rfl
  · rw [if_neg e]
theorem set_set (cs : Array Value) (j : Nat) (u v : Value) : (cs.setIfInBounds j u).setIfInBounds j v = cs.setIfInBounds j v := by
  apply Array.ext_getElem?
  intro i
  rw [Array.getElem?_setIfInBounds, Array.getElem?_setIfInBounds, Array.getElem?_setIfInBounds, Array.size_setIfInBounds]
  by_cases e : j = i
  · rw [if_pos e, if_pos e]
  · rw [if_neg e, if_neg e, if_neg e]
theorem set_at (cs : Array Value) (j : Nat) (u : Value) (h : j < cs.size) : (cs.setIfInBounds j u)[0 + j * 1]? = some u := by
  rw [Nat.zero_add, Nat.mul_one, Array.getElem?_setIfInBounds, if_pos rfl, if_pos h]
def lensV (ls : List (List Chk)) : List Value := ls.map fun l => .int .i64 (wsum l)
theorem LensTo.all {cs : Array Value} {ls : List (List Chk)} (h : LensTo cs ls ls.length) : cs.toList = lensV ls := by
  apply List.ext_getElem?
  intro i
  rw [Array.getElem?_toList]
  unfold lensV
  rw [List.getElem?_map]
  cases hl : ls[i]? with
  | none =>
    have := List.getElem?_eq_none_iff.1 hl
    rw [Array.getElem?_eq_none (by rw [h.1]; exact this)]
    rfl
  | some l => rw [h.2 i l hl, if_pos (List.getElem?_eq_some_iff.1 hl).1]; rfl
theorem lens_zero (ls : List (List Chk)) : LensTo (madeCells (Value.int IntKind.i64 0).cells (ls.length * 1)) ls 0 := by
  refine ⟨by rw [madeCells_size, Nat.mul_one], fun i l hl => ?_⟩
  have hi := (List.getElem?_eq_some_iff.1 hl).1
  have e : (Value.int IntKind.i64 0).cells = #[Value.int IntKind.i64 0] := rfl
  rw [if_neg (Nat.not_lt_zero _)]
  simp [madeCells, e, Nat.mod_one, hi]
set_option maxRecDepth 10000 in
theorem Lens_any (m : Man) (vc vs : Value) (w : World) (hs : StrsAt w vs m.strs) (hll : m.strs.length ≤ 1000000) (hl : ∀ l ∈ m.strs, l.length ≤ 1000000) :
    Calls Tryd.prog 14 #[manV m vc vs] w fun e w' => ∃ v', e = .returned v' ∧ Row w' 3 1 v' m.strs.length (lensV m.strs) ∧ (∀ k, v'.ownBlock = some k → w.heap.size ≤ k) ∧ Below w.heap.size w w' := by
  obtain ⟨us, hU, hu⟩ := hs
  obtain ⟨sa_, cs_, rfl, hsn, hsc⟩ := hU.shape
  refine W_enter (args := [.agg #[.int .i64 m.id, .int .i64 m.rows, vc, .slice sa_ m.strs.length cs_]]) 37 Tryd.func14 rfl rfl rfl ?_
  refine W_sub [(0, .agg #[.int .i64 m.id, .int .i64 m.rows, vc, .slice sa_ m.strs.length cs_])] ?_ ⟨rfl, trivial⟩
  have hbw := Below.refl w.heap.size w
  refine W_rs ?_
  refine sboxA rfl rfl (fun g1 w1 hB1 hg1 hb hl1 => ?_)
  replace hbw := bthen hbw hb
  have hz_w1 := hb.size
  clear hb
  refine sa rfl rfl ?_
  refine Wn ?_
  refine tN ?_
  refine W_rs ?_
  refine st (X.fa fa26_3 rfl) rfl ?_
  refine st (X.ldL rfl hB1 Tryd.underlying24 rfl rfl) rfl ?_
  refine st (X.lenL rfl rfl Tryd.underlying24) rfl ?_
  refine smkB rfl rfl rfl rfl Tryd.underlying42 inf3 (by omega) (by simp only [maxLen]; omega) rfl (fun gL w2 hLB hgL hb hlL => ?_)
  replace hB1 := hB1.belowAll hb
  replace hbw := bthen hbw hb
  have hz13 := hb.size
  clear hb
  refine sa rfl rfl ?_
  refine Wn ?_
  refine tN ?_
  refine W_seq ?_
  refine W_rs ?_
  refine st (X.fa fa26_3 rfl) rfl ?_
  refine st (X.ldL rfl hB1 Tryd.underlying24 rfl rfl) rfl ?_
  refine st (X.lenL rfl rfl Tryd.underlying24) rfl ?_
  refine sm rfl rfl ?_
  refine Wn ?_
  refine tN ?_
  refine W_block ?_
  refine W_lp (fun nw3_ lw3_ w3 => ∃ j : Nat, ∃ cs : Array Value, nw3_ = m.strs.length - j ∧ lw3_ = ([(3, .slice (some ⟨gL, 0, none⟩) m.strs.length m.strs.length), (13, .slice sa_ m.strs.length cs_), (14, .int .i64 m.strs.length), (15, .int .i64 j)] : Env) ∧ (j ≤ m.strs.length) ∧ (LensTo cs m.strs j) ∧ (Blk w3 gL 3 cs) ∧ (w.heap.size ≤ gL) ∧ (Below w.heap.size w w3)) _ ⟨_, ⟨0, _, rfl, rfl, by omega, lens_zero _, hLB, by omega, hbw⟩, ⟨rfl, rfl, rfl, rfl, trivial⟩⟩ ?_
  clear hLB hbw
  rintro nw3_ lw3_ w3 ⟨j, cs, rfl, rfl, hj, hcs, hLB, hgLw, hbw⟩
  have hz_w3 := hbw.size
  refine W_rs ?_
  refine st (X.lss rfl rfl) rfl ?_
  refine Wn ?_
  refine tN ?_
  refine W_seq ?_
  refine W_if rfl (fun h16 => ?_) (fun h16 => ?_)
  · first | replace h16 := of_decide_eq_true h16 | replace h16 := of_decide_eq_false (notT h16) | replace h16 := notT h16 | skip
    obtain ⟨x, hx⟩ : ∃ x, m.strs[j]? = some x := ⟨_, List.getElem?_eq_getElem (by omega)⟩
    obtain ⟨u, hux, hk⟩ := hu j x hx
    have hxl := hl x (List.mem_of_getElem? hx)
    obtain ⟨ax, cx, rfl, hxn, hxc⟩ := hk.1.shape
    obtain ⟨gs, os_, c', hv, hgs⟩ := (hU.bel hbw).some_ (by omega)
    injection hv with e1 _ e3
    subst e1 e3
    have hsz := hcs.1
    refine W_skip ?_
    refine tN ?_
    refine W_seq ?_
    refine W_block ?_
    refine W_rs ?_
    refine sm rfl rfl ?_
    refine st (X.idxA rfl rfl Tryd.underlying24 siz51 rfl (by omega)) rfl ?_
    refine st (X.ld rfl Tryd.underlying51 rfl (by rw [Nat.mul_one]; exact (hU.bel hbw).cellAt (by omega) hux)) rfl ?_
    refine sa rfl rfl ?_
    refine sa rfl rfl ?_
    refine Wn ?_
    refine tN ?_
    refine W_rs ?_
    refine sm rfl rfl ?_
    refine st (X.lenL rfl rfl Tryd.underlying51) rfl ?_
    refine sm rfl rfl ?_
    refine Wn ?_
    refine tN ?_
    refine W_block ?_
    rw [hcs.same hx] at hLB
    refine W_lp (fun nw4_ lw4_ w4 => ∃ k : Nat, nw4_ = x.length - k ∧ lw4_ = ([(3, .slice (some ⟨gL, 0, none⟩) m.strs.length m.strs.length), (4, .int .i64 j), (13, .slice (some ⟨gs, os_, none⟩) m.strs.length cs_), (14, .int .i64 m.strs.length), (15, .int .i64 j), (20, .slice ax x.length cx), (21, .int .i64 x.length), (22, .int .i64 k)] : Env) ∧ (k ≤ x.length) ∧ (Blk w4 gL 3 (cs.setIfInBounds j (.int .i64 (wsum (x.take k))))) ∧ (w.heap.size ≤ gL) ∧ (Below w.heap.size w w4)) _ ⟨_, ⟨0, rfl, rfl, by omega, hLB, hgLw, hbw⟩, ⟨rfl, rfl, rfl, rfl, rfl, rfl, rfl, rfl, trivial⟩⟩ ?_
    clear hLB hgLw hbw
    rintro nw4_ lw4_ w4 ⟨k, rfl, rfl, hk', hLB, hgLw, hbw⟩
    have hz_w4 := hbw.size
    refine W_rs ?_
    refine st (X.lss rfl rfl) rfl ?_
    refine Wn ?_
    refine tN ?_
    refine W_seq ?_
    refine W_if rfl (fun h23 => ?_) (fun h23 => ?_)
    · first | replace h23 := of_decide_eq_true h23 | replace h23 := of_decide_eq_false (notT h23) | replace h23 := notT h23 | skip
      obtain ⟨c, hc⟩ : ∃ c, x[k]? = some c := ⟨_, List.getElem?_eq_getElem (by omega)⟩
      obtain ⟨g1, o1, c'', hv, hg1⟩ := (hk.1.bel hbw).some_ (by omega)
      injection hv with e1 _ e3
      subst e1 e3
      have hcl := hk.2 c (List.mem_of_getElem? hc)
      have hltL := hLB.lt
      refine W_skip ?_
      refine tN ?_
      refine W_seq ?_
      refine W_block ?_
      refine W_rs ?_
      refine st (X.idxA rfl rfl Tryd.underlying51 siz55 rfl (by omega)) rfl ?_
      refine st (X.ldN (cs := c.cells) rfl Tryd.underlying55 rfl (by rw [Chk.cells_length hcl]; exact siz55) (ChksAt.range (hk.bel hbw) hc)) rfl ?_
      refine salA inf55 rfl (fun g7 w5 hB7 hg7 hb hl7 => ?_)
      replace hbw := bthen hbw hb
      replace hLB := hLB.bel hb
      have hz_w5 := hb.size
      clear hb
      refine ssBN rfl rfl hB7 (by rw [Chk.size hcl]; exact siz55) (by rw [Chk.size hcl]; rfl) (Chk.cells_one c) (fun w6 hB_ hc_ => ?_)
      replace hB7 := hB_
      clear hB_
      replace hLB := hLB.chg hc_ (by first | (show ¬ _ = _; omega) | (intro k_ hk_; simp [Value.ownBlock] at hk_; subst hk_; show ¬ _ = _; omega))
      replace hbw := bset hbw hc_ (by omega)
      have hz_w6 := hc_.size
      clear hc_
      refine Wn ?_
      refine tN ?_
      refine W_still 8 (by kernel_rfl) (by kernel_rfl) ?_
      obtain ⟨w7, hw_⟩ : ∃ w7 : World, w7 = World.drew w6 := ⟨_, rfl⟩
      rw [← hw_]
      have hb : Below w6.heap.size w6 w7 := by rw [hw_]; exact bdrew (Below.refl _ _)
      clear hw_
      replace hbw := bthen hbw hb
      replace hLB := hLB.bel hb
      replace hB7 := hB7.bel hb
      have hz_w7 := hb.size
      clear hb
      refine hY (X.move rfl) rfl ?_
      refine hY (X.move rfl) rfl ?_
      refine hY (X.idxA rfl rfl Tryd.underlying42 siz3 rfl (by omega)) rfl ?_
      refine hY (X.ldB rfl hLB Tryd.underlying3 rfl (set_at cs j _ (by omega))) rfl ?_
      refine hY (X.fa fa55_1 rfl) rfl ?_
      refine hY (X.ldB rfl hB7 Tryd.underlying3 rfl (Chk.cells_len hcl)) rfl ?_
      refine hY (X.add rfl rfl rfl) rfl ?_
      refine hY (X.idxA rfl rfl Tryd.underlying42 siz3 rfl (by omega)) rfl ?_
      refine hN ?_
      refine ssB rfl rfl hLB siz3 rfl (by rw [Array.size_setIfInBounds]; omega) (fun w8 hB_ hc_ => ?_)
      rw [Nat.zero_add, Nat.mul_one] at hB_
      replace hbw := bset hbw hc_ (by omega)
      replace hLB := hB_
      have hz88 := hc_.size
      clear hB_ hc_
      refine Wn ?_
      refine bN ?_
      refine tN ?_
      refine W_reg ?_
      refine st (X.add64 rfl rfl (by omega)) rfl ?_
      refine sm rfl rfl ?_
      refine Wn ?_
      refine tN ⟨_, _, ?_, ⟨k + 1, rfl, rfl, by omega, by rw [take_next' hc, wsum_snoc, ← set_set]; exact hLB, hgLw, hbw⟩, ⟨rfl, rfl, rfl, rfl, rfl, rfl, rfl, rfl, trivial⟩⟩
      omega
    · first | replace h23 := of_decide_eq_false h23 | replace h23 := of_decide_eq_true (notF h23) | replace h23 := notF h23 | skip
      obtain rfl : k = x.length := by omega
      rw [List.take_length] at hLB
      have hcs' := hcs.next hx
      refine W_exit (tE (tE (bH ?_)))
      refine bN ?_
      refine tN ?_
      refine W_reg ?_
      refine st (X.add64 rfl rfl (by omega)) rfl ?_
      refine sm rfl rfl ?_
      refine Wn ?_
      refine tN ⟨_, _, ?_, ⟨j + 1, _, rfl, rfl, by omega, hcs', hLB, hgLw, hbw⟩, ⟨rfl, rfl, rfl, rfl, trivial⟩⟩
      omega
  · first | replace h16 := of_decide_eq_false h16 | replace h16 := of_decide_eq_true (notF h16) | replace h16 := notF h16 | skip
    obtain rfl : j = m.strs.length := by omega
    have hRow : Row w3 3 1 (.slice (some ⟨gL, 0, none⟩) m.strs.length m.strs.length) m.strs.length (lensV m.strs) := by rw [← hcs.all]; exact hLB.row_ (by rw [hcs.1, Nat.mul_one]) (by simp only [maxLen]; omega)
    refine W_exit (tE (tE (bH ?_)))
    refine tN ?_
    refine W_rs ?_
    refine sm rfl rfl ?_
    refine sa rfl rfl ?_
    refine Wn ?_
    refine tN ?_
    refine W_ret ?_
    exact (rT rfl rfl ⟨_, rfl, hRow, fun k hk => by simp [Value.ownBlock] at hk; omega, hbw⟩).1
end Go.Proofs.YtnagmpnpgekhfaaDoor
namespace Go.Proofs.YtnagmpnpgekhfaaDoor
open Go.RowKit
theorem flat_few {ls : List (List Chk)} (h : ∀ l ∈ ls, l.length ≤ 100) : ls.flatten.length ≤ 100 * ls.length := by
  induction ls with
  | nil => simp
  | cons l ls ih =>
    have h1 := ih (fun x hx => h x (by simp [hx]))
    have h2 := h l (by simp)
    rw [List.flatten_cons, List.length_append, List.length_cons]
    omega
/-- the chunks seen so far -/
def seen (ls : List (List Chk)) (i : Nat) (x : List Chk) (k : Nat) : List Chk := (ls.take i).flatten ++ x.take k
theorem seen_next {ls : List (List Chk)} {i k : Nat} {x : List Chk} {c : Chk} (hc : x[k]? = some c) : seen ls i x (k + 1) = seen ls i x k ++ [c] := by
  unfold seen
  rw [take_next' hc, List.append_assoc]
theorem seen_all {ls : List (List Chk)} {i : Nat} {x : List Chk} (hx : ls[i]? = some x) : seen ls i x x.length = (ls.take (i + 1)).flatten := by
  unfold seen
  rw [flat_next hx, List.take_length]
theorem seen_0 (ls : List (List Chk)) (i : Nat) (x : List Chk) : seen ls i x 0 = (ls.take i).flatten := by
  unfold seen
  rw [List.take_zero, List.append_nil]
theorem seen_le {ls : List (List Chk)} {i k : Nat} {x : List Chk} (hx : ls[i]? = some x) : (seen ls i x k).length ≤ ls.flatten.length := by
  have h1 := flat_len_take ls (i + 1)
  rw [flat_next hx, List.length_append] at h1
  unfold seen
  rw [List.length_append]
  have := List.length_take_le' k x
  omega
def SmallC (l : List Chk) : Prop := ∀ c ∈ l, 0 ≤ c.len ∧ c.len ≤ 1000000
theorem SmallC.snoc {l : List Chk} {c : Chk} (h : SmallC l) (hc : 0 ≤ c.len ∧ c.len ≤ 1000000) : SmallC (l ++ [c]) := fun d hd => by
  rcases List.mem_append.1 hd with hd | hd
  · exact h d hd
  · simp at hd; rw [hd]; exact hc
/-- how long all are, together -/
def lensSum : List (List Chk) → Int
  | [] => 0
  | l :: ls => wsum l + lensSum ls
theorem lensSum_snoc (ls : List (List Chk)) (l : List Chk) : lensSum (ls ++ [l]) = lensSum ls + wsum l := by
  induction ls with
  | nil => simp [lensSum]
  | cons x ls ih => simp only [List.cons_append, lensSum, ih]; omega
theorem lensSum_flat {ls : List (List Chk)} (h : SmallC ls.flatten) (hl : ∀ l ∈ ls, l.length ≤ 100) : lensSum ls = sumL ls.flatten := by
  induction ls with
  | nil => rfl
  | cons l ls ih =>
    have h1 : SmallC l := fun c hc => h c (by simp [hc])
    have h2 : SmallC ls.flatten := fun c hc => h c (by rw [List.flatten_cons]; exact List.mem_append_right _ hc)
    rw [lensSum, ih h2 (fun x hx => hl x (by simp [hx])), List.flatten_cons, sumL_append, wsum_eq h1 (by have := hl l (by simp); omega)]
theorem wsum_small {l : List Chk} (h : SmallC l) (hl : l.length ≤ 100) : 0 ≤ wsum l ∧ wsum l ≤ 100000000 := by
  rw [wsum_eq h (by omega)]
  have := sumL_small h
  omega
theorem lensSum_small {ls : List (List Chk)} (h : SmallC ls.flatten) (hl : ∀ l ∈ ls, l.length ≤ 100) : 0 ≤ lensSum ls ∧ lensSum ls ≤ 100000000 * ls.length := by
  induction ls with
  | nil => exact ⟨Int.le_refl _, by simp [lensSum]⟩
  | cons l ls ih =>
    have h1 : SmallC l := fun c hc => h c (by simp [hc])
    have h2 : SmallC ls.flatten := fun c hc => h c (by rw [List.flatten_cons]; exact List.mem_append_right _ hc)
    have h3 := ih h2 (fun x hx => hl x (by simp [hx]))
    have h4 := wsum_small h1 (hl l (by simp))
    rw [lensSum, List.length_cons]
    omega
theorem flat_take_mem {ls : List (List Chk)} {i : Nat} : ∀ c ∈ (ls.take i).flatten, c ∈ ls.flatten := fun c hc => by
  have : ls.flatten = (ls.take i).flatten ++ (ls.drop i).flatten := by rw [← List.flatten_append, List.take_append_drop]
  rw [this]
  exact List.mem_append_left _ hc
set_option maxRecDepth 10000 in
set_option maxHeartbeats 1000000 in
theorem ManifestWants_walk (w : World) (m : Man) (vc vs : Value) (hc : ColsAt w vc m.cols) (hs : StrsAt w vs m.strs) (hT : UT w) : Calls Tryd.prog 5 #[manV m vc vs] w fun e w' => e = .returned (.bool true) ∧ Below w.heap.size w w' := by
  have hs0 := hs
  obtain ⟨us, hU, hu⟩ := hs
  obtain ⟨sa_, cs_, rfl, hsn, hsc⟩ := hU.shape
  refine W_enter (args := [.agg #[.int .i64 m.id, .int .i64 m.rows, vc, .slice sa_ m.strs.length cs_]]) 124 Tryd.func5 rfl rfl rfl ?_
  refine W_sub [(0, .agg #[.int .i64 m.id, .int .i64 m.rows, vc, .slice sa_ m.strs.length cs_])] ?_ ⟨rfl, trivial⟩
  have hbw := Below.refl w.heap.size w
  refine W_rs ?_
  refine sboxA rfl rfl (fun g1 w1 hB1 hg1 hb hl1 => ?_)
  replace hbw := bthen hbw hb
  have hz_w1 := hb.size
  clear hb
  refine sa rfl rfl ?_
  refine Wn ?_
  refine tN ?_
  refine W_seq ?_
  refine W_rs ?_
  refine st (X.ldBN rfl hB1 Tryd.underlying26 rfl siz26) rfl ?_
  refine sc _ Tryd.func11 rfl (by kernel_rfl) rfl rfl ((Few_any m vc _ _ (hc.bel hbw) (hs0.bel hbw)).mono ?_)
  rintro e_ w2 ⟨rfl, hb⟩
  refine cR ?_
  replace hbw := bthen hbw hb
  replace hB1 := hB1.bel hb
  have hz_w2 := hb.size
  clear hb
  refine st (X.not rfl) rfl ?_
  refine Wn ?_
  refine tN ?_
  refine W_if rfl (fun h15 => ?_) (fun h15 => ?_)
  · first | replace h15 := of_decide_eq_true h15 | replace h15 := of_decide_eq_false (notT h15) | replace h15 := notT h15 | skip
    refine W_rs ?_
    refine sc _ Tryd.func6 rfl (by kernel_rfl) rfl rfl ((awake_any _ (hT.bel hbw)).mono ?_)
    rintro e_ w3 ⟨rfl, hb⟩
    refine cR ?_
    replace hbw := bthen hbw hb
    replace hB1 := hB1.bel hb
    have hz_w3 := hb.size
    clear hb
    refine sa rfl rfl ?_
    refine Wn ?_
    refine tN ?_
    refine W_ret (tR ?_)
    exact (rT rfl rfl ⟨rfl, hbw⟩).1
  · first | replace h15 := of_decide_eq_false h15 | replace h15 := of_decide_eq_true (notF h15) | replace h15 := notF h15 | skip
    obtain ⟨_, hf1, _, hf2⟩ := h15
    have hF := flat_few hf2
    refine W_skip ?_
    refine tN ?_
    refine W_rs ?_
    refine sa rfl rfl ?_
    refine Wn ?_
    refine tN ?_
    refine W_rs ?_
    refine sa rfl rfl ?_
    refine Wn ?_
    refine tN ?_
    refine W_seq ?_
    refine W_rs ?_
    refine sa rfl rfl ?_
    refine Wn ?_
    refine tN ?_
    refine W_block ?_
    refine W_lp (fun nw4_ lw4_ w4 => ∃ i : Nat, nw4_ = m.strs.length - i ∧ lw4_ = ([(1, .pointer (some ⟨g1, 0, none⟩)), (3, .int .i64 ((m.strs.take i).flatten.length : Nat)), (4, .int .i64 (sumL (m.strs.take i).flatten)), (5, .int .i64 i)] : Env) ∧ (i ≤ m.strs.length) ∧ (SmallC (m.strs.take i).flatten) ∧ (Blk w4 g1 26 #[.int .i64 m.id, .int .i64 m.rows, vc, .slice sa_ m.strs.length cs_]) ∧ (Below w.heap.size w w4)) _ ⟨_, ⟨0, rfl, rfl, by omega, (fun c hc => by simp at hc), hB1, hbw⟩, ⟨rfl, rfl, rfl, rfl, trivial⟩⟩ ?_
    clear hB1 hbw
    rintro nw4_ lw4_ w4 ⟨i, rfl, rfl, hi, hsm, hB1, hbw⟩
    have hz_w4 := hbw.size
    have hlt_hB1_w4 := hB1.lt
    refine W_seq ?_
    refine W_rs ?_
    refine sm rfl rfl ?_
    refine st (X.fa fa26_3 rfl) rfl ?_
    refine st (X.ldL rfl hB1 Tryd.underlying24 rfl rfl) rfl ?_
    refine st (X.lenL rfl rfl Tryd.underlying24) rfl ?_
    refine st (X.lss rfl rfl) rfl ?_
    refine Wn ?_
    refine tN ?_
    refine W_if rfl (fun h21 => ?_) (fun h21 => ?_)
    · first | replace h21 := of_decide_eq_true h21 | replace h21 := of_decide_eq_false (notT h21) | replace h21 := notT h21 | skip
      obtain ⟨x, hx⟩ : ∃ x, m.strs[i]? = some x := ⟨_, List.getElem?_eq_getElem (by omega)⟩
      obtain ⟨u, hux, hk⟩ := hu i x hx
      have hxl := hf2 x (List.mem_of_getElem? hx)
      obtain ⟨ax, cx, rfl, hxn, hxc⟩ := hk.1.shape
      obtain ⟨gs, os_, c', hv, hgs⟩ := (hU.bel hbw).some_ (by omega)
      injection hv with e1 _ e3
      subst e1 e3
      refine W_skip ?_
      refine tN ?_
      refine W_seq ?_
      refine W_block ?_
      refine W_rs ?_
      refine sa rfl rfl ?_
      refine Wn ?_
      refine tN ?_
      refine W_block ?_
      refine W_lp (fun nw5_ lw5_ w5 => ∃ k : Nat, nw5_ = x.length - k ∧ lw5_ = ([(1, .pointer (some ⟨g1, 0, none⟩)), (3, .int .i64 ((seen m.strs i x k).length : Nat)), (4, .int .i64 (sumL (seen m.strs i x k))), (5, .int .i64 i), (6, .int .i64 k)] : Env) ∧ (k ≤ x.length) ∧ (SmallC (seen m.strs i x k)) ∧ (Blk w5 g1 26 #[.int .i64 m.id, .int .i64 m.rows, vc, .slice (some ⟨gs, os_, none⟩) m.strs.length cs_]) ∧ (Below w.heap.size w w5)) _ ⟨_, ⟨0, rfl, rfl, by omega, (by rw [seen_0]; exact hsm), hB1, hbw⟩, ⟨rfl, by rw [seen_0]; rfl, by rw [seen_0]; rfl, rfl, rfl, trivial⟩⟩ ?_
      clear hB1 hbw
      rintro nw5_ lw5_ w5 ⟨k, rfl, rfl, hk', hsm2, hB1, hbw⟩
      have hz_w5 := hbw.size
      have hlt_hB1_w5 := hB1.lt
      refine W_seq ?_
      refine W_rs ?_
      refine sm rfl rfl ?_
      refine st (X.fa fa26_3 rfl) rfl ?_
      refine st (X.ldL rfl hB1 Tryd.underlying24 rfl rfl) rfl ?_
      refine sm rfl rfl ?_
      refine st (X.idxA rfl rfl Tryd.underlying24 siz51 rfl (by omega)) rfl ?_
      refine st (X.ld rfl Tryd.underlying51 rfl (by rw [Nat.mul_one]; exact (hU.bel hbw).cellAt (by omega) hux)) rfl ?_
      refine st (X.lenL rfl rfl Tryd.underlying51) rfl ?_
      refine st (X.lss rfl rfl) rfl ?_
      refine Wn ?_
      refine tN ?_
      refine W_if rfl (fun h31 => ?_) (fun h31 => ?_)
      · first | replace h31 := of_decide_eq_true h31 | replace h31 := of_decide_eq_false (notT h31) | replace h31 := notT h31 | skip
        obtain ⟨c, hcx⟩ : ∃ c, x[k]? = some c := ⟨_, List.getElem?_eq_getElem (by omega)⟩
        obtain ⟨g2, o2, c'', hv, hg2⟩ := (hk.1.bel hbw).some_ (by omega)
        injection hv with e1 _ e3
        subst e1 e3
        have hcl := hk.2 c (List.mem_of_getElem? hcx)
        have hrg := ChksAt.range (hk.bel hbw) hcx
        have hcc : c.cells[32]? = some (.int .i64 c.len) := by simp [Chk.cells, hcl]
        have hsl := seen_le (k := k) hx
        have hss := sumL_small hsm2
        have hs4 : sumL (seen m.strs i x (k + 1)) = sumL (seen m.strs i x k) + c.len := by rw [seen_next hcx, sumL_append]; simp [sumL]
        refine W_skip ?_
        refine tN ?_
        refine W_seq ?_
        refine W_block ?_
        refine W_rs ?_
        refine sm rfl rfl ?_
        refine st (X.add64 rfl rfl (by omega)) rfl ?_
        refine sa rfl rfl ?_
        refine Wn ?_
        refine tN ?_
        refine W_seq ?_
        refine W_rs ?_
        refine st (X.fa fa26_3 rfl) rfl ?_
        refine st (X.ldL rfl hB1 Tryd.underlying24 rfl rfl) rfl ?_
        refine sm rfl rfl ?_
        refine st (X.idxA rfl rfl Tryd.underlying24 siz51 rfl (by omega)) rfl ?_
        refine st (X.ld rfl Tryd.underlying51 rfl (by rw [Nat.mul_one]; exact (hU.bel hbw).cellAt (by omega) hux)) rfl ?_
        refine sm rfl rfl ?_
        refine st (X.idxA rfl rfl Tryd.underlying51 siz55 rfl (by omega)) rfl ?_
        refine st (X.fa fa55_1 rfl) rfl ?_
        refine st (X.ld rfl Tryd.underlying3 rfl (hrg 32 _ hcc)) rfl ?_
        refine st (X.lss rfl rfl) rfl ?_
        refine sb rfl rfl (fun h46 => ?_) (fun h46 => ?_)
        · first | replace h46 := of_decide_eq_true h46 | replace h46 := of_decide_eq_false (notT h46) | replace h46 := notT h46 | skip
          refine gN (g := 46) rfl rfl rfl rfl ?_
          refine gN (g := 46) rfl rfl rfl rfl ?_
          refine gN (g := 46) rfl rfl rfl rfl ?_
          refine gN (g := 46) rfl rfl rfl rfl ?_
          refine gN (g := 46) rfl rfl rfl rfl ?_
          refine gN (g := 46) rfl rfl rfl rfl ?_
          refine gN (g := 46) rfl rfl rfl rfl ?_
          refine gN (g := 46) rfl rfl rfl rfl ?_
          refine gN (g := 46) rfl rfl rfl rfl ?_
          refine gN (g := 46) rfl rfl rfl rfl ?_
          refine st (X.pickT rfl rfl) rfl ?_
          refine Wn ?_
          refine tN ?_
          refine W_yes rfl (rfl) ?_
          refine W_rs ?_
          refine sc _ Tryd.func6 rfl (by kernel_rfl) rfl rfl ((awake_any _ (hT.bel hbw)).mono ?_)
          rintro e_ w6 ⟨rfl, hb⟩
          refine cR ?_
          replace hbw := bthen hbw hb
          replace hB1 := hB1.bel hb
          have hz_w6 := hb.size
          clear hb
          refine sa rfl rfl ?_
          refine Wn ?_
          refine tN ?_
          refine W_ret (tR (bR (tR (tR (bR (bR (tR (tR (bR (tR ?_))))))))))
          exact (rT rfl rfl ⟨rfl, hbw⟩).1
        · first | replace h46 := of_decide_eq_false h46 | replace h46 := of_decide_eq_true (notF h46) | replace h46 := notF h46 | skip
          refine gY (g := 46) rfl rfl rfl ?_
          refine st (X.fa fa26_3 rfl) rfl ?_
          refine gY (g := 46) rfl rfl rfl ?_
          refine st (X.ldL rfl hB1 Tryd.underlying24 rfl rfl) rfl ?_
          refine gY (g := 46) rfl rfl rfl ?_
          refine sm rfl rfl ?_
          refine gY (g := 46) rfl rfl rfl ?_
          refine st (X.idxA rfl rfl Tryd.underlying24 siz51 rfl (by omega)) rfl ?_
          refine gY (g := 46) rfl rfl rfl ?_
          refine st (X.ld rfl Tryd.underlying51 rfl (by rw [Nat.mul_one]; exact (hU.bel hbw).cellAt (by omega) hux)) rfl ?_
          refine gY (g := 46) rfl rfl rfl ?_
          refine sm rfl rfl ?_
          refine gY (g := 46) rfl rfl rfl ?_
          refine st (X.idxA rfl rfl Tryd.underlying51 siz55 rfl (by omega)) rfl ?_
          refine gY (g := 46) rfl rfl rfl ?_
          refine st (X.fa fa55_1 rfl) rfl ?_
          refine gY (g := 46) rfl rfl rfl ?_
          refine st (X.ld rfl Tryd.underlying3 rfl (hrg 32 _ hcc)) rfl ?_
          refine gY (g := 46) rfl rfl rfl ?_
          refine st (X.gtr rfl rfl) rfl ?_
          refine st (X.pickF rfl rfl) rfl ?_
          refine Wn ?_
          refine tN ?_
          refine W_if rfl (fun h57 => ?_) (fun h57 => ?_)
          · first | replace h57 := of_decide_eq_true h57 | replace h57 := of_decide_eq_false (notT h57) | replace h57 := notT h57 | skip
            refine W_rs ?_
            refine sc _ Tryd.func6 rfl (by kernel_rfl) rfl rfl ((awake_any _ (hT.bel hbw)).mono ?_)
            rintro e_ w7 ⟨rfl, hb⟩
            refine cR ?_
            replace hbw := bthen hbw hb
            replace hB1 := hB1.bel hb
            have hz_w7 := hb.size
            clear hb
            refine sa rfl rfl ?_
            refine Wn ?_
            refine tN ?_
            refine W_ret (tR (bR (tR (tR (bR (bR (tR (tR (bR (tR ?_))))))))))
            exact (rT rfl rfl ⟨rfl, hbw⟩).1
          · first | replace h57 := of_decide_eq_false h57 | replace h57 := of_decide_eq_true (notF h57) | replace h57 := notF h57 | skip
            refine W_skip ?_
            refine tN ?_
            refine W_reg ?_
            refine sm rfl rfl ?_
            refine st (X.fa fa26_3 rfl) rfl ?_
            refine st (X.ldL rfl hB1 Tryd.underlying24 rfl rfl) rfl ?_
            refine sm rfl rfl ?_
            refine st (X.idxA rfl rfl Tryd.underlying24 siz51 rfl (by omega)) rfl ?_
            refine st (X.ld rfl Tryd.underlying51 rfl (by rw [Nat.mul_one]; exact (hU.bel hbw).cellAt (by omega) hux)) rfl ?_
            refine sm rfl rfl ?_
            refine st (X.idxA rfl rfl Tryd.underlying51 siz55 rfl (by omega)) rfl ?_
            refine st (X.fa fa55_1 rfl) rfl ?_
            refine st (X.ld rfl Tryd.underlying3 rfl (hrg 32 _ hcc)) rfl ?_
            refine st (X.add64 rfl rfl (by omega)) rfl ?_
            refine sa rfl rfl ?_
            refine Wn ?_
            refine bN ?_
            refine tN ?_
            refine W_reg ?_
            refine sm rfl rfl ?_
            refine st (X.add64 rfl rfl (by omega)) rfl ?_
            refine sa rfl rfl ?_
            refine Wn ?_
            refine tN ⟨_, _, ?_, ⟨k + 1, rfl, rfl, by omega, by rw [seen_next hcx]; exact hsm2.snoc (by omega), hB1, hbw⟩, ⟨rfl, by rw [seen_next hcx, List.length_append]; rfl, by rw [hs4]; rfl, rfl, rfl, trivial⟩⟩
            omega
      · first | replace h31 := of_decide_eq_false h31 | replace h31 := of_decide_eq_true (notF h31) | replace h31 := notF h31 | skip
        obtain rfl : k = x.length := by omega
        refine W_exit (tE (tE (bH ?_)))
        refine bN ?_
        refine tN ?_
        refine W_reg ?_
        refine sm rfl rfl ?_
        refine st (X.add64 rfl rfl (by omega)) rfl ?_
        refine sa rfl rfl ?_
        refine Wn ?_
        refine tN ⟨_, _, ?_, ⟨i + 1, rfl, rfl, by omega, by rw [← seen_all hx]; exact hsm2, hB1, hbw⟩, ⟨rfl, by rw [← seen_all hx]; rfl, by rw [← seen_all hx]; rfl, rfl, trivial⟩⟩
        omega
    · first | replace h21 := of_decide_eq_false h21 | replace h21 := of_decide_eq_true (notF h21) | replace h21 := notF h21 | skip
      obtain rfl : i = m.strs.length := by omega
      rw [List.take_length] at hsm ⊢
      obtain ⟨F, hFe⟩ : ∃ F, m.strs.flatten = F := ⟨_, rfl⟩
      have hFs := hsm
      rw [hFe] at hFs hF ⊢
      refine W_exit (tE (tE (bH ?_)))
      refine tN ?_
      refine W_rs ?_
      refine sa rfl rfl ?_
      refine Wn ?_
      refine tN ?_
      refine W_rs ?_
      refine st (X.ldBN rfl hB1 Tryd.underlying26 rfl siz26) rfl ?_
      refine sc _ Tryd.func18 rfl (by kernel_rfl) rfl rfl ((Wants_any m vc _ _ (hs0.bel hbw) (by rw [hFe]; omega) (by omega)).mono ?_)
      rintro e_ w8 ⟨v8, rfl, hWr, hOw, hb⟩
      refine cR ?_
      replace hbw := bthen hbw hb
      replace hB1 := hB1.bel hb
      have hz_w8 := hb.size
      clear hb
      rw [hFe] at hWr
      obtain ⟨W, hWe⟩ : ∃ W, netM (onesOf F) = W := ⟨_, rfl⟩
      have hWn : ∀ c ∈ W, 1 ≤ c.len ∧ c.len ≤ F.length := fun c hc => by rw [← hWe] at hc; exact ⟨net_ones hc, net_ones_le hc⟩
      have hWl : W.length ≤ F.length := by rw [← hWe]; have := netM_length (onesOf F); rwa [onesOf_length] at this
      have hWs : sumL W = F.length := by rw [← hWe, sumL_net, onesOf_sum]
      have hW32 : ∀ c ∈ W, c.sum.length = 32 := by rw [← hWe]; exact netM_sum32 (onesOf_32 (by rw [← hFe]; exact hs0.all32))
      rw [hWe] at hWr
      obtain ⟨a8, c8, rfl, hn8, hc8⟩ := hWr.shape
      have hWA : ChksAt w8 (.slice a8 W.length c8) W := ⟨hWr.reads, hW32⟩
      clear hWr
      refine sa rfl rfl ?_
      refine Wn ?_
      refine tN ?_
      refine W_seq ?_
      refine W_rs ?_
      refine sa rfl rfl ?_
      refine Wn ?_
      refine tN ?_
      refine W_block ?_
      refine W_lp (fun nw9_ lw9_ w9 => ∃ j : Nat, nw9_ = W.length - j ∧ lw9_ = ([(1, .pointer (some ⟨g1, 0, none⟩)), (3, .int .i64 (F.length : Nat)), (4, .int .i64 (sumL F)), (7, .int .i64 (sumL (W.take j))), (8, .slice a8 W.length c8), (9, .int .i64 j)] : Env) ∧ (j ≤ W.length) ∧ (ChksAt w9 (.slice a8 W.length c8) W) ∧ (Blk w9 g1 26 #[.int .i64 m.id, .int .i64 m.rows, vc, .slice sa_ m.strs.length cs_]) ∧ (Below w.heap.size w w9)) _ ⟨_, ⟨0, rfl, rfl, by omega, hWA, hB1, hbw⟩, ⟨rfl, rfl, rfl, rfl, rfl, rfl, trivial⟩⟩ ?_
      clear hWA hB1 hbw
      rintro nw9_ lw9_ w9 ⟨j, rfl, rfl, hj, hWA, hB1, hbw⟩
      have hz_w9 := hbw.size
      have hlt_hB1_w9 := hB1.lt
      refine W_seq ?_
      refine W_rs ?_
      refine sm rfl rfl ?_
      refine sm rfl rfl ?_
      refine st (X.lenL rfl rfl Tryd.underlying47) rfl ?_
      refine st (X.lss rfl rfl) rfl ?_
      refine Wn ?_
      refine tN ?_
      refine W_if rfl (fun h75 => ?_) (fun h75 => ?_)
      · first | replace h75 := of_decide_eq_true h75 | replace h75 := of_decide_eq_false (notT h75) | replace h75 := notT h75 | skip
        obtain ⟨x, hx⟩ : ∃ x, W[j]? = some x := ⟨_, List.getElem?_eq_getElem (by omega)⟩
        have hxl := hWA.2 x (List.mem_of_getElem? hx)
        have hxn := hWn x (List.mem_of_getElem? hx)
        have hsb := sumL_small (l := W.take j) (fun c hc => by have := hWn c (List.mem_of_mem_take hc); omega)
        have hlt : (W.take j).length ≤ W.length := List.length_take_le' _ _
        obtain ⟨g2, o2, c'', hv, hg2⟩ := hWA.1.some_ (by omega)
        injection hv with e1 _ e3
        subst e1 e3
        have hrg := ChksAt.range hWA hx
        have hcc : x.cells[32]? = some (.int .i64 x.len) := by simp [Chk.cells, hxl]
        refine W_skip ?_
        refine tN ?_
        refine W_seq ?_
        refine W_block ?_
        refine W_seq ?_
        refine W_rs ?_
        refine sm rfl rfl ?_
        refine sm rfl rfl ?_
        refine st (X.idxA rfl rfl Tryd.underlying47 siz57 rfl (by omega)) rfl ?_
        refine st (X.fa fa57_1 rfl) rfl ?_
        refine st (X.ld rfl Tryd.underlying3 rfl (hrg 32 _ hcc)) rfl ?_
        refine st (X.lss rfl rfl) rfl ?_
        refine Wn ?_
        refine tN ?_
        refine W_if rfl (fun h83 => ?_) (fun h83 => ?_)
        · first | replace h83 := of_decide_eq_true h83 | replace h83 := of_decide_eq_false (notT h83) | replace h83 := notT h83 | skip
          omega
        · first | replace h83 := of_decide_eq_false h83 | replace h83 := of_decide_eq_true (notF h83) | replace h83 := notF h83 | skip
          refine W_skip ?_
          refine tN ?_
          refine W_reg ?_
          refine sm rfl rfl ?_
          refine sm rfl rfl ?_
          refine sm rfl rfl ?_
          refine st (X.idxA rfl rfl Tryd.underlying47 siz57 rfl (by omega)) rfl ?_
          refine st (X.fa fa57_1 rfl) rfl ?_
          refine st (X.ld rfl Tryd.underlying3 rfl (hrg 32 _ hcc)) rfl ?_
          refine st (X.add64 rfl rfl (by omega)) rfl ?_
          refine sa rfl rfl ?_
          refine Wn ?_
          refine bN ?_
          refine tN ?_
          refine W_reg ?_
          refine sm rfl rfl ?_
          refine st (X.add64 rfl rfl (by omega)) rfl ?_
          refine sa rfl rfl ?_
          refine Wn ?_
          refine tN ⟨_, _, ?_, ⟨j + 1, rfl, rfl, by omega, hWA, hB1, hbw⟩, ⟨rfl, rfl, rfl, by rw [sumL_take hx]; rfl, rfl, rfl, trivial⟩⟩
          omega
      · first | replace h75 := of_decide_eq_false h75 | replace h75 := of_decide_eq_true (notF h75) | replace h75 := notF h75 | skip
        obtain rfl : j = W.length := by omega
        rw [List.take_length]
        refine W_exit (tE (tE (bH ?_)))
        refine tN ?_
        refine W_rs ?_
        refine sa rfl rfl ?_
        refine Wn ?_
        refine tN ?_
        refine W_rs ?_
        refine st (X.ldBN rfl hB1 Tryd.underlying26 rfl siz26) rfl ?_
        refine sc _ Tryd.func14 rfl (by kernel_rfl) rfl rfl ((Lens_any m vc _ _ (hs0.bel hbw) (by omega) (fun l hl => by have := hf2 l hl; omega)).mono ?_)
        rintro e_ w10 ⟨v11, rfl, hL, hOl, hb⟩
        refine cR ?_
        replace hbw := bthen hbw hb
        replace hB1 := hB1.bel hb
        have hz_w10 := hb.size
        clear hb
        obtain ⟨aL, cL, rfl, hnL, hcL⟩ := hL.shape
        have hLe : Reads w10 1 (.slice aL m.strs.length cL) m.strs.length (lensV m.strs) := hL.reads
        clear hL
        refine sa rfl rfl ?_
        refine Wn ?_
        refine tN ?_
        refine W_seq ?_
        refine W_rs ?_
        refine sa rfl rfl ?_
        refine Wn ?_
        refine tN ?_
        refine W_block ?_
        refine W_lp (fun nw11_ lw11_ w11 => ∃ j : Nat, nw11_ = m.strs.length - j ∧ lw11_ = ([(1, .pointer (some ⟨g1, 0, none⟩)), (3, .int .i64 (F.length : Nat)), (4, .int .i64 (sumL F)), (7, .int .i64 (sumL W)), (10, .int .i64 (lensSum (m.strs.take j))), (11, .slice aL m.strs.length cL), (12, .int .i64 j)] : Env) ∧ (j ≤ m.strs.length) ∧ (Reads w11 1 (.slice aL m.strs.length cL) m.strs.length (lensV m.strs)) ∧ (Blk w11 g1 26 #[.int .i64 m.id, .int .i64 m.rows, vc, .slice sa_ m.strs.length cs_]) ∧ (Below w.heap.size w w11)) _ ⟨_, ⟨0, rfl, rfl, by omega, hLe, hB1, hbw⟩, ⟨rfl, rfl, rfl, rfl, rfl, rfl, rfl, trivial⟩⟩ ?_
        clear hLe hB1 hbw
        rintro nw11_ lw11_ w11 ⟨j, rfl, rfl, hj, hLe, hB1, hbw⟩
        have hz_w11 := hbw.size
        have hlt_hB1_w11 := hB1.lt
        refine W_seq ?_
        refine W_rs ?_
        refine sm rfl rfl ?_
        refine sm rfl rfl ?_
        refine st (X.lenL rfl rfl Tryd.underlying42) rfl ?_
        refine st (X.lss rfl rfl) rfl ?_
        refine Wn ?_
        refine tN ?_
        refine W_if rfl (fun h96 => ?_) (fun h96 => ?_)
        · first | replace h96 := of_decide_eq_true h96 | replace h96 := of_decide_eq_false (notT h96) | replace h96 := notT h96 | skip
          obtain ⟨x, hx⟩ : ∃ x, m.strs[j]? = some x := ⟨_, List.getElem?_eq_getElem (by omega)⟩
          have hs10 : lensSum (m.strs.take (j + 1)) = lensSum (m.strs.take j) + wsum x := by rw [take_next' hx, lensSum_snoc]
          have hls := lensSum_small (ls := m.strs.take j) (fun c hc => hsm c (flat_take_mem c hc)) (fun l hl => hf2 l (List.mem_of_mem_take hl))
          have hlt : (m.strs.take j).length ≤ m.strs.length := List.length_take_le' _ _
          have hwr := wsum_range x
          have hws := wsum_small (l := x) (fun c hc => hsm c (List.mem_flatten.2 ⟨x, List.mem_of_getElem? hx, hc⟩)) (hf2 x (List.mem_of_getElem? hx))
          have hlv : (lensV m.strs)[j]? = some (.int .i64 (wsum x)) := by unfold lensV; rw [List.getElem?_map, hx]; rfl
          obtain ⟨g2, o2, c'', hv, hg2⟩ := hLe.some_ (by omega)
          injection hv with e1 _ e3
          subst e1 e3
          refine W_skip ?_
          refine tN ?_
          refine W_seq ?_
          refine W_block ?_
          refine W_reg ?_
          refine sm rfl rfl ?_
          refine sm rfl rfl ?_
          refine sm rfl rfl ?_
          refine st (X.idxA rfl rfl Tryd.underlying42 siz3 rfl (by omega)) rfl ?_
          refine st (X.ld rfl Tryd.underlying3 rfl (by rw [Nat.mul_one]; exact hLe.cellAt (by omega) hlv)) rfl ?_
          refine st (X.add64 rfl rfl (by omega)) rfl ?_
          refine sa rfl rfl ?_
          refine Wn ?_
          refine bN ?_
          refine tN ?_
          refine W_reg ?_
          refine sm rfl rfl ?_
          refine st (X.add64 rfl rfl (by omega)) rfl ?_
          refine sa rfl rfl ?_
          refine Wn ?_
          refine tN ⟨_, _, ?_, ⟨j + 1, rfl, rfl, by omega, hLe, hB1, hbw⟩, ⟨rfl, rfl, rfl, rfl, by rw [hs10]; rfl, rfl, rfl, trivial⟩⟩
          omega
        · first | replace h96 := of_decide_eq_false h96 | replace h96 := of_decide_eq_true (notF h96) | replace h96 := notF h96 | skip
          obtain rfl : j = m.strs.length := by omega
          rw [List.take_length]
          have hall := lensSum_flat hsm hf2
          rw [hFe] at hall
          refine W_exit (tE (tE (bH ?_)))
          refine tN ?_
          refine W_rs ?_
          refine sm rfl rfl ?_
          refine sm rfl rfl ?_
          refine st (X.eql rfl rfl) rfl ?_
          refine sbY rfl (decide_eq_true hWs) rfl ?_
          refine gY (g := 108) rfl rfl rfl ?_
          refine sm rfl rfl ?_
          refine gY (g := 108) rfl rfl rfl ?_
          refine sm rfl rfl ?_
          refine gY (g := 108) rfl rfl rfl ?_
          refine st (X.eql rfl rfl) rfl ?_
          refine st (X.pickT rfl rfl) rfl ?_
          refine sbY rfl (decide_eq_true hall) rfl ?_
          refine gY (g := 113) rfl rfl rfl ?_
          refine sm rfl rfl ?_
          refine gY (g := 113) rfl rfl rfl ?_
          refine st (X.lenL rfl rfl Tryd.underlying42) rfl ?_
          refine gY (g := 113) rfl rfl rfl ?_
          refine st (X.fa fa26_3 rfl) rfl ?_
          refine gY (g := 113) rfl rfl rfl ?_
          refine st (X.ldL rfl hB1 Tryd.underlying24 rfl rfl) rfl ?_
          refine gY (g := 113) rfl rfl rfl ?_
          refine st (X.lenL rfl rfl Tryd.underlying24) rfl ?_
          refine gY (g := 113) rfl rfl rfl ?_
          refine st (X.eql rfl rfl) rfl ?_
          refine st (X.pickT rfl rfl) rfl ?_
          refine sbY rfl (decide_eq_true rfl) rfl ?_
          refine gY (g := 121) rfl rfl rfl ?_
          refine sc _ Tryd.func6 rfl (by kernel_rfl) rfl rfl ((awake_any _ (hT.bel hbw)).mono ?_)
          rintro e_ w12 ⟨rfl, hb⟩
          refine cR ?_
          replace hbw := bthen hbw hb
          replace hB1 := hB1.bel hb
          replace hLe := hLe.bel hb
          have hz_w12 := hb.size
          clear hb
          refine st (X.pickT rfl rfl) rfl ?_
          refine sa rfl rfl ?_
          refine Wn ?_
          refine tN ?_
          refine W_ret ?_
          exact (rT rfl rfl ⟨rfl, hbw⟩).1
end Go.Proofs.YtnagmpnpgekhfaaDoor
