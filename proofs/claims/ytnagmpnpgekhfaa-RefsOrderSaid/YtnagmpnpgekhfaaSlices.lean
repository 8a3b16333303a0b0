/- l[i:], l[:j] of lists of deltas. -/
import Derived.Test.YtnagmpnpgekhfaaRefsDiffL
namespace Go.Proofs.Ytnagmpnpgekhfaa
open Go.RowKit
section
variable {P : Program} {l : Env} {w : World} {ty t e : TypeId} {x y : Operand} {k : IntKind} {m : Int} {a : Option Addr} {n c size : Nat}
theorem elem_of (hu : P.underlying t = some (.slice e)) : P.elem t = e := by
  unfold Program.elem
  rw [hu]
theorem size_of (hi : (P.info? e).map (·.size) = some size) : (sizeOf e).run P w = .ok size w := by
  obtain ⟨q, hq, hs⟩ := Option.map_eq_some_iff.1 hi
  simp [sizeOf, typeInfo, hq, hs]
theorem X.fromL {i : Nat} (hx : ev l x = some (.slice a n c)) (hy : ev l y = some (.int k m)) (hu : P.underlying t = some (.slice e)) (hi : (P.info? e).map (·.size) = some size) (hm : m = (i : Int)) (hin : i ≤ n) : X P l (.slice t x (some y) none none) ty w (sliced a i n c size) w := fun ρ hρ => by
  subst hm
  have he := elem_of hu
  have := run_slice_l (P := P) w t a n c (by rw [he]; exact hu) k (i : Int) (by omega) (by omega)
  unfold execOp
  simp [hρ _ _ hx, hρ _ _ hy, Instr.sliceAt, run_underlying hu, this, he, size_of hi, Result.andThen]
theorem X.toL {j : Nat} (hx : ev l x = some (.slice a n c)) (hy : ev l y = some (.int k m)) (hu : P.underlying t = some (.slice e)) (hi : (P.info? e).map (·.size) = some size) (hm : m = (j : Int)) (hin : j ≤ c) : X P l (.slice t x none (some y) none) ty w (sliced a 0 j c size) w := fun ρ hρ => by
  subst hm
  have he := elem_of hu
  have := run_slice_h (P := P) w t a n c (by rw [he]; exact hu) k (j : Int) (by omega) (by omega)
  unfold execOp
  simp [hρ _ _ hx, hρ _ _ hy, Instr.sliceAt, run_underlying hu, this, he, size_of hi, Result.andThen]
end
theorem flat_drop {α β : Type} (f : α → List β) (k : Nat) : ∀ (l : List α), (∀ a ∈ l, (f a).length = k) → ∀ i, i ≤ l.length → (l.drop i).flatMap f = (l.flatMap f).drop (i * k)
  | _, _, 0, _ => by simp
  | [], _, i + 1, h => by simp at h
  | x :: l, hk, i + 1, h => by
    have hx := hk x (List.mem_cons_self ..)
    rw [List.drop_succ_cons, List.flatMap_cons, flat_drop f k l (fun a ha => hk a (List.mem_cons_of_mem _ ha)) i (by simpa using h), List.drop_append, Nat.succ_mul]
    rw [List.drop_of_length_le (l := f x) (by omega), List.nil_append, hx]
    congr 1
    omega
theorem ChksAt.drop {w : World} {a : Option Addr} {c : Nat} {l : List Chk} (h : ChksAt w (.slice a l.length c) l) (i : Nat) (hi : i ≤ l.length) : ChksAt w (sliced a i l.length c 33) (l.drop i) := by
  have h32 := h.2
  obtain ⟨⟨hlen, a', cap, e, h3, h4, h5⟩, _⟩ := h
  injection e with e1 _ e3
  subst e1 e3
  have hfl : ((l.drop i).flatMap Chk.cells).length = (l.drop i).length * 33 := flat_length Chk.cells 33 _ (fun q hq => Chk.cells_length (h32 q (List.mem_of_mem_drop hq)))
  refine ⟨⟨hfl, _, _, by rw [List.length_drop]; rfl, by rw [List.length_drop]; omega, by omega, fun hn => ?_⟩, fun q hq => h32 q (List.mem_of_mem_drop hq)⟩
  rw [List.length_drop] at hn
  obtain ⟨g, off, rfl, hg, hc⟩ := h5 (by omega)
  rw [if_neg (by omega)]
  refine ⟨g, off + i * 33, ?_, hg, fun j u hu => ?_⟩
  · simp [Addr.add]
  · rw [flat_drop Chk.cells 33 l (fun q hq => Chk.cells_length (h32 q hq)) i hi, List.getElem?_drop] at hu
    rw [Nat.add_assoc]
    exact hc _ _ hu
theorem ChksAt.take {w : World} {a : Option Addr} {c : Nat} {l : List Chk} (h : ChksAt w (.slice a l.length c) l) (j : Nat) (hj : j ≤ l.length) : ChksAt w (sliced a 0 j c 33) (l.take j) := by
  have h32 := h.2
  obtain ⟨⟨hlen, a', cap, e, h3, h4, h5⟩, _⟩ := h
  injection e with e1 _ e3
  subst e1 e3
  have hfl : ((l.take j).flatMap Chk.cells).length = (l.take j).length * 33 := flat_length Chk.cells 33 _ (fun q hq => Chk.cells_length (h32 q (List.mem_of_mem_take hq)))
  have hlj : (l.take j).length = j := by rw [List.length_take]; omega
  refine ⟨⟨hfl, _, _, by rw [hlj]; rfl, by omega, by omega, fun hn => ?_⟩, fun q hq => h32 q (List.mem_of_mem_take hq)⟩
  rw [hlj] at hn
  obtain ⟨g, off, rfl, hg, hc⟩ := h5 (by omega)
  refine ⟨g, off, ?_, hg, fun i u hu => hc i u ?_⟩
  · split
    · rfl
    · simp [Addr.add]
  · have hi := (List.getElem?_eq_some_iff.1 hu).1
    have e : l.flatMap Chk.cells = (l.take j).flatMap Chk.cells ++ (l.drop j).flatMap Chk.cells := by rw [← List.flatMap_append, List.take_append_drop]
    rw [e, List.getElem?_append_left hi]
    exact hu
/- ---------- the law RefsOrder ---------- -/
theorem Few.drop {l : List Chk} (h : Few l) (i : Nat) : Few (l.drop i) := fun c hc => h c (List.mem_of_mem_drop hc)
theorem Few.take {l : List Chk} (h : Few l) (i : Nat) : Few (l.take i) := fun c hc => h c (List.mem_of_mem_take hc)
theorem netM_nil : netM ([] : List Chk) = [] := netM_self List.Pairwise.nil (fun c hc => by cases hc)
theorem add_parts {l : List Chk} (h : Few l) (hl : l.length ≤ 60) (i : Nat) : (addM (netM (l.drop i)) (l.take i)).1 = netM l ∧ (addM (netM (l.drop i)) (l.take i)).2.2 = 0 := by
  have ht : ∀ a, tot a (netM (l.drop i)) + tot a (l.take i) = tot a l := fun a => by
    have := tot_append a (l.take i) (l.drop i)
    rw [List.take_append_drop] at this
    rw [net_tot]; omega
  have h3 := addM_ok (x := netM (l.drop i)) (l := l.take i) (mayM_of (by rw [List.length_take]; omega) (fun c hc => by have := h.take i c hc; omega)) (fun a => by rw [ht]; have := h.tot a; omega)
  rw [netM_congr (l := netM (l.drop i) ++ l.take i) (m := l) (fun a => by rw [tot_append, ht])] at h3
  exact h3
theorem add_back {l : List Chk} (h : Few l) (hl : l.length ≤ 60) {k : Nat} (hk : 0 < k) {x : Chk} (hx : l[k - 1]? = some x) : (addM (netM (l.take k)) [⟨x.sum, -x.len⟩]).1 = netM (l.take (k - 1)) ∧ (addM (netM (l.take k)) [⟨x.sum, -x.len⟩]).2.2 = 0 := by
  have hxb := h x (List.mem_of_getElem? hx)
  have ht : ∀ a, tot a (netM (l.take k)) + tot a [⟨x.sum, -x.len⟩] = tot a (l.take (k - 1)) := fun a => by
    have := tot_take (a := a) hx
    rw [show k - 1 + 1 = k by omega] at this
    rw [net_tot, this]
    show _ + ((if x.sum = a then -x.len else 0) + (0 : Int)) = _
    split <;> omega
  have h3 := addM_ok (x := netM (l.take k)) (l := [⟨x.sum, -x.len⟩]) (mayM_of (by simp) (fun c hc => by simp at hc; subst hc; exact ⟨by show -2147483647 ≤ -x.len; omega, by show -x.len ≤ 2147483647; omega⟩)) (fun a => by
    rw [ht]
    have h4 := (h.take (k - 1)).tot a
    have h5 : (l.take (k - 1)).length ≤ 60 := by rw [List.length_take]; omega
    omega)
  have he : netM (netM (l.take k) ++ ([⟨x.sum, -x.len⟩] : List Chk)) = netM (l.take (k - 1)) := netM_congr (fun a => by rw [tot_append, ht])
  rw [he] at h3
  exact h3
theorem Few.cnts' {l : List Chk} (h : Few l) (hl : l.length ≤ 60) (h32 : ∀ c ∈ l, c.sum.length = 32) (k : Nat) : Cnts (netM (l.take k)) :=
  (h.take k).cnts (by rw [List.length_take]; omega) (fun c hc => h32 c (List.mem_of_mem_take hc))
set_option maxRecDepth 10000 in
set_option maxHeartbeats 1000000 in
theorem RefsOrder_walk (w : World) (v : Value) (l : List Chk) (h : ChksAt w v l) (n : Int) : Calls Try.prog 5 #[v, .int .i64 n] w fun e w' => e = .returned (.bool true) ∧ Below w.heap.size w w' := by
  obtain ⟨a, cp, rfl, hn, hcp⟩ := h.1.shape
  have hl32 := h.2
  refine W_enter (args := [.slice a l.length cp, .int .i64 n]) 147 Try.func5 rfl rfl rfl ?_
  refine W_sub [(0, .slice a l.length cp), (1, .int .i64 n)] ?_ ⟨rfl, rfl, trivial⟩
  have hbw := Below.refl w.heap.size w
  refine W_rs ?_
  refine sa rfl rfl ?_
  refine Wn ?_
  refine tN ?_
  refine W_seq ?_
  refine W_rs ?_
  refine sm rfl rfl ?_
  refine st (X.lenL rfl rfl Try.underlying22) rfl ?_
  refine st (X.gtr rfl rfl) rfl ?_
  refine sb rfl rfl (fun h21 => ?_) (fun h21 => ?_)
  · first | replace h21 := of_decide_eq_true h21 | replace h21 := of_decide_eq_false (notT h21) | replace h21 := notT h21 | skip
    refine gN (g := 21) rfl rfl rfl rfl ?_
    refine gN (g := 21) rfl rfl rfl rfl ?_
    refine st (X.pickT rfl rfl) rfl ?_
    refine sm rfl rfl ?_
    refine gN (g := 25) rfl rfl rfl rfl ?_
    refine gN (g := 25) rfl rfl rfl rfl ?_
    refine gN (g := 25) rfl rfl rfl rfl ?_
    refine gN (g := 25) rfl rfl rfl rfl ?_
    refine st (X.pickT rfl rfl) rfl ?_
    refine Wn ?_
    refine tN ?_
    refine W_yes rfl (rfl) ?_
    refine W_rs ?_
    refine sc _ Try.func18 rfl (by kernel_rfl) rfl rfl ((awake_any _).mono ?_)
    rintro e_ w1 ⟨rfl, hb⟩
    refine cR ?_
    replace hbw := bthen hbw hb
    have hz_w1 := hb.size
    clear hb
    refine sa rfl rfl ?_
    refine Wn ?_
    refine tN ?_
    refine W_ret (tR ?_)
    exact (rT rfl rfl ⟨rfl, hbw⟩).1
  · first | replace h21 := of_decide_eq_false h21 | replace h21 := of_decide_eq_true (notF h21) | replace h21 := notF h21 | skip
    refine gY (g := 21) rfl rfl rfl ?_
    refine sm rfl rfl ?_
    refine gY (g := 21) rfl rfl rfl ?_
    refine st (X.lss rfl rfl) rfl ?_
    refine st (X.pickF rfl rfl) rfl ?_
    refine sb rfl rfl (fun h25 => ?_) (fun h25 => ?_)
    · first | replace h25 := of_decide_eq_true h25 | replace h25 := of_decide_eq_false (notT h25) | replace h25 := notT h25 | skip
      refine gN (g := 25) rfl rfl rfl rfl ?_
      refine gN (g := 25) rfl rfl rfl rfl ?_
      refine gN (g := 25) rfl rfl rfl rfl ?_
      refine gN (g := 25) rfl rfl rfl rfl ?_
      refine st (X.pickT rfl rfl) rfl ?_
      refine Wn ?_
      refine tN ?_
      refine W_yes rfl (rfl) ?_
      refine W_rs ?_
      refine sc _ Try.func18 rfl (by kernel_rfl) rfl rfl ((awake_any _).mono ?_)
      rintro e_ w2 ⟨rfl, hb⟩
      refine cR ?_
      replace hbw := bthen hbw hb
      have hz_w2 := hb.size
      clear hb
      refine sa rfl rfl ?_
      refine Wn ?_
      refine tN ?_
      refine W_ret (tR ?_)
      exact (rT rfl rfl ⟨rfl, hbw⟩).1
    · first | replace h25 := of_decide_eq_false h25 | replace h25 := of_decide_eq_true (notF h25) | replace h25 := notF h25 | skip
      refine gY (g := 25) rfl rfl rfl ?_
      refine sm rfl rfl ?_
      refine gY (g := 25) rfl rfl rfl ?_
      refine sm rfl rfl ?_
      refine gY (g := 25) rfl rfl rfl ?_
      refine st (X.lenL rfl rfl Try.underlying22) rfl ?_
      refine gY (g := 25) rfl rfl rfl ?_
      refine st (X.gtr rfl rfl) rfl ?_
      refine st (X.pickF rfl rfl) rfl ?_
      refine Wn ?_
      refine tN ?_
      refine W_if rfl (fun h30 => ?_) (fun h30 => ?_)
      · first | replace h30 := of_decide_eq_true h30 | replace h30 := of_decide_eq_false (notT h30) | replace h30 := notT h30 | skip
        refine W_rs ?_
        refine sc _ Try.func18 rfl (by kernel_rfl) rfl rfl ((awake_any _).mono ?_)
        rintro e_ w3 ⟨rfl, hb⟩
        refine cR ?_
        replace hbw := bthen hbw hb
        have hz_w3 := hb.size
        clear hb
        refine sa rfl rfl ?_
        refine Wn ?_
        refine tN ?_
        refine W_ret (tR ?_)
        exact (rT rfl rfl ⟨rfl, hbw⟩).1
      · first | replace h30 := of_decide_eq_false h30 | replace h30 := of_decide_eq_true (notF h30) | replace h30 := notF h30 | skip
        obtain ⟨i, rfl⟩ : ∃ i : Nat, n = i := ⟨n.toNat, by omega⟩
        have hil : i ≤ l.length := by omega
        refine W_skip ?_
        refine tN ?_
        refine W_seq ?_
        refine W_rs ?_
        refine sa rfl rfl ?_
        refine Wn ?_
        refine tN ?_
        refine W_block ?_
        refine W_lp (fun nw4_ lw4_ w4 => ∃ j : Nat, nw4_ = l.length - j ∧ lw4_ = ([(0, .slice a l.length cp), (1, .int .i64 i), (5, .int .i64 j)] : Env) ∧ (j ≤ l.length) ∧ (Few (l.take j)) ∧ (Below w.heap.size w w4)) _ ⟨_, ⟨0, rfl, rfl, by omega, (fun c hc => by simp at hc), hbw⟩, ⟨rfl, rfl, rfl, trivial⟩⟩ ?_
        clear hbw
        rintro nw4_ lw4_ w4 ⟨j, rfl, rfl, hj, hp, hbw⟩
        have hz_w4 := hbw.size
        refine W_seq ?_
        refine W_rs ?_
        refine sm rfl rfl ?_
        refine sm rfl rfl ?_
        refine st (X.lenL rfl rfl Try.underlying22) rfl ?_
        refine st (X.lss rfl rfl) rfl ?_
        refine Wn ?_
        refine tN ?_
        refine W_if rfl (fun h35 => ?_) (fun h35 => ?_)
        · first | replace h35 := of_decide_eq_true h35 | replace h35 := of_decide_eq_false (notT h35) | replace h35 := notT h35 | skip
          obtain ⟨x, hx⟩ : ∃ x, l[j]? = some x := ⟨_, List.getElem?_eq_getElem (by omega)⟩
          obtain ⟨g1, o1, c', hv, hg1⟩ := (h.1.bel hbw).some_ (by omega)
          injection hv with e1 _ e3
          subst e1 e3
          have hxs := h.2 x (List.mem_of_getElem? hx)
          refine W_skip ?_
          refine tN ?_
          refine W_seq ?_
          refine W_block ?_
          refine W_rs ?_
          refine sm rfl rfl ?_
          refine sm rfl rfl ?_
          refine st (X.idxA rfl rfl Try.underlying22 siz57 rfl (by omega)) rfl ?_
          refine st (X.fa fa57_1 rfl) rfl ?_
          refine st (X.ld rfl Try.underlying3 rfl (((h.bel hbw).range hx) 32 (.int .i64 x.len) (by simp [Chk.cells, hxs]))) rfl ?_
          refine st (X.lss rfl rfl) rfl ?_
          refine sb rfl rfl (fun h44 => ?_) (fun h44 => ?_)
          · first | replace h44 := of_decide_eq_true h44 | replace h44 := of_decide_eq_false (notT h44) | replace h44 := notT h44 | skip
            refine gN (g := 44) rfl rfl rfl rfl ?_
            refine gN (g := 44) rfl rfl rfl rfl ?_
            refine gN (g := 44) rfl rfl rfl rfl ?_
            refine gN (g := 44) rfl rfl rfl rfl ?_
            refine gN (g := 44) rfl rfl rfl rfl ?_
            refine gN (g := 44) rfl rfl rfl rfl ?_
            refine st (X.pickT rfl rfl) rfl ?_
            refine Wn ?_
            refine tN ?_
            refine W_yes rfl (rfl) ?_
            refine W_rs ?_
            refine sc _ Try.func18 rfl (by kernel_rfl) rfl rfl ((awake_any _).mono ?_)
            rintro e_ w5 ⟨rfl, hb⟩
            refine cR ?_
            replace hbw := bthen hbw hb
            have hz_w5 := hb.size
            clear hb
            refine sa rfl rfl ?_
            refine Wn ?_
            refine tN ?_
            refine W_ret (bR (tR (tR (bR (tR ?_)))))
            exact (rT rfl rfl ⟨rfl, hbw⟩).1
          · first | replace h44 := of_decide_eq_false h44 | replace h44 := of_decide_eq_true (notF h44) | replace h44 := notF h44 | skip
            refine gY (g := 44) rfl rfl rfl ?_
            refine sm rfl rfl ?_
            refine gY (g := 44) rfl rfl rfl ?_
            refine sm rfl rfl ?_
            refine gY (g := 44) rfl rfl rfl ?_
            refine st (X.idxA rfl rfl Try.underlying22 siz57 rfl (by omega)) rfl ?_
            refine gY (g := 44) rfl rfl rfl ?_
            refine st (X.fa fa57_1 rfl) rfl ?_
            refine gY (g := 44) rfl rfl rfl ?_
            refine st (X.ld rfl Try.underlying3 rfl (((h.bel hbw).range hx) 32 (.int .i64 x.len) (by simp [Chk.cells, hxs]))) rfl ?_
            refine gY (g := 44) rfl rfl rfl ?_
            refine st (X.gtr rfl rfl) rfl ?_
            refine st (X.pickF rfl rfl) rfl ?_
            refine Wn ?_
            refine tN ?_
            refine W_if rfl (fun h51 => ?_) (fun h51 => ?_)
            · first | replace h51 := of_decide_eq_true h51 | replace h51 := of_decide_eq_false (notT h51) | replace h51 := notT h51 | skip
              refine W_rs ?_
              refine sc _ Try.func18 rfl (by kernel_rfl) rfl rfl ((awake_any _).mono ?_)
              rintro e_ w6 ⟨rfl, hb⟩
              refine cR ?_
              replace hbw := bthen hbw hb
              have hz_w6 := hb.size
              clear hb
              refine sa rfl rfl ?_
              refine Wn ?_
              refine tN ?_
              refine W_ret (bR (tR (tR (bR (tR ?_)))))
              exact (rT rfl rfl ⟨rfl, hbw⟩).1
            · first | replace h51 := of_decide_eq_false h51 | replace h51 := of_decide_eq_true (notF h51) | replace h51 := notF h51 | skip
              refine W_skip ?_
              refine bN ?_
              refine tN ?_
              refine W_reg ?_
              refine sm rfl rfl ?_
              refine st (X.add64 rfl rfl (by omega)) rfl ?_
              refine sa rfl rfl ?_
              refine Wn ?_
              refine tN ⟨_, _, ?_, ⟨j + 1, rfl, rfl, by omega, hp.next hx (by omega) (by omega), hbw⟩, ⟨rfl, rfl, rfl, trivial⟩⟩
              omega
        · first | replace h35 := of_decide_eq_false h35 | replace h35 := of_decide_eq_true (notF h35) | replace h35 := notF h35 | skip
          obtain rfl : j = l.length := by omega
          rw [List.take_length] at hp
          have hll : l.length ≤ 40 := by omega
          have hpd := hp.drop i
          have hdl : (l.drop i).length ≤ 60 := by rw [List.length_drop]; omega
          have hd32 : ∀ c ∈ l.drop i, c.sum.length = 32 := fun c hc => hl32 c (List.mem_of_mem_drop hc)
          refine W_exit (tE (tE (bH ?_)))
          refine tN ?_
          refine W_rs ?_
          refine sc _ Try.func25 rfl (by kernel_rfl) rfl rfl ((New_any _).mono ?_)
          rintro e_ w7 ⟨ga, ba, rfl, hA, hgla, hbla, hgba, hb⟩
          refine cR ?_
          replace hbw := bthen hbw hb
          have hz_w7 := hb.size
          clear hb
          have hAl := hA.lt
          refine sa rfl rfl ?_
          refine Wn ?_
          refine tN ?_
          refine W_rs ?_
          refine sc _ Try.func25 rfl (by kernel_rfl) rfl rfl ((New_any _).mono ?_)
          rintro e_ w8 ⟨gb, bb, rfl, hB, hglb, hblb, hgbb, hb⟩
          refine cR ?_
          have hpend := hb
          replace hbw := bthen hbw hb
          have hz_w8 := hb.size
          clear hb
          have hBl := hB.lt
          replace hA := hA.bel hpend
          clear hpend
          refine sa rfl rfl ?_
          refine Wn ?_
          refine tN ?_
          refine W_seq ?_
          refine W_rs ?_
          refine sm rfl rfl ?_
          refine st (X.nilP rfl) rfl ?_
          refine sbN rfl (rfl) rfl ?_
          refine gY (g := 57) rfl rfl rfl ?_
          refine sm rfl rfl ?_
          refine gY (g := 57) rfl rfl rfl ?_
          refine st (X.nilP rfl) rfl ?_
          refine st (X.pickF rfl rfl) rfl ?_
          refine Wn ?_
          refine tN ?_
          refine W_no rfl (rfl) ?_
          refine W_skip ?_
          refine tN ?_
          refine W_rs ?_
          refine sm rfl rfl ?_
          refine sm rfl rfl ?_
          refine sc _ Try.func26 rfl (by kernel_rfl) rfl rfl ((Add_any ga ba [] _ l _ hA cnts_nil (h.bel hbw)).mono ?_)
          rintro e_ w9 ⟨v1, rfl, hG1, hO1, hC1, hch⟩
          refine cR ?_
          rw [(addM_few hp (by omega)).2]
          rw [(addM_few hp (by omega)).1] at hC1
          replace hA := hC1
          replace hB := hB.chg hch (by show ¬ _ = _; omega) (by show ¬ _ = _; omega)
          replace hbw := bset hbw hch (by omega)
          have hz122 := hch.size
          clear hch hC1 hG1 hO1
          refine sm rfl rfl ?_
          refine st (X.ext rfl rfl) rfl ?_
          refine st (X.ext rfl rfl) rfl ?_
          refine sa rfl rfl ?_
          refine sa rfl rfl ?_
          refine Wn ?_
          refine tN ?_
          refine W_rs ?_
          refine sm rfl rfl ?_
          refine sm rfl rfl ?_
          refine sm rfl rfl ?_
          refine st (X.fromL rfl rfl Try.underlying22 siz57 rfl hil) rfl ?_
          refine sc _ Try.func26 rfl (by kernel_rfl) rfl rfl ((Add_any gb bb [] _ (l.drop i) _ hB cnts_nil ((h.bel hbw).drop i hil)).mono ?_)
          rintro e_ w10 ⟨v2, rfl, hG2, hO2, hC2, hch⟩
          refine cR ?_
          rw [(addM_few hpd hdl).2]
          rw [(addM_few hpd hdl).1] at hC2
          replace hB := hC2
          replace hA := hA.chg hch (by show ¬ _ = _; omega) (by show ¬ _ = _; omega)
          replace hbw := bset hbw hch (by omega)
          have hz134 := hch.size
          clear hch hC2 hG2 hO2
          have hcB := hpd.cnts hdl hd32
          refine sm rfl rfl ?_
          refine st (X.ext rfl rfl) rfl ?_
          refine st (X.ext rfl rfl) rfl ?_
          refine sa rfl rfl ?_
          refine sa rfl rfl ?_
          refine Wn ?_
          refine tN ?_
          refine W_rs ?_
          refine sm rfl rfl ?_
          refine sm rfl rfl ?_
          refine sm rfl rfl ?_
          refine st (X.toL rfl rfl Try.underlying22 siz57 rfl (by omega)) rfl ?_
          refine sc _ Try.func26 rfl (by kernel_rfl) rfl rfl ((Add_any gb bb (netM (l.drop i)) _ (l.take i) _ hB hcB ((h.bel hbw).take i hil)).mono ?_)
          rintro e_ w11 ⟨v3, rfl, hG3, hO3, hC3, hch⟩
          refine cR ?_
          rw [(add_parts hp (by omega) i).2]
          rw [(add_parts hp (by omega) i).1] at hC3
          replace hB := hC3
          replace hA := hA.chg hch (by show ¬ _ = _; omega) (by show ¬ _ = _; omega)
          replace hbw := bset hbw hch (by omega)
          have hz144 := hch.size
          clear hch hC3 hG3 hO3 hcB
          have hAl2 := hA.lt
          have hBl2 := hB.lt
          have hcA := hp.cnts (by omega) hl32
          have hnA := netM_length l
          refine sm rfl rfl ?_
          refine st (X.ext rfl rfl) rfl ?_
          refine st (X.ext rfl rfl) rfl ?_
          refine sa rfl rfl ?_
          refine sa rfl rfl ?_
          refine Wn ?_
          refine tN ?_
          refine W_rs ?_
          refine sm rfl rfl ?_
          refine sc _ Try.func39 rfl (by kernel_rfl) rfl rfl ((Copy_any ga ba _ _ hA).mono ?_)
          rintro e_ w12 ⟨gc, bc, rfl, hC0, hglc, hblc, hgbc, hb⟩
          refine cR ?_
          have hpend := hb
          replace hbw := bthen hbw hb
          have hz_w12 := hb.size
          clear hb
          have hCl := hC0.lt
          replace hA := hA.bel hpend
          replace hB := hB.bel hpend
          clear hpend
          refine sa rfl rfl ?_
          refine Wn ?_
          refine tN ?_
          refine W_seq ?_
          refine W_rs ?_
          refine sm rfl rfl ?_
          refine st (X.neq rfl rfl) rfl ?_
          refine sbN rfl (rfl) rfl ?_
          refine gY (g := 87) rfl rfl rfl ?_
          refine sm rfl rfl ?_
          refine gY (g := 87) rfl rfl rfl ?_
          refine st (X.neq rfl rfl) rfl ?_
          refine st (X.pickF rfl rfl) rfl ?_
          refine sbN rfl (rfl) rfl ?_
          refine gY (g := 91) rfl rfl rfl ?_
          refine sm rfl rfl ?_
          refine gY (g := 91) rfl rfl rfl ?_
          refine st (X.neq rfl rfl) rfl ?_
          refine st (X.pickF rfl rfl) rfl ?_
          refine sbN rfl (rfl) rfl ?_
          refine gY (g := 95) rfl rfl rfl ?_
          refine sm rfl rfl ?_
          refine gY (g := 95) rfl rfl rfl ?_
          refine sc _ Try.func32 rfl (by kernel_rfl) rfl rfl ((Encode_cnt ga ba _ _ hA hcA.sum (by omega)).mono ?_)
          rintro e_ w13 ⟨rfl, hb⟩
          refine cR ?_
          have hpend := hb
          replace hbw := bthen hbw hb
          have hz_w13 := hb.size
          clear hb
          refine gY (g := 95) rfl rfl rfl ?_
          refine sm rfl rfl ?_
          refine gY (g := 95) rfl rfl rfl ?_
          replace hA := hA.bel hpend
          replace hB := hB.bel hpend
          replace hC0 := hC0.bel hpend
          clear hpend
          refine sc _ Try.func32 rfl (by kernel_rfl) rfl rfl ((Encode_cnt gb bb _ _ hB hcA.sum (by omega)).mono ?_)
          rintro e_ w14 ⟨rfl, hb⟩
          refine cR ?_
          have hpend := hb
          replace hbw := bthen hbw hb
          have hz_w14 := hb.size
          clear hb
          replace hA := hA.bel hpend
          replace hB := hB.bel hpend
          replace hC0 := hC0.bel hpend
          clear hpend
          refine gY (g := 95) rfl rfl rfl ?_
          refine st (X.neS rfl rfl) rfl ?_
          refine st (X.pickF rfl rfl) rfl ?_
          refine Wn ?_
          refine tN ?_
          refine W_no rfl (by simp) ?_
          refine W_skip ?_
          refine tN ?_
          refine W_seq ?_
          refine W_rs ?_
          refine sm rfl rfl ?_
          refine st (X.lenL rfl rfl Try.underlying22) rfl ?_
          refine st (X.sub64 rfl rfl (by omega)) rfl ?_
          refine sa rfl rfl ?_
          refine Wn ?_
          refine tN ?_
          refine W_block ?_
          have hA0 := hA
          rw [← List.take_length (l := l)] at hA0
          refine W_lp (fun nw15_ lw15_ w15 => ∃ k : Nat, nw15_ = k + 1 ∧ lw15_ = ([(0, .slice a l.length cp), (6, .pointer (some ⟨ga, 0, none⟩)), (7, .pointer (some ⟨gb, 0, none⟩)), (14, .pointer (some ⟨gc, 0, none⟩)), (15, .int .i64 ((k : Int) - 1))] : Env) ∧ (k ≤ l.length) ∧ (CountsAt w15 ga ba (netM (l.take k))) ∧ (CountsAt w15 gb bb (netM l)) ∧ (CountsAt w15 gc bc (netM l)) ∧ (Below w.heap.size w w15)) _ ⟨_, ⟨l.length, rfl, rfl, Nat.le_refl _, hA0, hB, hC0, hbw⟩, ⟨rfl, rfl, rfl, rfl, rfl, trivial⟩⟩ ?_
          clear hB hC0 hbw
          rintro nw15_ lw15_ w15 ⟨k, rfl, rfl, hk, hA, hB, hC0, hbw⟩
          have hz_w15 := hbw.size
          refine W_seq ?_
          refine W_rs ?_
          refine sm rfl rfl ?_
          refine st (X.geq rfl rfl) rfl ?_
          refine Wn ?_
          refine tN ?_
          refine W_if rfl (fun h106 => ?_) (fun h106 => ?_)
          · first | replace h106 := of_decide_eq_true h106 | replace h106 := of_decide_eq_false (notT h106) | replace h106 := notT h106 | skip
            obtain ⟨x, hx⟩ : ∃ x, l[k - 1]? = some x := ⟨_, List.getElem?_eq_getElem (by omega)⟩
            obtain ⟨g1, o1, c', hv, hg1⟩ := (h.1.bel hbw).some_ (by omega)
            injection hv with e1 _ e3
            subst e1 e3
            have hxs := h.2 x (List.mem_of_getElem? hx)
            have hxb := hp x (List.mem_of_getElem? hx)
            refine W_skip ?_
            refine tN ?_
            refine W_seq ?_
            refine W_block ?_
            refine W_drsN (fun W_ => W_.rangeAt g1 (o1 + (k - 1) * 33) x.cells) [0, 1, 2, 3, 4, 5, 6, 7, 8, 9, 10, 11, 12, 13, 14, 15, 16, 17, 18, 19] [true, true, true, true, true, true, true, true, true, true, true, true, true, false, false, true, true, true, true, true] (by kernel_rfl) (by kernel_rfl) ((h.bel (bdrew hbw)).range hx) ?_
            obtain ⟨w16, hw_⟩ : ∃ w16 : World, w16 = World.drew w15 := ⟨_, rfl⟩
            rw [← hw_]
            have hb : Below w15.heap.size w15 w16 := by rw [hw_]; exact bdrew (Below.refl _ _)
            clear hw_
            have hS := hb
            have hpend := hb
            replace hbw := bthen hbw hb
            have hz_w16 := hb.size
            clear hb
            refine oY rfl (fun W_ hW_ => (X.move rfl)) rfl ?_
            refine oY rfl (fun W_ hW_ => (X.move rfl)) rfl ?_
            refine oY rfl (fun W_ hW_ => (X.move rfl)) rfl ?_
            refine oY rfl (fun W_ hW_ => (X.idxA (j := k - 1) rfl rfl Try.underlying22 siz57 (by omega) (by omega))) rfl ?_
            refine oY rfl (fun W_ hW_ => (X.fa fa57_0 rfl)) rfl ?_
            refine oY rfl (fun W_ hW_ => (X.ldN (cs := x.sum.map bv) rfl Try.underlying36 rfl (by rw [List.length_map, hxs]; exact siz36) (sumRange hW_))) rfl ?_
            refine oY rfl (fun W_ hW_ => (X.move rfl)) rfl ?_
            refine oY rfl (fun W_ hW_ => (X.move rfl)) rfl ?_
            refine oY rfl (fun W_ hW_ => (X.idxA (j := k - 1) rfl rfl Try.underlying22 siz57 (by omega) (by omega))) rfl ?_
            refine oY rfl (fun W_ hW_ => (X.fa fa57_1 rfl)) rfl ?_
            refine oY rfl (fun W_ hW_ => (X.ld rfl Try.underlying3 rfl (hW_ 32 (.int .i64 x.len) (by simp [Chk.cells, hxs])))) rfl ?_
            refine oY rfl (fun W_ hW_ => (X.neg rfl (show IntKind.i64.wrap (0 - x.len) = -x.len by rw [w64 (by omega)]; omega))) rfl ?_
            refine oY rfl (fun W_ hW_ => (X.bld rfl (bdelta x.sum hxs (-x.len) _))) rfl ?_
            refine oL rfl (fun Q_ hQ_ hP_ => ?_)
            replace hA := hA.bel hpend
            replace hB := hB.bel hpend
            replace hC0 := hC0.bel hpend
            clear hpend
            refine sbs1 rfl Try.underlying22 inf57 (Chk.size (c := ⟨x.sum, -x.len⟩) hxs) rfl (by decide) (by decide) rfl (fun g123 w17 hR123 hg123 hb => ?_)
            replace hbw := bthen hbw hb
            replace hA := hA.bel hb
            replace hB := hB.bel hb
            replace hC0 := hC0.bel hb
            have hz2113 := hb.size
            clear hb
            refine Wn (hQ_ _ _ ((h.bel hbw).range hx) ?_)
            clear hQ_ hP_ Q_
            refine oL rfl (fun Q_ hQ_ hP_ => ?_)
            refine sc _ Try.func26 rfl (by kernel_rfl) rfl rfl ((Add_any ga ba (netM (l.take k)) _ [⟨x.sum, -x.len⟩] _ hA (hp.cnts' (by omega) hl32 k) ⟨(by rw [show ([(⟨x.sum, -x.len⟩ : Chk)].flatMap Chk.cells) = Chk.cells ⟨x.sum, -x.len⟩ by simp]; exact hR123.reads), fun c hc => by simp at hc; subst hc; exact hxs⟩).mono ?_)
            rintro e_ w18 ⟨v4, rfl, hG4, hO4, hC4, hch⟩
            refine cR ?_
            rw [(add_back hp (by omega) (by omega) hx).2]
            rw [(add_back hp (by omega) (by omega) hx).1] at hC4
            replace hA := hC4
            replace hB := hB.chg hch (by show ¬ _ = _; omega) (by show ¬ _ = _; omega)
            replace hC0 := hC0.chg hch (by show ¬ _ = _; omega) (by show ¬ _ = _; omega)
            replace hbw := bset hbw hch (by omega)
            have hz2114 := hch.size
            clear hch hC4 hG4 hO4 hR123
            refine Wn (hQ_ _ _ ((h.bel hbw).range hx) ?_)
            clear hQ_ hP_ Q_
            refine oY rfl (fun W_ hW_ => (X.move rfl)) rfl ?_
            refine oY rfl (fun W_ hW_ => (X.ext rfl rfl)) rfl ?_
            refine oY rfl (fun W_ hW_ => (X.ext rfl rfl)) rfl ?_
            refine oY rfl (fun W_ hW_ => (X.assign rfl)) rfl ?_
            refine oY rfl (fun W_ hW_ => (X.assign rfl)) rfl ?_
            refine oN ?_
            refine nN ?_
            refine W_rs ?_
            refine sm rfl rfl ?_
            refine st (X.neq rfl rfl) rfl ?_
            refine Wn ?_
            refine tN ?_
            refine W_no rfl (rfl) ?_
            refine W_skip ?_
            refine bN ?_
            refine tN ?_
            refine W_reg ?_
            refine sm rfl rfl ?_
            refine st (X.sub64 rfl rfl (by omega)) rfl ?_
            refine sa rfl rfl ?_
            refine Wn ?_
            refine tN ⟨_, _, ?_, ⟨k - 1, rfl, rfl, by omega, hA, hB, hC0, hbw⟩, ⟨rfl, rfl, rfl, rfl, by show some (Value.int .i64 _) = some (Value.int .i64 _); congr 2; omega, trivial⟩⟩
            omega
          · first | replace h106 := of_decide_eq_false h106 | replace h106 := of_decide_eq_true (notF h106) | replace h106 := notF h106 | skip
            obtain rfl : k = 0 := by omega
            rw [List.take_zero, netM_nil] at hA
            refine W_exit (tE (tE (bH ?_)))
            refine tN ?_
            refine W_rs ?_
            refine sm rfl rfl ?_
            refine sc _ Try.func29 rfl (by kernel_rfl) rfl rfl ((Len_any ga ba [] _ hA (fun c hc => by cases hc)).mono ?_)
            rintro e_ w19 ⟨rfl, hb⟩
            refine cR ?_
            have hpend := hb
            replace hbw := bthen hbw hb
            have hz_w19 := hb.size
            clear hb
            rw [netM_nil]
            refine st (X.eql rfl rfl) rfl ?_
            refine sbY rfl (rfl) rfl ?_
            refine gY (g := 132) rfl rfl rfl ?_
            refine sm rfl rfl ?_
            refine gY (g := 132) rfl rfl rfl ?_
            replace hA := hA.bel hpend
            replace hB := hB.bel hpend
            replace hC0 := hC0.bel hpend
            clear hpend
            refine sc _ Try.func30 rfl (by kernel_rfl) rfl rfl ((Total_any ga ba [] _ hA (fun c hc => by cases hc) (by simp) (by rw [netM_nil]; exact fun c hc => by cases hc)).mono ?_)
            rintro e_ w20 ⟨rfl, hb⟩
            refine cR ?_
            have hpend := hb
            replace hbw := bthen hbw hb
            have hz_w20 := hb.size
            clear hb
            rw [netM_nil]
            refine gY (g := 132) rfl rfl rfl ?_
            refine st (X.eql rfl rfl) rfl ?_
            refine st (X.pickT rfl rfl) rfl ?_
            refine sbY rfl (rfl) rfl ?_
            refine gY (g := 137) rfl rfl rfl ?_
            refine sm rfl rfl ?_
            refine gY (g := 137) rfl rfl rfl ?_
            replace hA := hA.bel hpend
            replace hB := hB.bel hpend
            replace hC0 := hC0.bel hpend
            clear hpend
            refine sc _ Try.func32 rfl (by kernel_rfl) rfl rfl ((Encode_cnt gc bc _ _ hC0 hcA.sum (by omega)).mono ?_)
            rintro e_ w21 ⟨rfl, hb⟩
            refine cR ?_
            have hpend := hb
            replace hbw := bthen hbw hb
            have hz_w21 := hb.size
            clear hb
            refine gY (g := 137) rfl rfl rfl ?_
            refine sm rfl rfl ?_
            refine gY (g := 137) rfl rfl rfl ?_
            replace hA := hA.bel hpend
            replace hB := hB.bel hpend
            replace hC0 := hC0.bel hpend
            clear hpend
            refine sc _ Try.func32 rfl (by kernel_rfl) rfl rfl ((Encode_cnt gb bb _ _ hB hcA.sum (by omega)).mono ?_)
            rintro e_ w22 ⟨rfl, hb⟩
            refine cR ?_
            have hpend := hb
            replace hbw := bthen hbw hb
            have hz_w22 := hb.size
            clear hb
            refine gY (g := 137) rfl rfl rfl ?_
            refine st (X.eqS rfl rfl) rfl ?_
            refine st (X.pickT rfl rfl) rfl ?_
            refine sbY rfl (by simp) rfl ?_
            refine gY (g := 144) rfl rfl rfl ?_
            refine sc _ Try.func18 rfl (by kernel_rfl) rfl rfl ((awake_any _).mono ?_)
            rintro e_ w23 ⟨rfl, hb⟩
            refine cR ?_
            replace hpend := bthen hpend hb
            replace hbw := bthen hbw hb
            have hz_w23 := hb.size
            clear hb
            refine st (X.pickT rfl rfl) rfl ?_
            refine sa rfl rfl ?_
            refine Wn ?_
            refine tN ?_
            replace hA := hA.bel hpend
            replace hB := hB.bel hpend
            replace hC0 := hC0.bel hpend
            clear hpend
            refine W_ret ?_
            exact (rT rfl rfl ⟨rfl, hbw⟩).1
end Go.Proofs.Ytnagmpnpgekhfaa
