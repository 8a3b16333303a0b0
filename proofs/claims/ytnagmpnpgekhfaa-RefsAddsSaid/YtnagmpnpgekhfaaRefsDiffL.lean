/- The law RefsDiff. -/
import Derived.Test.YtnagmpnpgekhfaaClone
namespace Go.Proofs.Ytnagmpnpgekhfaa
open Go.RowKit
theorem tot_neg (a : Key) (l : List Chk) : tot a (l.map negC) = - tot a l := by
  induction l with
  | nil => rfl
  | cons c l ih =>
    simp only [List.map_cons, tot, ih]
    show (if c.sum = a then -c.len else 0) + _ = _
    split <;> omega
theorem tot_pos {l : List Chk} (h : ∀ c ∈ l, 0 ≤ c.len) (a : Key) : 0 ≤ tot a l := by
  induction l with
  | nil => exact Int.le_refl 0
  | cons c l ih =>
    have h1 := h c (List.mem_cons_self ..)
    have h2 := ih (fun d hd => h d (List.mem_cons_of_mem _ hd))
    simp only [tot]
    split <;> omega
def Few (l : List Chk) : Prop := ∀ c ∈ l, 0 ≤ c.len ∧ c.len ≤ 1000
theorem Few.tot {l : List Chk} (h : Few l) (a : Key) : 0 ≤ tot a l ∧ tot a l ≤ 1000 * l.length :=
  ⟨tot_pos (fun c hc => (h c hc).1) a, (tot_bound (k := 1000) (by decide) (fun c hc => by have := h c hc; omega) a).2⟩
theorem Few.next {l : List Chk} {j : Nat} {x : Chk} (h : Few (l.take j)) (hx : l[j]? = some x) (h0 : 0 ≤ x.len) (h1 : x.len ≤ 1000) : Few (l.take (j + 1)) := fun c hc => by
  rw [take_next' hx] at hc
  rcases List.mem_append.1 hc with h2 | h2
  · exact h c h2
  · simp at h2; subst h2; exact ⟨h0, h1⟩
/-- what is added where nothing goes wrong -/
theorem addM_ok {x l : List Chk} (hm : mayM l = 0) (hb : ∀ a, 0 ≤ tot a x + tot a l ∧ tot a x + tot a l ≤ 2147483647) : (addM x l).1 = netM (x ++ l) ∧ (addM x l).2.2 = 0 := by
  have ho : (netM (x ++ l)).any outN = false := by
    rw [List.any_eq_false]
    intro c hc
    have h1 := ((isNet _).mem c).1 hc
    rw [tot_append] at h1
    have h2 := hb c.sum
    rw [show outN c = false from decide_eq_false (by omega)]; simp
  unfold addM
  rw [if_neg (by omega), if_neg (by rw [ho]; simp)]
  exact ⟨rfl, rfl⟩
theorem addM_few {l : List Chk} (h : Few l) (hl : l.length ≤ 60) : (addM [] l).1 = netM l ∧ (addM [] l).2.2 = 0 := by
  have := addM_ok (x := []) (l := l) (mayM_of (by omega) (fun c hc => by have := h c hc; omega)) (fun a => by
    have := h.tot a
    have : tot a ([] : List Chk) = 0 := rfl
    omega)
  rwa [List.nil_append] at this
theorem Few.cnts {l : List Chk} (h : Few l) (hl : l.length ≤ 60) (h32 : ∀ c ∈ l, c.sum.length = 32) : Cnts (netM l) := by
  have := addM_cnts cnts_nil (l := l) h32
  rwa [(addM_few h hl).1] at this
theorem Few.net {l : List Chk} (h : Few l) (hl : l.length ≤ 60) {c : Chk} (hc : c ∈ netM l) : 0 ≤ c.len ∧ c.len ≤ 60000 := by
  have h1 := ((isNet _).mem c).1 hc
  have h2 := h.tot c.sum
  omega
/-- the difference of two -/
def diffM (l m : List Chk) : List Chk := netM (netM m ++ (netM l).map negC)
theorem diff_tot (l m : List Chk) (a : Key) : tot a (diffM l m) = tot a m - tot a l := by
  unfold diffM
  rw [net_tot, tot_append, tot_neg, net_tot, net_tot]; omega
theorem diff_len (l m : List Chk) : (diffM l m).length ≤ m.length + l.length := by
  have h1 := netM_length (netM m ++ (netM l).map negC)
  have h2 := netM_length l
  have h3 := netM_length m
  rw [List.length_append, List.length_map] at h1
  unfold diffM
  omega
theorem diff_may {l m : List Chk} (hl : Few l) (hm : Few m) (h1 : l.length ≤ 60) (h2 : m.length ≤ 60) : mayM (diffM l m) = 0 :=
  mayM_of (by have := diff_len l m; omega) (fun c hc => by
    have h3 := ((isNet _).mem c).1 hc
    have h4 := diff_tot l m c.sum
    have h5 := hl.tot c.sum
    have h6 := hm.tot c.sum
    unfold diffM at h4
    rw [net_tot] at h4
    omega)
theorem diff_net (l m : List Chk) : netM (diffM l m) = diffM l m := netM_self (isNet _).srt (fun c hc => (((isNet _).mem c).1 hc).2)
theorem diff_pack {l m : List Chk} (hl : Few l) (hm : Few m) (h1 : l.length ≤ 60) (h2 : m.length ≤ 60) : errO (packM (diffM l m)) = 0 := by
  unfold packM
  rw [if_neg (by rw [diff_may hl hm h1 h2]; simp), if_pos (diff_net l m)]
  rfl
theorem diff_add {l m : List Chk} (hl : Few l) (hm : Few m) (h1 : l.length ≤ 60) (h2 : m.length ≤ 60) : (addM (netM l) (diffM l m)).1 = netM m ∧ (addM (netM l) (diffM l m)).2.2 = 0 := by
  have ht : ∀ a, tot a (netM l) + tot a (diffM l m) = tot a m := fun a => by rw [diff_tot, net_tot]; omega
  have h3 := addM_ok (x := netM l) (l := diffM l m) (diff_may hl hm h1 h2) (fun a => by rw [ht]; have := hm.tot a; omega)
  rw [netM_congr (l := netM l ++ diffM l m) (m := m) (fun a => by rw [tot_append, ht])] at h3
  exact h3
theorem diff_self (m : List Chk) : diffM m m = [] := by
  have h : netM ([] : List Chk) = [] := netM_self List.Pairwise.nil (fun c hc => by cases hc)
  rw [← h]
  exact netM_congr fun a => by
    have := diff_tot m m a
    unfold diffM at this
    rw [net_tot] at this
    rw [this]
    show _ = (0 : Int)
    omega
theorem diff_32 {l m : List Chk} (h1 : ∀ c ∈ l, c.sum.length = 32) (h2 : ∀ c ∈ m, c.sum.length = 32) : ∀ c ∈ diffM l m, c.sum.length = 32 := netM_sum32 fun c hc => by
  rcases List.mem_append.1 hc with h | h
  · exact netM_sum32 h2 c h
  · obtain ⟨d, hd, rfl⟩ := List.mem_map.1 h
    exact netM_sum32 h1 d hd
theorem Diff_few {gf bf gt bt : Nat} {l m : List Chk} (w : World) (hF : CountsAt w gf bf (netM l)) (hT : CountsAt w gt bt (netM m)) (hl : Few l) (hm : Few m) (h1 : l.length ≤ 60) (h2 : m.length ≤ 60) (h3 : ∀ c ∈ l, c.sum.length = 32) (h4 : ∀ c ∈ m, c.sum.length = 32) :
    Calls Try.prog 37 #[.pointer (some ⟨gf, 0, none⟩), .pointer (some ⟨gt, 0, none⟩)] w fun e w' => ∃ v, e = .returned v ∧ Row w' 57 33 v (diffM l m).length ((diffM l m).flatMap Chk.cells) ∧ (∀ k, v.ownBlock = some k → w.heap.size ≤ k) ∧ Below w.heap.size w w' :=
  Diff_of _ _ (netM l) (netM m) w (AllC.some hT (hm.cnts h2 h4) (by have := netM_length m; omega)) (AllC.some hF (hl.cnts h1 h3) (by have := netM_length l; omega)) (by have := netM_length l; omega) (by have := netM_length m; omega)
    (fun c hc => by have := hl.net h1 hc; exact ⟨netM_sum32 h3 c hc, by omega, by omega⟩) (fun c hc => by have := hm.net h2 hc; exact ⟨netM_sum32 h4 c hc, by omega, by omega⟩)
set_option maxRecDepth 10000 in
set_option maxHeartbeats 1000000 in
theorem RefsDiff_walk (w : World) (v : Value) (l : List Chk) (h : ChksAt w v l) (u : Value) (m : List Chk) (h' : ChksAt w u m) : Calls Try.prog 7 #[v, u] w fun e w' => e = .returned (.bool true) ∧ Below w.heap.size w w' := by
  obtain ⟨a, cp, rfl, hn, hcp⟩ := h.1.shape
  obtain ⟨a', cp', rfl, hn', hcp'⟩ := h'.1.shape
  have hl32 := h.2
  have hm32 := h'.2
  refine W_enter (args := [.slice a l.length cp, .slice a' m.length cp']) 128 Try.func7 rfl rfl rfl ?_
  refine W_sub [(0, .slice a l.length cp), (1, .slice a' m.length cp')] ?_ ⟨rfl, rfl, trivial⟩
  have hbw := Below.refl w.heap.size w
  refine W_rs ?_
  refine sa rfl rfl ?_
  refine Wn ?_
  refine tN ?_
  refine W_seq ?_
  refine W_rs ?_
  refine sm rfl rfl ?_
  refine st (X.lenL rfl rfl Try.underlying22) rfl ?_
  refine st (X.gtr rfl rfl) rfl ?_
  refine sb rfl rfl (fun h18 => ?_) (fun h18 => ?_)
  · first | replace h18 := of_decide_eq_true h18 | replace h18 := of_decide_eq_false (notT h18) | replace h18 := notT h18 | skip
    refine gN (g := 18) rfl rfl rfl rfl ?_
    refine gN (g := 18) rfl rfl rfl rfl ?_
    refine gN (g := 18) rfl rfl rfl rfl ?_
    refine st (X.pickT rfl rfl) rfl ?_
    refine Wn ?_
    refine tN ?_
    refine W_yes rfl (rfl) ?_
    refine W_rs ?_
    refine sc _ Try.func18 rfl (by kernel_rfl) rfl rfl ((awake_any _).mono ?_)
    rintro e_ w1 ⟨rfl, hb⟩
    refine cR ?_
    replace hbw := bthen hbw hb
    have hz_w1 := hb.size
    clear hb
    refine sa rfl rfl ?_
    refine Wn ?_
    refine tN ?_
    refine W_ret (tR ?_)
    exact (rT rfl rfl ⟨rfl, hbw⟩).1
  · first | replace h18 := of_decide_eq_false h18 | replace h18 := of_decide_eq_true (notF h18) | replace h18 := notF h18 | skip
    refine gY (g := 18) rfl rfl rfl ?_
    refine sm rfl rfl ?_
    refine gY (g := 18) rfl rfl rfl ?_
    refine st (X.lenL rfl rfl Try.underlying22) rfl ?_
    refine gY (g := 18) rfl rfl rfl ?_
    refine st (X.gtr rfl rfl) rfl ?_
    refine st (X.pickF rfl rfl) rfl ?_
    refine Wn ?_
    refine tN ?_
    refine W_if rfl (fun h22 => ?_) (fun h22 => ?_)
    · first | replace h22 := of_decide_eq_true h22 | replace h22 := of_decide_eq_false (notT h22) | replace h22 := notT h22 | skip
      refine W_rs ?_
      refine sc _ Try.func18 rfl (by kernel_rfl) rfl rfl ((awake_any _).mono ?_)
      rintro e_ w2 ⟨rfl, hb⟩
      refine cR ?_
      replace hbw := bthen hbw hb
      have hz_w2 := hb.size
      clear hb
      refine sa rfl rfl ?_
      refine Wn ?_
      refine tN ?_
      refine W_ret (tR ?_)
      exact (rT rfl rfl ⟨rfl, hbw⟩).1
    · first | replace h22 := of_decide_eq_false h22 | replace h22 := of_decide_eq_true (notF h22) | replace h22 := notF h22 | skip
      refine W_skip ?_
      refine tN ?_
      refine W_seq ?_
      refine W_rs ?_
      refine sa rfl rfl ?_
      refine Wn ?_
      refine tN ?_
      refine W_block ?_
      refine W_lp (fun nw3_ lw3_ w3 => ∃ j : Nat, nw3_ = l.length - j ∧ lw3_ = ([(0, .slice a l.length cp), (1, .slice a' m.length cp'), (5, .int .i64 j)] : Env) ∧ (j ≤ l.length) ∧ (Few (l.take j)) ∧ (Below w.heap.size w w3)) _ ⟨_, ⟨0, rfl, rfl, by omega, (fun c hc => by simp at hc), hbw⟩, ⟨rfl, rfl, rfl, trivial⟩⟩ ?_
      clear hbw
      rintro nw3_ lw3_ w3 ⟨j, rfl, rfl, hj, hp, hbw⟩
      have hz_w3 := hbw.size
      refine W_seq ?_
      refine W_rs ?_
      refine sm rfl rfl ?_
      refine sm rfl rfl ?_
      refine st (X.lenL rfl rfl Try.underlying22) rfl ?_
      refine st (X.lss rfl rfl) rfl ?_
      refine Wn ?_
      refine tN ?_
      refine W_if rfl (fun h27 => ?_) (fun h27 => ?_)
      · first | replace h27 := of_decide_eq_true h27 | replace h27 := of_decide_eq_false (notT h27) | replace h27 := notT h27 | skip
        obtain ⟨x, hx⟩ : ∃ x, l[j]? = some x := ⟨_, List.getElem?_eq_getElem (by omega)⟩
        obtain ⟨g1, o1, c', hv, hg1⟩ := (h.1.bel hbw).some_ (by omega)
        injection hv with e1 _ e3
        subst e1 e3
        have hxs := h.2 x (List.mem_of_getElem? hx)
        refine W_skip ?_
        refine tN ?_
        refine W_seq ?_
        refine W_block ?_
        refine W_rs ?_
        refine sm rfl rfl ?_
        refine sm rfl rfl ?_
        refine st (X.idxA rfl rfl Try.underlying22 siz57 rfl (by omega)) rfl ?_
        refine st (X.fa fa57_1 rfl) rfl ?_
        refine st (X.ld rfl Try.underlying3 rfl (((h.bel hbw).range hx) 32 (.int .i64 x.len) (by simp [Chk.cells, hxs]))) rfl ?_
        refine st (X.lss rfl rfl) rfl ?_
        refine sb rfl rfl (fun h36 => ?_) (fun h36 => ?_)
        · first | replace h36 := of_decide_eq_true h36 | replace h36 := of_decide_eq_false (notT h36) | replace h36 := notT h36 | skip
          refine gN (g := 36) rfl rfl rfl rfl ?_
          refine gN (g := 36) rfl rfl rfl rfl ?_
          refine gN (g := 36) rfl rfl rfl rfl ?_
          refine gN (g := 36) rfl rfl rfl rfl ?_
          refine gN (g := 36) rfl rfl rfl rfl ?_
          refine gN (g := 36) rfl rfl rfl rfl ?_
          refine st (X.pickT rfl rfl) rfl ?_
          refine Wn ?_
          refine tN ?_
          refine W_yes rfl (rfl) ?_
          refine W_rs ?_
          refine sc _ Try.func18 rfl (by kernel_rfl) rfl rfl ((awake_any _).mono ?_)
          rintro e_ w4 ⟨rfl, hb⟩
          refine cR ?_
          replace hbw := bthen hbw hb
          have hz_w4 := hb.size
          clear hb
          refine sa rfl rfl ?_
          refine Wn ?_
          refine tN ?_
          refine W_ret (bR (tR (tR (bR (tR ?_)))))
          exact (rT rfl rfl ⟨rfl, hbw⟩).1
        · first | replace h36 := of_decide_eq_false h36 | replace h36 := of_decide_eq_true (notF h36) | replace h36 := notF h36 | skip
          refine gY (g := 36) rfl rfl rfl ?_
          refine sm rfl rfl ?_
          refine gY (g := 36) rfl rfl rfl ?_
          refine sm rfl rfl ?_
          refine gY (g := 36) rfl rfl rfl ?_
          refine st (X.idxA rfl rfl Try.underlying22 siz57 rfl (by omega)) rfl ?_
          refine gY (g := 36) rfl rfl rfl ?_
          refine st (X.fa fa57_1 rfl) rfl ?_
          refine gY (g := 36) rfl rfl rfl ?_
          refine st (X.ld rfl Try.underlying3 rfl (((h.bel hbw).range hx) 32 (.int .i64 x.len) (by simp [Chk.cells, hxs]))) rfl ?_
          refine gY (g := 36) rfl rfl rfl ?_
          refine st (X.gtr rfl rfl) rfl ?_
          refine st (X.pickF rfl rfl) rfl ?_
          refine Wn ?_
          refine tN ?_
          refine W_if rfl (fun h43 => ?_) (fun h43 => ?_)
          · first | replace h43 := of_decide_eq_true h43 | replace h43 := of_decide_eq_false (notT h43) | replace h43 := notT h43 | skip
            refine W_rs ?_
            refine sc _ Try.func18 rfl (by kernel_rfl) rfl rfl ((awake_any _).mono ?_)
            rintro e_ w5 ⟨rfl, hb⟩
            refine cR ?_
            replace hbw := bthen hbw hb
            have hz_w5 := hb.size
            clear hb
            refine sa rfl rfl ?_
            refine Wn ?_
            refine tN ?_
            refine W_ret (bR (tR (tR (bR (tR ?_)))))
            exact (rT rfl rfl ⟨rfl, hbw⟩).1
          · first | replace h43 := of_decide_eq_false h43 | replace h43 := of_decide_eq_true (notF h43) | replace h43 := notF h43 | skip
            refine W_skip ?_
            refine bN ?_
            refine tN ?_
            refine W_reg ?_
            refine sm rfl rfl ?_
            refine st (X.add64 rfl rfl (by omega)) rfl ?_
            refine sa rfl rfl ?_
            refine Wn ?_
            refine tN ⟨_, _, ?_, ⟨j + 1, rfl, rfl, by omega, hp.next hx (by omega) (by omega), hbw⟩, ⟨rfl, rfl, rfl, trivial⟩⟩
            omega
      · first | replace h27 := of_decide_eq_false h27 | replace h27 := of_decide_eq_true (notF h27) | replace h27 := notF h27 | skip
        obtain rfl : j = l.length := by omega
        rw [List.take_length] at hp
        refine W_exit (tE (tE (bH ?_)))
        refine tN ?_
        refine W_seq ?_
        refine W_rs ?_
        refine sa rfl rfl ?_
        refine Wn ?_
        refine tN ?_
        refine W_block ?_
        refine W_lp (fun nw6_ lw6_ w6 => ∃ j : Nat, nw6_ = m.length - j ∧ lw6_ = ([(0, .slice a l.length cp), (1, .slice a' m.length cp'), (6, .int .i64 j)] : Env) ∧ (j ≤ m.length) ∧ (Few (m.take j)) ∧ (Below w.heap.size w w6)) _ ⟨_, ⟨0, rfl, rfl, by omega, (fun c hc => by simp at hc), hbw⟩, ⟨rfl, rfl, rfl, trivial⟩⟩ ?_
        clear hbw
        rintro nw6_ lw6_ w6 ⟨j, rfl, rfl, hj, hp', hbw⟩
        have hz_w6 := hbw.size
        refine W_seq ?_
        refine W_rs ?_
        refine sm rfl rfl ?_
        refine sm rfl rfl ?_
        refine st (X.lenL rfl rfl Try.underlying22) rfl ?_
        refine st (X.lss rfl rfl) rfl ?_
        refine Wn ?_
        refine tN ?_
        refine W_if rfl (fun h48 => ?_) (fun h48 => ?_)
        · first | replace h48 := of_decide_eq_true h48 | replace h48 := of_decide_eq_false (notT h48) | replace h48 := notT h48 | skip
          obtain ⟨x, hx⟩ : ∃ x, m[j]? = some x := ⟨_, List.getElem?_eq_getElem (by omega)⟩
          obtain ⟨g1, o1, c', hv, hg1⟩ := (h'.1.bel hbw).some_ (by omega)
          injection hv with e1 _ e3
          subst e1 e3
          have hxs := h'.2 x (List.mem_of_getElem? hx)
          refine W_skip ?_
          refine tN ?_
          refine W_seq ?_
          refine W_block ?_
          refine W_rs ?_
          refine sm rfl rfl ?_
          refine sm rfl rfl ?_
          refine st (X.idxA rfl rfl Try.underlying22 siz57 rfl (by omega)) rfl ?_
          refine st (X.fa fa57_1 rfl) rfl ?_
          refine st (X.ld rfl Try.underlying3 rfl (((h'.bel hbw).range hx) 32 (.int .i64 x.len) (by simp [Chk.cells, hxs]))) rfl ?_
          refine st (X.lss rfl rfl) rfl ?_
          refine sb rfl rfl (fun h57 => ?_) (fun h57 => ?_)
          · first | replace h57 := of_decide_eq_true h57 | replace h57 := of_decide_eq_false (notT h57) | replace h57 := notT h57 | skip
            refine gN (g := 57) rfl rfl rfl rfl ?_
            refine gN (g := 57) rfl rfl rfl rfl ?_
            refine gN (g := 57) rfl rfl rfl rfl ?_
            refine gN (g := 57) rfl rfl rfl rfl ?_
            refine gN (g := 57) rfl rfl rfl rfl ?_
            refine gN (g := 57) rfl rfl rfl rfl ?_
            refine st (X.pickT rfl rfl) rfl ?_
            refine Wn ?_
            refine tN ?_
            refine W_yes rfl (rfl) ?_
            refine W_rs ?_
            refine sc _ Try.func18 rfl (by kernel_rfl) rfl rfl ((awake_any _).mono ?_)
            rintro e_ w7 ⟨rfl, hb⟩
            refine cR ?_
            replace hbw := bthen hbw hb
            have hz_w7 := hb.size
            clear hb
            refine sa rfl rfl ?_
            refine Wn ?_
            refine tN ?_
            refine W_ret (bR (tR (tR (bR (tR ?_)))))
            exact (rT rfl rfl ⟨rfl, hbw⟩).1
          · first | replace h57 := of_decide_eq_false h57 | replace h57 := of_decide_eq_true (notF h57) | replace h57 := notF h57 | skip
            refine gY (g := 57) rfl rfl rfl ?_
            refine sm rfl rfl ?_
            refine gY (g := 57) rfl rfl rfl ?_
            refine sm rfl rfl ?_
            refine gY (g := 57) rfl rfl rfl ?_
            refine st (X.idxA rfl rfl Try.underlying22 siz57 rfl (by omega)) rfl ?_
            refine gY (g := 57) rfl rfl rfl ?_
            refine st (X.fa fa57_1 rfl) rfl ?_
            refine gY (g := 57) rfl rfl rfl ?_
            refine st (X.ld rfl Try.underlying3 rfl (((h'.bel hbw).range hx) 32 (.int .i64 x.len) (by simp [Chk.cells, hxs]))) rfl ?_
            refine gY (g := 57) rfl rfl rfl ?_
            refine st (X.gtr rfl rfl) rfl ?_
            refine st (X.pickF rfl rfl) rfl ?_
            refine Wn ?_
            refine tN ?_
            refine W_if rfl (fun h64 => ?_) (fun h64 => ?_)
            · first | replace h64 := of_decide_eq_true h64 | replace h64 := of_decide_eq_false (notT h64) | replace h64 := notT h64 | skip
              refine W_rs ?_
              refine sc _ Try.func18 rfl (by kernel_rfl) rfl rfl ((awake_any _).mono ?_)
              rintro e_ w8 ⟨rfl, hb⟩
              refine cR ?_
              replace hbw := bthen hbw hb
              have hz_w8 := hb.size
              clear hb
              refine sa rfl rfl ?_
              refine Wn ?_
              refine tN ?_
              refine W_ret (bR (tR (tR (bR (tR ?_)))))
              exact (rT rfl rfl ⟨rfl, hbw⟩).1
            · first | replace h64 := of_decide_eq_false h64 | replace h64 := of_decide_eq_true (notF h64) | replace h64 := notF h64 | skip
              refine W_skip ?_
              refine bN ?_
              refine tN ?_
              refine W_reg ?_
              refine sm rfl rfl ?_
              refine st (X.add64 rfl rfl (by omega)) rfl ?_
              refine sa rfl rfl ?_
              refine Wn ?_
              refine tN ⟨_, _, ?_, ⟨j + 1, rfl, rfl, by omega, hp'.next hx (by omega) (by omega), hbw⟩, ⟨rfl, rfl, rfl, trivial⟩⟩
              omega
        · first | replace h48 := of_decide_eq_false h48 | replace h48 := of_decide_eq_true (notF h48) | replace h48 := notF h48 | skip
          obtain rfl : j = m.length := by omega
          rw [List.take_length] at hp'
          have hll : l.length ≤ 60 := by omega
          have hml : m.length ≤ 60 := by omega
          refine W_exit (tE (tE (bH ?_)))
          refine tN ?_
          refine W_rs ?_
          refine sc _ Try.func25 rfl (by kernel_rfl) rfl rfl ((New_any _).mono ?_)
          rintro e_ w9 ⟨ga, ba, rfl, hA, hgla, hbla, hgba, hb⟩
          refine cR ?_
          replace hbw := bthen hbw hb
          have hz_w9 := hb.size
          clear hb
          have hAl := hA.lt
          refine sa rfl rfl ?_
          refine Wn ?_
          refine tN ?_
          refine W_rs ?_
          refine sc _ Try.func25 rfl (by kernel_rfl) rfl rfl ((New_any _).mono ?_)
          rintro e_ w10 ⟨gb, bb, rfl, hB, hglb, hblb, hgbb, hb⟩
          refine cR ?_
          have hpend := hb
          replace hbw := bthen hbw hb
          have hz_w10 := hb.size
          clear hb
          have hBl := hB.lt
          replace hA := hA.bel hpend
          clear hpend
          refine sa rfl rfl ?_
          refine Wn ?_
          refine tN ?_
          refine W_seq ?_
          refine W_rs ?_
          refine sm rfl rfl ?_
          refine st (X.nilP rfl) rfl ?_
          refine sbN rfl (rfl) rfl ?_
          refine gY (g := 70) rfl rfl rfl ?_
          refine sm rfl rfl ?_
          refine gY (g := 70) rfl rfl rfl ?_
          refine st (X.nilP rfl) rfl ?_
          refine st (X.pickF rfl rfl) rfl ?_
          refine Wn ?_
          refine tN ?_
          refine W_no rfl (rfl) ?_
          refine W_skip ?_
          refine tN ?_
          refine W_rs ?_
          refine sm rfl rfl ?_
          refine sm rfl rfl ?_
          refine sc _ Try.func26 rfl (by kernel_rfl) rfl rfl ((Add_any ga ba [] _ l _ hA cnts_nil (h.bel hbw)).mono ?_)
          rintro e_ w11 ⟨v1, rfl, hG1, hO1, hC1, hch⟩
          refine cR ?_
          rw [(addM_few hp hll).1] at hC1
          replace hA := hC1
          replace hB := hB.chg hch (by show ¬ _ = _; omega) (by show ¬ _ = _; omega)
          replace hbw := bset hbw hch (by omega)
          have hz172 := hch.size
          clear hch hC1 hG1 hO1
          refine Wn ?_
          refine tN ?_
          refine W_rs ?_
          refine sm rfl rfl ?_
          refine sm rfl rfl ?_
          refine sc _ Try.func26 rfl (by kernel_rfl) rfl rfl ((Add_any gb bb [] _ m _ hB cnts_nil (h'.bel hbw)).mono ?_)
          rintro e_ w12 ⟨v2, rfl, hG2, hO2, hC2, hch⟩
          refine cR ?_
          rw [(addM_few hp' hml).1] at hC2
          replace hB := hC2
          replace hA := hA.chg hch (by show ¬ _ = _; omega) (by show ¬ _ = _; omega)
          replace hbw := bset hbw hch (by omega)
          have hz182 := hch.size
          have hAl2 := hA.lt
          have hBl2 := hB.lt
          clear hch hC2 hG2 hO2
          have hcA := hp.cnts hll hl32
          have hcB := hp'.cnts hml hm32
          have hnA := netM_length l
          have hnB := netM_length m
          refine Wn ?_
          refine tN ?_
          refine W_rs ?_
          refine sm rfl rfl ?_
          refine sc _ Try.func39 rfl (by kernel_rfl) rfl rfl ((Copy_any ga ba _ _ hA).mono ?_)
          rintro e_ w13 ⟨gc, bc, rfl, hC0, hglc, hblc, hgbc, hb⟩
          refine cR ?_
          have hpend := hb
          replace hbw := bthen hbw hb
          have hz_w13 := hb.size
          clear hb
          have hCl := hC0.lt
          replace hA := hA.bel hpend
          replace hB := hB.bel hpend
          clear hpend
          refine sa rfl rfl ?_
          refine Wn ?_
          refine tN ?_
          refine W_rs ?_
          refine sm rfl rfl ?_
          refine sc _ Try.func32 rfl (by kernel_rfl) rfl rfl ((Encode_cnt ga ba _ _ hA hcA.sum (by omega)).mono ?_)
          rintro e_ w14 ⟨rfl, hb⟩
          refine cR ?_
          have hpend := hb
          replace hbw := bthen hbw hb
          have hz_w14 := hb.size
          clear hb
          refine sa rfl rfl ?_
          refine Wn ?_
          refine tN ?_
          refine W_rs ?_
          refine sm rfl rfl ?_
          refine sm rfl rfl ?_
          refine sm rfl rfl ?_
          replace hA := hA.bel hpend
          replace hB := hB.bel hpend
          replace hC0 := hC0.bel hpend
          clear hpend
          refine sc _ Try.func37 rfl (by kernel_rfl) rfl rfl ((Diff_few _ hA hB hp hp' hll hml hl32 hm32).mono ?_)
          rintro e_ w15 ⟨vd, rfl, hD, hOd, hb⟩
          refine cR ?_
          have hpend := hb
          replace hbw := bthen hbw hb
          have hz_w15 := hb.size
          clear hb
          replace hA := hA.bel hpend
          replace hB := hB.bel hpend
          replace hC0 := hC0.bel hpend
          clear hpend
          refine sc _ Try.func26 rfl (by kernel_rfl) rfl rfl ((Add_any gc bc (netM l) _ (diffM l m) _ hC0 hcA ⟨hD.reads, diff_32 hl32 hm32⟩).mono ?_)
          rintro e_ w16 ⟨v3, rfl, hG3, hO3, hC3, hch⟩
          refine cR ?_
          rw [(diff_add hp hp' hll hml).2]
          rw [(diff_add hp hp' hll hml).1] at hC3
          replace hC0 := hC3
          replace hA := hA.chg hch (by show ¬ _ = _; omega) (by show ¬ _ = _; omega)
          replace hB := hB.chg hch (by show ¬ _ = _; omega) (by show ¬ _ = _; omega)
          replace hbw := bset hbw hch (by omega)
          have hz214 := hch.size
          clear hch hC3 hG3 hO3 hD
          refine sm rfl rfl ?_
          refine st (X.ext rfl rfl) rfl ?_
          refine st (X.ext rfl rfl) rfl ?_
          refine sa rfl rfl ?_
          refine sa rfl rfl ?_
          refine Wn ?_
          refine tN ?_
          refine W_rs ?_
          refine sm rfl rfl ?_
          refine sm rfl rfl ?_
          refine sc _ Try.func37 rfl (by kernel_rfl) rfl rfl ((Diff_few _ hA hB hp hp' hll hml hl32 hm32).mono ?_)
          rintro e_ w17 ⟨ve, rfl, hE, hOe, hb⟩
          refine cR ?_
          have hpend := hb
          replace hbw := bthen hbw hb
          have hz_w17 := hb.size
          clear hb
          replace hA := hA.bel hpend
          replace hB := hB.bel hpend
          replace hC0 := hC0.bel hpend
          clear hpend
          refine sc _ Try.func19 rfl (by kernel_rfl) rfl rfl ((Pack_any ve (diffM l m) _ ⟨hE.reads, diff_32 hl32 hm32⟩).mono ?_)
          rintro e_ w18 ⟨rfl, hb⟩
          refine cR ?_
          have hpend := hb
          replace hbw := bthen hbw hb
          have hz_w18 := hb.size
          clear hb
          rw [diff_pack hp hp' hll hml]
          refine sm rfl rfl ?_
          refine st (X.ext rfl rfl) rfl ?_
          refine st (X.ext rfl rfl) rfl ?_
          refine sa rfl rfl ?_
          refine sa rfl rfl ?_
          refine Wn ?_
          refine tN ?_
          refine W_rs ?_
          refine sm rfl rfl ?_
          refine st (X.eql rfl rfl) rfl ?_
          refine sbY rfl (rfl) rfl ?_
          refine gY (g := 101) rfl rfl rfl ?_
          refine sm rfl rfl ?_
          refine gY (g := 101) rfl rfl rfl ?_
          refine st (X.eql rfl rfl) rfl ?_
          refine st (X.pickT rfl rfl) rfl ?_
          refine sbY rfl (rfl) rfl ?_
          refine gY (g := 105) rfl rfl rfl ?_
          refine sm rfl rfl ?_
          refine gY (g := 105) rfl rfl rfl ?_
          replace hA := hA.bel hpend
          replace hB := hB.bel hpend
          replace hC0 := hC0.bel hpend
          clear hpend
          refine sc _ Try.func32 rfl (by kernel_rfl) rfl rfl ((Encode_cnt gc bc (netM m) _ hC0 hcB.sum (by omega)).mono ?_)
          rintro e_ w19 ⟨rfl, hb⟩
          refine cR ?_
          have hpend := hb
          replace hbw := bthen hbw hb
          have hz_w19 := hb.size
          clear hb
          refine gY (g := 105) rfl rfl rfl ?_
          refine sm rfl rfl ?_
          refine gY (g := 105) rfl rfl rfl ?_
          replace hA := hA.bel hpend
          replace hB := hB.bel hpend
          replace hC0 := hC0.bel hpend
          clear hpend
          refine sc _ Try.func32 rfl (by kernel_rfl) rfl rfl ((Encode_cnt gb bb (netM m) _ hB hcB.sum (by omega)).mono ?_)
          rintro e_ w20 ⟨rfl, hb⟩
          refine cR ?_
          have hpend := hb
          replace hbw := bthen hbw hb
          have hz_w20 := hb.size
          clear hb
          refine gY (g := 105) rfl rfl rfl ?_
          refine st (X.eqS rfl rfl) rfl ?_
          refine st (X.pickT rfl rfl) rfl ?_
          refine sbY rfl (by simp) rfl ?_
          refine gY (g := 112) rfl rfl rfl ?_
          refine sm rfl rfl ?_
          refine gY (g := 112) rfl rfl rfl ?_
          replace hA := hA.bel hpend
          replace hB := hB.bel hpend
          replace hC0 := hC0.bel hpend
          clear hpend
          refine sc _ Try.func32 rfl (by kernel_rfl) rfl rfl ((Encode_cnt ga ba (netM l) _ hA hcA.sum (by omega)).mono ?_)
          rintro e_ w21 ⟨rfl, hb⟩
          refine cR ?_
          have hpend := hb
          replace hbw := bthen hbw hb
          have hz_w21 := hb.size
          clear hb
          refine gY (g := 112) rfl rfl rfl ?_
          refine sm rfl rfl ?_
          refine gY (g := 112) rfl rfl rfl ?_
          refine st (X.eqS rfl rfl) rfl ?_
          refine st (X.pickT rfl rfl) rfl ?_
          refine sbY rfl (by simp) rfl ?_
          refine gY (g := 118) rfl rfl rfl ?_
          refine sm rfl rfl ?_
          refine gY (g := 118) rfl rfl rfl ?_
          refine sm rfl rfl ?_
          refine gY (g := 118) rfl rfl rfl ?_
          replace hA := hA.bel hpend
          replace hB := hB.bel hpend
          replace hC0 := hC0.bel hpend
          clear hpend
          refine sc _ Try.func37 rfl (by kernel_rfl) rfl rfl ((Diff_few _ hB hB hp' hp' hml hml hm32 hm32).mono ?_)
          rintro e_ w22 ⟨vf, rfl, hF, hOf, hb⟩
          refine cR ?_
          have hpend := hb
          replace hbw := bthen hbw hb
          have hz_w22 := hb.size
          clear hb
          rw [diff_self] at hF
          obtain ⟨af, cf, rfl, hnf, hcf⟩ := hF.shape
          refine gY (g := 118) rfl rfl rfl ?_
          refine st (X.lenL rfl rfl Try.underlying22) rfl ?_
          refine gY (g := 118) rfl rfl rfl ?_
          refine st (X.eql rfl rfl) rfl ?_
          refine st (X.pickT rfl rfl) rfl ?_
          refine sbY rfl (rfl) rfl ?_
          refine gY (g := 125) rfl rfl rfl ?_
          refine sc _ Try.func18 rfl (by kernel_rfl) rfl rfl ((awake_any _).mono ?_)
          rintro e_ w23 ⟨rfl, hb⟩
          refine cR ?_
          replace hpend := bthen hpend hb
          replace hbw := bthen hbw hb
          have hz_w23 := hb.size
          clear hb
          refine st (X.pickT rfl rfl) rfl ?_
          refine sa rfl rfl ?_
          refine Wn ?_
          refine tN ?_
          replace hA := hA.bel hpend
          replace hB := hB.bel hpend
          replace hC0 := hC0.bel hpend
          clear hpend
          refine W_ret ?_
          exact (rT rfl rfl ⟨rfl, hbw⟩).1
end Go.Proofs.Ytnagmpnpgekhfaa
