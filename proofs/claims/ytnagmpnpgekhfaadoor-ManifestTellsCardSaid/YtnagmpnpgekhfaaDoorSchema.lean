/- schema.Columns. -/
import Derived.Test.YtnagmpnpgekhfaaDoorGen
import Derived.Test.YtnagmpnpgekhfaaDoorManPlain
import Derived.Test.YtnagmpnpgekhfaaDoorUtf8
namespace Go.Proofs.YtnagmpnpgekhfaaDoor
open Go.RowKit
def colOk (c : Col) : Bool := decide (c.name ≠ []) && decide (c.name.length ≤ 64) && validU c.name && decide (1 ≤ c.kind ∧ c.kind ≤ 6)
def colsFrom (seen : List (List UInt8)) : List Col → Bool
  | [] => true
  | c :: r => colOk c && decide (c.name ∉ seen) && colsFrom (seen ++ [c.name]) r
def colsOk (l : List Col) : Bool := decide (1 ≤ l.length ∧ l.length ≤ 32) && colsFrom [] l
theorem colsFrom_at (l : List Col) (j : Nat) (c : Col) (h : l[j]? = some c) :
    colsFrom ((l.take j).map (·.name)) (l.drop j) = (colOk c && decide (c.name ∉ (l.take j).map (·.name)) && colsFrom ((l.take (j + 1)).map (·.name)) (l.drop (j + 1))) := by
  obtain ⟨hj, rfl⟩ := List.getElem?_eq_some_iff.1 h
  rw [List.drop_eq_getElem_cons hj, List.take_succ_eq_append_getElem hj, List.map_append]
  rfl
theorem is_any (n : Int) (w : World) : Calls Tryd.prog 48 #[.int .i64 n] w fun e w' => e = .returned (.bool (decide (1 ≤ n ∧ n ≤ 6))) ∧ w = w' := by
  refine W_enter (args := [.int .i64 n]) 9 Tryd.func48 rfl rfl rfl ?_
  refine W_sub [(0, .int .i64 n)] ?_ ⟨rfl, trivial⟩
  have hbw := Below.refl w.heap.size w
  refine W_rs ?_
  refine sa rfl rfl ?_
  refine Wn ?_
  refine tN ?_
  refine W_rs ?_
  refine sm rfl rfl ?_
  refine st (X.geq rfl rfl) rfl ?_
  refine sb rfl rfl (fun h5 => ?_) (fun h5 => ?_)
  · first | replace h5 := of_decide_eq_true h5 | replace h5 := of_decide_eq_false (notT h5) | replace h5 := notT h5 | skip
    refine gY (g := 5) rfl rfl rfl ?_
    refine sm rfl rfl ?_
    refine gY (g := 5) rfl rfl rfl ?_
    refine st (X.leq rfl rfl) rfl ?_
    refine st (X.pickT rfl rfl) rfl ?_
    refine sa rfl rfl ?_
    refine Wn ?_
    refine tN ?_
    refine W_ret ?_
    refine (rT rfl rfl ⟨?_, rfl⟩).1
    congr 2; simp; omega
  · first | replace h5 := of_decide_eq_false h5 | replace h5 := of_decide_eq_true (notF h5) | replace h5 := notF h5 | skip
    refine gN (g := 5) rfl rfl rfl rfl ?_
    refine gN (g := 5) rfl rfl rfl rfl ?_
    refine st (X.pickF rfl rfl) rfl ?_
    refine sa rfl rfl ?_
    refine Wn ?_
    refine tN ?_
    refine W_ret ?_
    refine (rT rfl rfl ⟨?_, rfl⟩).1
    congr 2; simp; omega
/-- what is seen so far -/
def seenMap (l : List Col) : List (List UInt8 × Int) := l.map fun c => (c.name, 1)
theorem seen_get : ∀ (l : List Col) (q : List UInt8), mget (seenMap l) q = if q ∈ l.map (·.name) then some 1 else none
  | [], q => rfl
  | c :: r, q => by
    show (if q = c.name then some 1 else mget (seenMap r) q) = _
    rw [seen_get r q]
    by_cases h : q = c.name <;> simp [h]
theorem seen_put (l : List Col) (c : Col) (h : c.name ∉ l.map (·.name)) : mput (seenMap l) c.name 1 = seenMap (l ++ [c]) := by
  have : ((seenMap l).findIdx? fun p => decide (c.name = p.1)) = none := by
    rw [List.findIdx?_eq_none_iff]
    intro p hp
    simp only [seenMap, List.mem_map] at hp
    obtain ⟨d, hd, rfl⟩ := hp
    simp only [decide_eq_false_iff_not]
    intro e
    exact h (by rw [e]; exact List.mem_map.2 ⟨d, hd, rfl⟩)
  rw [mput_new _ _ _ this]
  simp [seenMap]
theorem col_bad (x : Col) (j : Nat) (l : List Col) (k : Int) (h : x.name = [] ∨ 64 < (x.name.length : Int) ∨ validU x.name = false ∨ ¬ (1 ≤ x.kind ∧ x.kind ≤ 6) ∨ 1 < k + 1) (hk : k = 0 ↔ x.name ∉ (l.take j).map (·.name)) :
    (colOk x && decide (x.name ∉ (l.take j).map (·.name)) && colsFrom ((l.take (j + 1)).map (·.name)) (l.drop (j + 1))) = false := by
  rw [Bool.and_eq_false_iff, Bool.and_eq_false_iff]
  left
  unfold colOk
  rcases h with h | h | h | h | h
  · left; simp [h]
  · left; rw [show decide (x.name.length ≤ 64) = false from decide_eq_false (by omega)]; simp
  · left; simp [h]
  · left; rw [decide_eq_false h]; simp
  · right; rw [decide_eq_false_iff_not]; intro hn; have := hk.2 hn; omega
theorem col_good (x : Col) (l : List Col) (k : Int) (h1 : ¬ x.name = []) (h2 : ¬ 64 < (x.name.length : Int)) (h3 : validU x.name = true) (h4 : 1 ≤ x.kind ∧ x.kind ≤ 6) (h5 : ¬ 1 < k + 1) (h6 : 0 ≤ k) (hk : k = 0 ↔ x.name ∉ l.map (·.name)) :
    colOk x = true ∧ x.name ∉ l.map (·.name) := by
  refine ⟨?_, hk.1 (by omega)⟩
  unfold colOk
  rw [h3, decide_eq_true h1, decide_eq_true h4, show decide (x.name.length ≤ 64) = true from decide_eq_true (by omega)]
  rfl
theorem zero_int (w : World) : (zeroValue 3).run Tryd.prog w = .ok (.int .i64 0) w := by kernel_rfl
theorem Columns_any (v : Value) (l : List Col) (w : World) (h : ColsAt w v l) (hT : UT w) : Calls Tryd.prog 32 #[v] w fun e w' => e = .returned (.int .i64 (if colsOk l then 0 else 30)) ∧ Below w.heap.size w w' := by
  obtain ⟨a, c, rfl, hn, hc⟩ := h.1.shape
  refine W_enter (args := [.slice a l.length c]) 55 Tryd.func32 rfl rfl rfl ?_
  refine W_sub [(0, .slice a l.length c)] ?_ ⟨rfl, trivial⟩
  have hbw := Below.refl w.heap.size w
  refine W_rs ?_
  refine sa rfl rfl ?_
  refine Wn ?_
  refine tN ?_
  refine W_seq ?_
  refine W_rs ?_
  refine sm rfl rfl ?_
  refine st (X.lenL rfl rfl Tryd.underlying23) rfl ?_
  refine st (X.lss rfl rfl) rfl ?_
  refine sb rfl rfl (fun h9 => ?_) (fun h9 => ?_)
  · first | replace h9 := of_decide_eq_true h9 | replace h9 := of_decide_eq_false (notT h9) | replace h9 := notT h9 | skip
    refine gN (g := 9) rfl rfl rfl rfl ?_
    refine gN (g := 9) rfl rfl rfl rfl ?_
    refine gN (g := 9) rfl rfl rfl rfl ?_
    refine st (X.pickT rfl rfl) rfl ?_
    refine Wn ?_
    refine tN ?_
    refine W_yes rfl (rfl) ?_
    refine W_rs ?_
    refine sa rfl rfl ?_
    refine Wn ?_
    refine tN ?_
    refine W_ret (tR ?_)
    refine (rT rfl rfl ⟨?_, hbw⟩).1
    unfold colsOk; rw [show decide (1 ≤ l.length ∧ l.length ≤ 32) = false from by simp; omega]; rfl
  · first | replace h9 := of_decide_eq_false h9 | replace h9 := of_decide_eq_true (notF h9) | replace h9 := notF h9 | skip
    refine gY (g := 9) rfl rfl rfl ?_
    refine sm rfl rfl ?_
    refine gY (g := 9) rfl rfl rfl ?_
    refine st (X.lenL rfl rfl Tryd.underlying23) rfl ?_
    refine gY (g := 9) rfl rfl rfl ?_
    refine st (X.gtr rfl rfl) rfl ?_
    refine st (X.pickF rfl rfl) rfl ?_
    refine Wn ?_
    refine tN ?_
    refine W_if rfl (fun h13 => ?_) (fun h13 => ?_)
    · first | replace h13 := of_decide_eq_true h13 | replace h13 := of_decide_eq_false (notT h13) | replace h13 := notT h13 | skip
      refine W_rs ?_
      refine sa rfl rfl ?_
      refine Wn ?_
      refine tN ?_
      refine W_ret (tR ?_)
      refine (rT rfl rfl ⟨?_, hbw⟩).1
      unfold colsOk; rw [show decide (1 ≤ l.length ∧ l.length ≤ 32) = false from by simp; omega]; rfl
    · first | replace h13 := of_decide_eq_false h13 | replace h13 := of_decide_eq_true (notF h13) | replace h13 := notF h13 | skip
      refine W_skip ?_
      refine tN ?_
      refine W_rs ?_
      refine smm (enc := str) (encv := Value.int .i64) (ν := Int) rfl (fun b w1 hM hgb hb hlb => ?_)
      replace hbw := bthen hbw hb
      have hz_m := hb.size
      clear hb
      refine sa rfl rfl ?_
      refine Wn ?_
      refine tN ?_
      refine W_seq ?_
      refine W_rs ?_
      refine sm rfl rfl ?_
      refine st (X.lenL rfl rfl Tryd.underlying23) rfl ?_
      refine sm rfl rfl ?_
      refine Wn ?_
      refine tN ?_
      refine W_block ?_
      refine W_lp (fun nw2_ lw2_ w2 => ∃ j : Nat, nw2_ = l.length - j ∧ lw2_ = ([(3, .map (some b)), (15, .slice a l.length c), (16, .int .i64 l.length), (17, .int .i64 j)] : Env) ∧ (j ≤ l.length) ∧ (colsOk l = colsFrom ((l.take j).map (·.name)) (l.drop j)) ∧ (MapAt w2 b str (Value.int .i64) (seenMap (l.take j))) ∧ (Below w.heap.size w w2)) _ ⟨_, ⟨0, rfl, rfl, by omega, by unfold colsOk; rw [show decide (1 ≤ l.length ∧ l.length ≤ 32) = true from by simp; omega]; rfl, hM, hbw⟩, ⟨rfl, rfl, rfl, rfl, trivial⟩⟩ ?_
      clear hM hbw
      rintro nw2_ lw2_ w2 ⟨j, rfl, rfl, hj, hs, hM, hbw⟩
      have hz_w2 := hbw.size
      refine W_rs ?_
      refine st (X.lss rfl rfl) rfl ?_
      refine Wn ?_
      refine tN ?_
      refine W_seq ?_
      refine W_if rfl (fun h18 => ?_) (fun h18 => ?_)
      · first | replace h18 := of_decide_eq_true h18 | replace h18 := of_decide_eq_false (notT h18) | replace h18 := notT h18 | skip
        obtain ⟨x, hx⟩ : ∃ x, l[j]? = some x := ⟨_, List.getElem?_eq_getElem (by omega)⟩
        obtain ⟨g, o, c', hv, hg⟩ := (h.1.bel hbw).some_ (by omega)
        injection hv with e1 _ e3
        subst e1 e3
        have hxs := h.2 x (List.mem_of_getElem? hx)
        have hr := (h.bel hbw).range hx
        have hb0 := colsFrom_at l j x hx
        have hlm := hM.lt
        refine W_skip ?_
        refine tN ?_
        refine W_seq ?_
        refine W_block ?_
        refine W_rs ?_
        refine st (X.idxA rfl rfl Tryd.underlying23 siz60 rfl (by omega)) rfl ?_
        refine st (X.ldN (cs := x.cells) rfl Tryd.underlying60 rfl siz60 hr) rfl ?_
        refine salA inf60 rfl (fun g5 w3 hB5 hg5 hb hl5 => ?_)
        replace hbw := bthen hbw hb
        replace hM := hM.bel hb
        have hz_w3 := hb.size
        clear hb
        refine ssBN rfl rfl hB5 siz60 rfl rfl (fun w4 hB_ hc_ => ?_)
        replace hB5 := hB_
        clear hB_
        replace hM := hM.chg hc_ (by first | (show ¬ _ = _; omega) | (intro k_ hk_; simp [Value.ownBlock] at hk_; subst hk_; show ¬ _ = _; omega))
        replace hbw := bset hbw hc_ (by omega)
        have hz_w4 := hc_.size
        clear hc_
        refine Wn ?_
        refine tN ?_
        refine W_rs ?_
        refine sm rfl rfl ?_
        refine st (X.fa fa60_0 rfl) rfl ?_
        refine st (X.ldL rfl hB5 Tryd.underlying9 rfl rfl) rfl ?_
        refine st (X.look (keyStr Tryd.underlying9) rfl x.name rfl Tryd.underlying105 (zero_int _) hM) rfl ?_
        obtain ⟨k, hk, hk1, hk2⟩ : ∃ k : Int, ((mget (seenMap (l.take j)) x.name).map (Value.int .i64)).getD (.int .i64 0) = .int .i64 k ∧ 0 ≤ k ∧ k ≤ 1 ∧ (k = 0 ↔ x.name ∉ (l.take j).map (·.name)) := by
          rw [seen_get]; by_cases hi : x.name ∈ (l.take j).map (·.name)
          · rw [if_pos hi]; exact ⟨1, rfl, by omega, by omega, ⟨fun h => by omega, fun h => absurd hi h⟩⟩
          · rw [if_neg hi]; exact ⟨0, rfl, by omega, by omega, ⟨fun _ => hi, fun _ => rfl⟩⟩
        rw [hk]
        refine st (X.add64 rfl rfl (by omega)) rfl ?_
        refine smu (keyStr Tryd.underlying9) rfl x.name (k + 1) rfl rfl Tryd.underlying105 hM (fun w5 hM_ hc_ => ?_)
        replace hB5 := hB5.chg hc_ (by show ¬ _ = _; omega)
        replace hbw := bset hbw hc_ (by omega)
        replace hM := hM_
        have hz_u := hc_.size
        clear hM_ hc_
        refine Wn ?_
        refine tN ?_
        refine W_rs ?_
        refine st (X.fa fa60_0 rfl) rfl ?_
        refine st (X.ldL rfl hB5 Tryd.underlying9 rfl rfl) rfl ?_
        refine st (X.eqS rfl rfl) rfl ?_
        refine sb rfl rfl (fun h29 => ?_) (fun h29 => ?_)
        · first | replace h29 := of_decide_eq_true h29 | replace h29 := of_decide_eq_false (notT h29) | replace h29 := notT h29 | skip
          refine gN (g := 29) rfl rfl rfl rfl ?_
          refine gN (g := 29) rfl rfl rfl rfl ?_
          refine gN (g := 29) rfl rfl rfl rfl ?_
          refine gN (g := 29) rfl rfl rfl rfl ?_
          refine st (X.pickT rfl rfl) rfl ?_
          refine sm rfl rfl ?_
          refine gN (g := 35) rfl rfl rfl rfl ?_
          refine gN (g := 35) rfl rfl rfl rfl ?_
          refine gN (g := 35) rfl rfl rfl rfl ?_
          refine gN (g := 35) rfl rfl rfl rfl ?_
          refine st (X.pickT rfl rfl) rfl ?_
          refine sm rfl rfl ?_
          refine gN (g := 41) rfl rfl rfl rfl ?_
          refine gN (g := 41) rfl rfl rfl rfl ?_
          refine gN (g := 41) rfl rfl rfl rfl ?_
          refine gN (g := 41) rfl rfl rfl rfl ?_
          refine st (X.pickT rfl rfl) rfl ?_
          refine sm rfl rfl ?_
          refine gN (g := 47) rfl rfl rfl rfl ?_
          refine gN (g := 47) rfl rfl rfl rfl ?_
          refine gN (g := 47) rfl rfl rfl rfl ?_
          refine gN (g := 47) rfl rfl rfl rfl ?_
          refine gN (g := 47) rfl rfl rfl rfl ?_
          refine st (X.pickT rfl rfl) rfl ?_
          refine Wn ?_
          refine tN ?_
          refine W_yes rfl (rfl) ?_
          refine W_rs ?_
          refine sa rfl rfl ?_
          refine Wn ?_
          refine tN ?_
          refine W_ret (bR (tR (tR (bR (tR ?_)))))
          refine (rT rfl rfl ⟨?_, hbw⟩).1
          rw [hs, hb0, col_bad x j l k (by first | exact .inl ‹_› | exact .inr (.inl ‹_›) | exact .inr (.inr (.inl ‹_›)) | exact .inr (.inr (.inr (.inl ‹_›))) | exact .inr (.inr (.inr (.inr ‹_›)))) hk2.2]; rfl
        · first | replace h29 := of_decide_eq_false h29 | replace h29 := of_decide_eq_true (notF h29) | replace h29 := notF h29 | skip
          refine gY (g := 29) rfl rfl rfl ?_
          refine st (X.fa fa60_0 rfl) rfl ?_
          refine gY (g := 29) rfl rfl rfl ?_
          refine st (X.ldL rfl hB5 Tryd.underlying9 rfl rfl) rfl ?_
          refine gY (g := 29) rfl rfl rfl ?_
          refine st (X.lenS rfl rfl Tryd.underlying9) rfl ?_
          refine gY (g := 29) rfl rfl rfl ?_
          refine st (X.gtr rfl rfl) rfl ?_
          refine st (X.pickF rfl rfl) rfl ?_
          refine sb rfl rfl (fun h35 => ?_) (fun h35 => ?_)
          · first | replace h35 := of_decide_eq_true h35 | replace h35 := of_decide_eq_false (notT h35) | replace h35 := notT h35 | skip
            refine gN (g := 35) rfl rfl rfl rfl ?_
            refine gN (g := 35) rfl rfl rfl rfl ?_
            refine gN (g := 35) rfl rfl rfl rfl ?_
            refine gN (g := 35) rfl rfl rfl rfl ?_
            refine st (X.pickT rfl rfl) rfl ?_
            refine sm rfl rfl ?_
            refine gN (g := 41) rfl rfl rfl rfl ?_
            refine gN (g := 41) rfl rfl rfl rfl ?_
            refine gN (g := 41) rfl rfl rfl rfl ?_
            refine gN (g := 41) rfl rfl rfl rfl ?_
            refine st (X.pickT rfl rfl) rfl ?_
            refine sm rfl rfl ?_
            refine gN (g := 47) rfl rfl rfl rfl ?_
            refine gN (g := 47) rfl rfl rfl rfl ?_
            refine gN (g := 47) rfl rfl rfl rfl ?_
            refine gN (g := 47) rfl rfl rfl rfl ?_
            refine gN (g := 47) rfl rfl rfl rfl ?_
            refine st (X.pickT rfl rfl) rfl ?_
            refine Wn ?_
            refine tN ?_
            refine W_yes rfl (rfl) ?_
            refine W_rs ?_
            refine sa rfl rfl ?_
            refine Wn ?_
            refine tN ?_
            refine W_ret (bR (tR (tR (bR (tR ?_)))))
            refine (rT rfl rfl ⟨?_, hbw⟩).1
            rw [hs, hb0, col_bad x j l k (by first | exact .inl ‹_› | exact .inr (.inl ‹_›) | exact .inr (.inr (.inl ‹_›)) | exact .inr (.inr (.inr (.inl ‹_›))) | exact .inr (.inr (.inr (.inr ‹_›)))) hk2.2]; rfl
          · first | replace h35 := of_decide_eq_false h35 | replace h35 := of_decide_eq_true (notF h35) | replace h35 := notF h35 | skip
            refine gY (g := 35) rfl rfl rfl ?_
            refine st (X.fa fa60_0 rfl) rfl ?_
            refine gY (g := 35) rfl rfl rfl ?_
            refine st (X.ldL rfl hB5 Tryd.underlying9 rfl rfl) rfl ?_
            refine gY (g := 35) rfl rfl rfl ?_
            refine sc _ Tryd.func47 rfl (by kernel_rfl) rfl rfl ((valid_any x.name _ hxs (hT.bel hbw)).mono ?_)
            rintro e_ w6 ⟨rfl, hb⟩
            refine cR ?_
            replace hbw := bthen hbw hb
            replace hM := hM.bel hb
            replace hB5 := hB5.bel hb
            have hz_w6 := hb.size
            clear hb
            refine gY (g := 35) rfl rfl rfl ?_
            refine st (X.not rfl) rfl ?_
            refine st (X.pickF rfl rfl) rfl ?_
            refine sb rfl rfl (fun h41 => ?_) (fun h41 => ?_)
            · first | replace h41 := of_decide_eq_true h41 | replace h41 := of_decide_eq_false (notT h41) | replace h41 := notT h41 | skip
              refine gN (g := 41) rfl rfl rfl rfl ?_
              refine gN (g := 41) rfl rfl rfl rfl ?_
              refine gN (g := 41) rfl rfl rfl rfl ?_
              refine gN (g := 41) rfl rfl rfl rfl ?_
              refine st (X.pickT rfl rfl) rfl ?_
              refine sm rfl rfl ?_
              refine gN (g := 47) rfl rfl rfl rfl ?_
              refine gN (g := 47) rfl rfl rfl rfl ?_
              refine gN (g := 47) rfl rfl rfl rfl ?_
              refine gN (g := 47) rfl rfl rfl rfl ?_
              refine gN (g := 47) rfl rfl rfl rfl ?_
              refine st (X.pickT rfl rfl) rfl ?_
              refine Wn ?_
              refine tN ?_
              refine W_yes rfl (rfl) ?_
              refine W_rs ?_
              refine sa rfl rfl ?_
              refine Wn ?_
              refine tN ?_
              refine W_ret (bR (tR (tR (bR (tR ?_)))))
              refine (rT rfl rfl ⟨?_, hbw⟩).1
              rw [hs, hb0, col_bad x j l k (by first | exact .inl ‹_› | exact .inr (.inl ‹_›) | exact .inr (.inr (.inl ‹_›)) | exact .inr (.inr (.inr (.inl ‹_›))) | exact .inr (.inr (.inr (.inr ‹_›)))) hk2.2]; rfl
            · first | replace h41 := of_decide_eq_false h41 | replace h41 := of_decide_eq_true (notF h41) | replace h41 := notF h41 | skip
              refine gY (g := 41) rfl rfl rfl ?_
              refine st (X.fa fa60_1 rfl) rfl ?_
              refine gY (g := 41) rfl rfl rfl ?_
              refine st (X.ldL rfl hB5 Tryd.underlying3 rfl rfl) rfl ?_
              refine gY (g := 41) rfl rfl rfl ?_
              refine sc _ Tryd.func48 rfl (by kernel_rfl) rfl rfl ((is_any x.kind _).mono ?_)
              rintro e_ w_ ⟨rfl, rfl⟩
              refine cR ?_
              refine gY (g := 41) rfl rfl rfl ?_
              refine st (X.not rfl) rfl ?_
              refine st (X.pickF rfl rfl) rfl ?_
              refine sb rfl rfl (fun h47 => ?_) (fun h47 => ?_)
              · first | replace h47 := of_decide_eq_true h47 | replace h47 := of_decide_eq_false (notT h47) | replace h47 := notT h47 | skip
                refine gN (g := 47) rfl rfl rfl rfl ?_
                refine gN (g := 47) rfl rfl rfl rfl ?_
                refine gN (g := 47) rfl rfl rfl rfl ?_
                refine gN (g := 47) rfl rfl rfl rfl ?_
                refine gN (g := 47) rfl rfl rfl rfl ?_
                refine st (X.pickT rfl rfl) rfl ?_
                refine Wn ?_
                refine tN ?_
                refine W_yes rfl (rfl) ?_
                refine W_rs ?_
                refine sa rfl rfl ?_
                refine Wn ?_
                refine tN ?_
                refine W_ret (bR (tR (tR (bR (tR ?_)))))
                refine (rT rfl rfl ⟨?_, hbw⟩).1
                rw [hs, hb0, col_bad x j l k (by first | exact .inl ‹_› | exact .inr (.inl ‹_›) | exact .inr (.inr (.inl ‹_›)) | exact .inr (.inr (.inr (.inl ‹_›))) | exact .inr (.inr (.inr (.inr ‹_›)))) hk2.2]; rfl
              · first | replace h47 := of_decide_eq_false h47 | replace h47 := of_decide_eq_true (notF h47) | replace h47 := notF h47 | skip
                refine gY (g := 47) rfl rfl rfl ?_
                refine sm rfl rfl ?_
                refine gY (g := 47) rfl rfl rfl ?_
                refine st (X.fa fa60_0 rfl) rfl ?_
                refine gY (g := 47) rfl rfl rfl ?_
                refine st (X.ldL rfl hB5 Tryd.underlying9 rfl rfl) rfl ?_
                refine gY (g := 47) rfl rfl rfl ?_
                refine st (X.look (keyStr Tryd.underlying9) rfl x.name rfl Tryd.underlying105 (zero_int _) hM) rfl ?_
                rw [mget_mput, if_pos rfl]
                refine gY (g := 47) rfl rfl rfl ?_
                refine st (X.gtr rfl rfl) rfl ?_
                refine st (X.pickF rfl rfl) rfl ?_
                refine Wn ?_
                refine tN ?_
                refine W_if rfl (fun h53 => ?_) (fun h53 => ?_)
                · first | replace h53 := of_decide_eq_true h53 | replace h53 := of_decide_eq_false (notT h53) | replace h53 := notT h53 | skip
                  refine W_rs ?_
                  refine sa rfl rfl ?_
                  refine Wn ?_
                  refine tN ?_
                  refine W_ret (bR (tR (tR (bR (tR ?_)))))
                  refine (rT rfl rfl ⟨?_, hbw⟩).1
                  rw [hs, hb0, col_bad x j l k (by first | exact .inl ‹_› | exact .inr (.inl ‹_›) | exact .inr (.inr (.inl ‹_›)) | exact .inr (.inr (.inr (.inl ‹_›))) | exact .inr (.inr (.inr (.inr ‹_›)))) hk2.2]; rfl
                · first | replace h53 := of_decide_eq_false h53 | replace h53 := of_decide_eq_true (notF h53) | replace h53 := notF h53 | skip
                  refine W_skip ?_
                  refine bN ?_
                  refine tN ?_
                  refine W_reg ?_
                  refine st (X.add64 rfl rfl (by omega)) rfl ?_
                  refine sm rfl rfl ?_
                  refine Wn ?_
                  obtain ⟨hok, hnin⟩ := col_good x (l.take j) k h29 h35 h41 h47 h53 hk1 hk2.2
                  have htk : seenMap (l.take (j + 1)) = mput (seenMap (l.take j)) x.name (k + 1) := by
                    obtain rfl : k = 0 := hk2.2.2 hnin
                    rw [show (0 : Int) + 1 = 1 from rfl, seen_put _ _ hnin, take_next' hx]
                  refine tN ⟨_, _, ?_, ⟨j + 1, rfl, rfl, by omega, by rw [hs, hb0, hok, decide_eq_true hnin]; rfl, by rw [htk]; exact hM, hbw⟩, ⟨rfl, rfl, rfl, rfl, trivial⟩⟩
                  omega
      · first | replace h18 := of_decide_eq_false h18 | replace h18 := of_decide_eq_true (notF h18) | replace h18 := notF h18 | skip
        refine W_exit (tE (tE (bH ?_)))
        refine tN ?_
        refine W_rs ?_
        refine sa rfl rfl ?_
        refine Wn ?_
        refine tN ?_
        refine W_ret ?_
        refine (rT rfl rfl ⟨?_, hbw⟩).1
        rw [hs, List.drop_of_length_le (by omega)]; rfl
end Go.Proofs.YtnagmpnpgekhfaaDoor
