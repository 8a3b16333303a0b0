/- slices.AppendSeq and Collect at addresses, over whatever iterator. -/
import Derived.Test.YtnagmpnpgekhfaaDoorKeys
import Derived.Test.YtnagmpnpgekhfaaDoorDefer
namespace Go.Proofs.YtnagmpnpgekhfaaDoor
open Go.RowKit
/-- addresses in a row -/
def sumCells (l : List Sum32) : List Value := l.flatMap fun k => k.1.map bv
theorem sumCells_snoc (l : List Sum32) (k : Sum32) : sumCells (l ++ [k]) = sumCells l ++ k.1.map bv := by simp [sumCells]
structure Acc (w : World) (gS : Nat) (pre : List Sum32) (W : World) : Prop where
  box : ∃ v, Blk W gS 119 #[v] ∧ Row W 53 32 v pre.length (sumCells pre) ∧ (∀ k, v.ownBlock = some k → w.heap.size ≤ k)
  below : Below w.heap.size w W
theorem Acc.own (w : World) (gS B : Nat) (hB : w.heap.size ≤ B) : OwnFrom B (fun pre W => Acc w gS pre W) := fun pre W W' row h hg hr => by
  obtain ⟨v, h1, h2, h3⟩ := h.box
  exact ⟨⟨v, h1.grown hg (fun r e => (hr r e).2), h2.grown hg (fun r e => (hr r e).2), h3⟩, h.below.grown hg h.below.size (fun k e => Nat.le_trans hB (hr k e).1)⟩
theorem wideR (l : Nat) : Wide (Fence.wide.inRound l) := fun _ => trivial
set_option maxRecDepth 10000 in
theorem AppendSeq_any {S Sp : List Sum32 → Prop} {N : Nat} (gf : Nat) (lb : Array Value) (w : World) (hseq : SeqStopsK Fence.wide 0 Tryd.prog gf lb (fun k : Sum32 => #[encSum k]) KeepsWalks S Sp N w) (hN : N ≤ 1000000) (eg : ∀ args w, (callFunc gf args).run Tryd.prog w = .ok (.enter gf args) w) :
    Calls Tryd.prog 64 #[.slice none 0 0, .func (.func gf) #[] lb] w fun e w' => ∃ v xs, e = .returned v ∧ S xs ∧ Row w' 53 32 v xs.length (sumCells xs) ∧ (∀ k, v.ownBlock = some k → w.heap.size ≤ k) ∧ Below w.heap.size w w' := by
  refine (callsIn_wide (n := 1)).1 (callsIn_of_wp_marks Tryd.func64 rfl trivial (wpIn_wide.2 ?_) rfl)
  refine wp_seq (W_out (N := 13) (ds := []) (l := [(0, .slice none 0 0), (1, .func (.func gf) #[] lb)]) (Q := fun e l w' => e = .normal ∧ ∃ g2, l = [(1, .func (.func gf) #[] lb), (2, .pointer (some ⟨g2, 0, none⟩))] ∧ Blk w' g2 119 #[.slice none 0 0] ∧ w.heap.size ≤ g2 ∧ Below w.heap.size w w') ?_ (by kernel_rfl) rfl ⟨by kernel_rfl, by kernel_rfl, trivial⟩ ?_)
  · refine W_reg ?_
    refine sbox rfl rfl rfl (fun g2 w1 hB2 hg2 hb hl2 => ?_)
    refine sa rfl rfl ?_
    refine WL_sub [(1, .func (.func gf) #[] lb), (2, .pointer (some ⟨g2, 0, none⟩))] ?_ ⟨rfl, rfl, trivial⟩
    exact Wn ⟨rfl, g2, rfl, hB2, hg2, hb⟩
  rintro e l a w1 ha ⟨rfl, g2, rfl, hB2, hg2, hb1⟩
  refine wp_seq (wp_seq (W_out (N := 13) (ds := []) (Q := fun e l w' => e = .normal ∧ l = [(6, .func (.func gf) #[] lb), (2, .pointer (some ⟨g2, 0, none⟩))] ∧ w' = w1) (c := .region _ _ _) (l := [(1, .func (.func gf) #[] lb), (2, .pointer (some ⟨g2, 0, none⟩))]) ?_ ha.size ha.defers ⟨ha.val 1 _ rfl, ha.val 2 _ rfl, trivial⟩ ?_))
  · refine W_reg ?_
    refine sm rfl rfl ?_
    refine WL_sub [(6, .func (.func gf) #[] lb), (2, .pointer (some ⟨g2, 0, none⟩))] ?_ ⟨rfl, rfl, trivial⟩
    exact Wn ⟨rfl, rfl, rfl⟩
  clear ha a
  rintro e l a w1' ha ⟨rfl, rfl, rfl⟩
  have hz1 := hb1.size
  refine wp_block ((wpIn_wide (n := 1)).1 ?_)
  refine wpIn_rangeFunc_ownH rfl (Nat.le_refl 1) (ha.knows (.tmp 6) _ rfl) trivial eg hseq (fun h k => walksK_t h k) (fun W l o o' _ h1 _ h3 => KeepsWalks.putObj o' h1 h3) hb1 (fun _ => rfl)
    (fun pre W => Acc w g2 pre W) (fun _ _ _ => False) (Acc.own w g2 _ hz1) (fun c s W W' row h _ _ => h) ⟨⟨_, hB2, Row.nil _ _ _, fun k hk => by simp [Value.ownBlock] at hk⟩, hb1⟩
    (fun x a' W => ∃ g5, Rep 13 [] [(5, .pointer (some ⟨g5, 0, none⟩)), (2, .pointer (some ⟨g2, 0, none⟩))] a' ∧ Blk W g5 53 (x.1.map bv).toArray)
    (fun x a' _ W W' row h hg hr => by obtain ⟨g5, h1, h2⟩ := h; exact ⟨g5, h1, h2.grown hg (fun r e => (hr r e).2)⟩) ?_ ?_ ?_ (fun D c pre W _ _ h => h.elim)
  · -- the loop's variable is laid
    intro lp pre x W K hI hK
    have ha' : Rep 13 [] [(7, encSum x), (6, .func (.func gf) #[] lb), (2, .pointer (some ⟨g2, 0, none⟩))] { tmps := (#[7].zip #[encSum x]).foldl (fun t (p, v) => t.setIfInBounds p v) a.tmps, defers := [] } := by
      have := ha.put (d := 7) rfl (encSum x)
      have e : ({ tmps := (#[7].zip #[encSum x]).foldl (fun t (p, v) => t.setIfInBounds p v) a.tmps, defers := [] } : Act) = a.put (some 7) (encSum x) := by
        have hd := ha.defers
        cases a
        simp at hd
        subst hd
        simp [Act.put]
      rw [e]
      exact this
    refine outI (Q := fun e l W' => e = .normal ∧ ∃ g5, l = [(5, .pointer (some ⟨g5, 0, none⟩)), (2, .pointer (some ⟨g2, 0, none⟩))] ∧ Blk W' g5 53 (x.1.map bv).toArray ∧ Below W.heap.size W W') ?_ ha' ?_
    · refine WLI_of rfl (fun l w h => by cases h.1) ?_
      refine salA inf53 rfl (fun g5 w3 hB5 hg5 hb hl5 => ?_)
      refine ssBN rfl rfl hB5 (by rw [encSum_size x]; exact siz53) (by rw [encSum_size x]; rfl) (by simp [bv, Value.oneCell']) (fun w4 hB4 hc => ?_)
      refine WL_sub [(5, .pointer (some ⟨g5, 0, none⟩)), (2, .pointer (some ⟨g2, 0, none⟩))] ?_ ⟨rfl, rfl, trivial⟩
      exact Wn ⟨rfl, g5, rfl, hB4, bset hb hc hg5⟩
    · rintro e l a' W' hr ⟨rfl, g5, rfl, hB5, hb⟩
      have hch : Chg (fun _ => False) W W' := Chg.of_below hb _
      have hoc : OnCells (fun _ => False) W := fun k o h _ => h.elim
      obtain ⟨v, h1, h2, h3⟩ := hI.box
      exact hK a' W' (keepsFrom_of hch hoc _) (keepsWalks_of hch hoc) ⟨⟨v, h1.bel hb, h2.bel hb, h3⟩, bthen hI.below hb⟩ ⟨g5, hr, hB5⟩
  · -- the body
    intro lp pre x a' W _ _ hI ⟨g5, hr, hB5⟩ hlen
    obtain ⟨v, hBs, hRv, hOv⟩ := hI.box
    have hbw := hI.below
    have hgS := hBs.lt
    refine wpIn_block ?_
    refine outI (Q := fun e l W' => e = .normal ∧ KeepsFrom w1'.heap.size W W' ∧ KeepsWalks W W' ∧ Acc w g2 (pre ++ [x]) W') ?_ hr ?_
    · refine WLI_of rfl (fun l w h => by cases h.1) ?_
      refine st (X.ldL rfl hBs Tryd.underlying119 rfl rfl) rfl ?_
      refine st (X.ldBN rfl hB5 Tryd.underlying53 rfl (by rw [encSum_size x]; exact siz53)) rfl ?_
      refine sbs1 rfl Tryd.underlying119 inf53 (by show (x.1.map bv).toArray.size = 32; exact encSum_size x) rfl (by decide) (by decide) rfl (fun g10 w2 hR10 hg10 hb => ?_)
      have hz2 := hb.size
      have k1 := keepsFrom_of (Chg.of_below hb (fun _ => False)) (fun _ _ h _ => h.elim) w1'.heap.size
      have k2 := keepsWalks_of (Chg.of_below hb (fun _ => False)) (fun _ _ h _ => h.elim)
      replace hbw := bthen hbw hb
      replace hBs := hBs.bel hb
      replace hRv := hRv.bel hb
      clear hb hB5
      refine sapp rfl rfl Tryd.underlying119 inf53 rfl (by decide) hRv (hR10.reads.src Tryd.underlying119 (by intro u hu; simp [Value.cells] at hu; obtain ⟨q, _, rfl⟩ := hu; rfl)) (by simp only [maxLen]; omega) (by omega) rfl (fun v' w3 hRv' hC hv' => ?_)
      have k3 := k1.trans (keepsFrom_of hC hRv.onCells _)
      have k4 := k2.trans (keepsWalks_of hC hRv.onCells)
      have hBs' := hBs.chg hC (hRv.ne_ hBs (by decide))
      have hbw' := bapp hbw hC hOv
      have hz3 := hC.size
      refine ssB rfl rfl hBs' siz119 hRv'.one (by simp) (fun w4 hB4 hC4 => ?_)
      have k5 := k3.trans (keepsFrom_of hC4 hBs'.onCells _)
      have k6 := k4.trans (keepsWalks_of hC4 hBs'.onCells)
      have hRv4 := hRv'.chg hC4 (fun k hk e => hRv'.ne_ hBs' (by decide) (by rw [← e]; exact hk))
      refine Wn ⟨rfl, k5, k6, ⟨v', hB4, ?_, own_next hv' hOv (by have := hI.below.size; omega)⟩, bset hbw' hC4 hg2⟩
      rw [List.length_append, List.length_singleton, sumCells_snoc]
      exact hRv4
    · rintro e l a2 W' _ ⟨rfl, h1, h2, h3⟩
      exact ⟨h1, h2, h3⟩
  · -- behind the loop
    intro D xs W hD hS hI hK
    obtain ⟨v, hBs, hRv, hOv⟩ := hI.box
    have hbw := hI.below
    have haD : Rep 13 [{ target := .collected D, args := #[] }] [(2, .pointer (some ⟨g2, 0, none⟩))] { a with defers := { target := .collected D, args := #[] } :: a.defers } := by
      refine ⟨ha.size, by rw [ha.defers], fun t u hu => ha.val t u ?_⟩
      unfold lk at hu
      cases ht : Nat.beq t 2 with
      | true =>
        have e : t = 2 := Nat.eq_of_beq_eq_true ht
        subst e
        exact hu
      | false => rw [ht] at hu; cases hu
    show Code.wp _ _ _ _ _
    refine wp_seq (W_out (N := 13) (ds := [{ target := .collected D, args := #[] }]) (l := [(2, .pointer (some ⟨g2, 0, none⟩))]) (Q := fun e l w' => e = .normal ∧ l = [(4, v)] ∧ w' = W) ?_ haD.size haD.defers ⟨haD.val 2 _ rfl, trivial⟩ ?_)
    · refine W_reg ?_
      refine st (X.ldL rfl hBs Tryd.underlying119 rfl rfl) rfl ?_
      refine sa rfl rfl ?_
      refine WL_sub [(4, v)] ?_ ⟨rfl, trivial⟩
      exact Wn ⟨rfl, rfl, rfl⟩
    · rintro e l a3 W' hr3 ⟨rfl, rfl, rfl⟩
      refine wp_ret ?_
      have hg : W'.grownBy (W'.putObj D (.deferred none)) (some D) := grownBy_putObj' W' D _
      have hrow : ∀ r, some D = some r → ∃ o : Obj, W'.heap[r]? = some o ∧ o.isCells = false := fun r e => by cases e; exact ⟨_, hK, rfl⟩
      refine retM hr3 hK (rT rfl rfl ⟨v, xs, rfl, hS, hRv.grown hg hrow, hOv, ?_⟩).1
      exact hbw.grown hg hbw.size (fun k e => by cases e; omega)
end Go.Proofs.YtnagmpnpgekhfaaDoor
