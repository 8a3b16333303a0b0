/- law01: alike, of two disks that have the same files. -/
import Derived.Test.YtnijmegalgoipaaDoorDiskW
namespace Go.Proofs.YtnijmegalgoipaaDoor
open Go.RowKit
set_option maxRecDepth 10000 in
theorem alike_any (g c : Nat) (D E : DiskD) (S T : Nat → Prop) (w : World) (hd : DiskAt w g D S) (he : DiskAt w c E T) (hok : DOk D) (hok2 : DOk E) (hf : D.files = E.files) (hu : D.used = E.used) (hlen : D.files.length ≤ 1000000) :
    Calls Tryd.prog 39 #[.pointer (some ⟨g, 0, none⟩), .pointer (some ⟨c, 0, none⟩)] w fun e w' => e = .returned (.bool true) ∧ Below w.heap.size w w' := by
  have hnm : namesM E = namesM D := by unfold namesM; rw [hf]
  obtain ⟨n, hn⟩ : ∃ n, (namesM D).length = n := ⟨_, rfl⟩
  have hn1 : n ≤ 1000000 := by rw [← hn]; simp [namesM]; exact hlen
  refine W_enter (args := [.pointer (some ⟨g, 0, none⟩), .pointer (some ⟨c, 0, none⟩)]) 66 Tryd.func39 rfl rfl rfl ?_
  refine W_sub [(0, .pointer (some ⟨g, 0, none⟩)), (1, .pointer (some ⟨c, 0, none⟩))] ?_ ⟨rfl, rfl, trivial⟩
  have hbw := Below.refl w.heap.size w
  refine W_rs ?_
  refine sa rfl rfl ?_
  refine Wn ?_
  refine tN ?_
  refine W_rs ?_
  refine sm rfl rfl ?_
  refine sc _ Tryd.func33 rfl (by kernel_rfl) rfl rfl ((List_any g D S _ hd hok.srt hlen).mono ?_)
  rintro e_ w1 ⟨v1, rfl, hR1, hO1, hb⟩
  refine cR ?_
  replace hbw := bthen hbw hb
  replace hd := hd.bel hb
  replace he := he.bel hb
  have hz_w1 := hb.size
  clear hb
  rw [hn] at hR1
  obtain ⟨a1, c1, hv1, _⟩ := hR1.shape
  subst hv1
  clear hO1
  refine sa rfl rfl ?_
  refine Wn ?_
  refine tN ?_
  refine W_rs ?_
  refine sm rfl rfl ?_
  refine sc _ Tryd.func33 rfl (by kernel_rfl) rfl rfl ((List_any c E T _ he hok2.srt (by rw [← hf]; exact hlen)).mono ?_)
  rintro e_ w2 ⟨v2, rfl, hR2, hO2, hb⟩
  refine cR ?_
  replace hbw := bthen hbw hb
  replace hd := hd.bel hb
  replace he := he.bel hb
  replace hR1 := hR1.bel hb
  have hz_w2 := hb.size
  clear hb
  rw [hnm, hn] at hR2
  obtain ⟨a2, c2, hv2, _⟩ := hR2.shape
  subst hv2
  clear hO2
  refine sa rfl rfl ?_
  refine Wn ?_
  refine tN ?_
  refine W_seq ?_
  refine W_rs ?_
  refine sm rfl rfl ?_
  refine st (X.lenL rfl rfl Tryd.underlying23) rfl ?_
  refine sm rfl rfl ?_
  refine st (X.lenL rfl rfl Tryd.underlying23) rfl ?_
  refine st (X.neq rfl rfl) rfl ?_
  refine sbN rfl (decide_eq_false (fun e => e rfl)) rfl ?_
  refine gY (g := 21) rfl rfl rfl ?_
  refine sm rfl rfl ?_
  refine gY (g := 21) rfl rfl rfl ?_
  refine sc _ Tryd.func30 rfl (by kernel_rfl) rfl rfl ((Used_any g D S _ hd).mono ?_)
  rintro e_ w3 ⟨rfl, hb⟩
  refine cR ?_
  replace hbw := bthen hbw hb
  replace hd := hd.bel hb
  replace he := he.bel hb
  replace hR1 := hR1.bel hb
  replace hR2 := hR2.bel hb
  have hz_w3 := hb.size
  clear hb
  refine gY (g := 21) rfl rfl rfl ?_
  refine sm rfl rfl ?_
  refine gY (g := 21) rfl rfl rfl ?_
  refine sc _ Tryd.func30 rfl (by kernel_rfl) rfl rfl ((Used_any c E T _ he).mono ?_)
  rintro e_ w4 ⟨rfl, hb⟩
  refine cR ?_
  replace hbw := bthen hbw hb
  replace hd := hd.bel hb
  replace he := he.bel hb
  replace hR1 := hR1.bel hb
  replace hR2 := hR2.bel hb
  have hz_w4 := hb.size
  clear hb
  refine gY (g := 21) rfl rfl rfl ?_
  refine st (X.neq rfl rfl) rfl ?_
  refine st (X.pickF rfl rfl) rfl ?_
  refine Wn ?_
  refine tN ?_
  refine W_no rfl (decide_eq_false (fun e => e hu)) ?_
  refine W_skip ?_
  refine tN ?_
  refine W_seq ?_
  refine W_rs ?_
  refine sa rfl rfl ?_
  refine Wn ?_
  refine tN ?_
  refine W_block ?_
  refine W_lp (fun nw5_ lw5_ w5 => ∃ i : Nat, nw5_ = n - i ∧ lw5_ = ([(0, .pointer (some ⟨g, 0, none⟩)), (1, .pointer (some ⟨c, 0, none⟩)), (5, .slice a1 n c1), (6, .slice a2 n c2), (7, .int .i64 i)] : Env) ∧ (i ≤ n) ∧ (Below w.heap.size w w5) ∧ (DiskAt w5 g D S) ∧ (DiskAt w5 c E T) ∧ (Row w5 9 1 (.slice a1 n c1) n ((namesM D).map str)) ∧ (Row w5 9 1 (.slice a2 n c2) n ((namesM D).map str))) _ ⟨_, ⟨0, rfl, rfl, Nat.zero_le _, hbw, hd, he, hR1, hR2⟩, ⟨rfl, rfl, rfl, rfl, rfl, trivial⟩⟩ ?_
  clear hbw hd he hR1 hR2
  rintro nw5_ lw5_ w5 ⟨i, rfl, rfl, hi, hbw, hd, he, hR1, hR2⟩
  have hz_w5 := hbw.size
  refine W_seq ?_
  refine W_rs ?_
  refine sm rfl rfl ?_
  refine sm rfl rfl ?_
  refine st (X.lenL rfl rfl Tryd.underlying23) rfl ?_
  refine st (X.lss rfl rfl) rfl ?_
  refine Wn ?_
  refine tN ?_
  refine W_if rfl (fun h31 => ?_) (fun h31 => ?_)
  · first | replace h31 := of_decide_eq_true h31 | replace h31 := of_decide_eq_false (notT h31) | replace h31 := notT h31 | skip
    obtain ⟨x, hx⟩ : ∃ x, (namesM D)[i]? = some x := ⟨_, List.getElem?_eq_getElem (by omega)⟩
    obtain ⟨g1, o1, c', hv, hg1⟩ := hR1.reads.some_ (by omega)
    injection hv with e1 _ e3
    subst e1 e3
    obtain ⟨g2, o2, c', hv, hg2⟩ := hR2.reads.some_ (by omega)
    injection hv with e1 _ e3
    subst e1 e3
    have hux : ((namesM D).map str)[i]? = some (str x) := by rw [List.getElem?_map, hx]; rfl
    obtain ⟨rs, re, hrd⟩ : ∃ s e, readM D x 0 1073741824 = (s, e) := ⟨_, _, rfl⟩
    have hre : readM E x 0 1073741824 = (rs, re) := by rw [← hrd]; unfold readM; rw [hf]
    refine W_skip ?_
    refine tN ?_
    refine W_seq ?_
    refine W_block ?_
    refine W_rs ?_
    refine sm rfl rfl ?_
    refine sm rfl rfl ?_
    refine sm rfl rfl ?_
    refine st (X.idxA rfl rfl Tryd.underlying23 siz9 rfl (by omega)) rfl ?_
    refine st (X.ld rfl Tryd.underlying9 rfl (by rw [Nat.mul_one]; exact hR1.reads.cellAt (by omega) hux)) rfl ?_
    refine sc _ Tryd.func29 rfl (by kernel_rfl) rfl rfl ((Read_is hd hok hrd).mono ?_)
    rintro e_ w6 ⟨rfl, hb⟩
    refine cR ?_
    replace hbw := bthen hbw hb
    replace hd := hd.bel hb
    replace he := he.bel hb
    replace hR1 := hR1.bel hb
    replace hR2 := hR2.bel hb
    have hz_w6 := hb.size
    clear hb
    refine sm rfl rfl ?_
    refine st (X.ext rfl rfl) rfl ?_
    refine st (X.ext rfl rfl) rfl ?_
    refine sa rfl rfl ?_
    refine sa rfl rfl ?_
    refine Wn ?_
    refine tN ?_
    refine W_rs ?_
    refine sm rfl rfl ?_
    refine sm rfl rfl ?_
    refine sm rfl rfl ?_
    refine st (X.idxA rfl rfl Tryd.underlying23 siz9 rfl (by omega)) rfl ?_
    refine st (X.ld rfl Tryd.underlying9 rfl (by rw [Nat.mul_one]; exact hR2.reads.cellAt (by omega) hux)) rfl ?_
    refine sc _ Tryd.func29 rfl (by kernel_rfl) rfl rfl ((Read_is he hok2 hre).mono ?_)
    rintro e_ w7 ⟨rfl, hb⟩
    refine cR ?_
    replace hbw := bthen hbw hb
    replace hd := hd.bel hb
    replace he := he.bel hb
    replace hR1 := hR1.bel hb
    replace hR2 := hR2.bel hb
    have hz_w7 := hb.size
    clear hb
    refine sm rfl rfl ?_
    refine st (X.ext rfl rfl) rfl ?_
    refine st (X.ext rfl rfl) rfl ?_
    refine sa rfl rfl ?_
    refine sa rfl rfl ?_
    refine Wn ?_
    refine tN ?_
    refine W_drsN (fun W_ => W_.cell? ⟨g1, o1 + i * 1, none⟩ = some (str x) ∧ W_.cell? ⟨g2, o2 + i * 1, none⟩ = some (str x)) [0, 1, 2, 3, 4, 5, 6, 7, 8, 9, 10, 11, 12, 13] [true, true, true, true, true, true, true, true, true, true, true, true, true, true] (by kernel_rfl) (by kernel_rfl) (⟨by rw [Nat.mul_one]; exact (hR1.bel (bdrew (Below.refl _ _))).reads.cellAt (by omega) hux, by rw [Nat.mul_one]; exact (hR2.bel (bdrew (Below.refl _ _))).reads.cellAt (by omega) hux⟩) ?_
    obtain ⟨w8, hw_⟩ : ∃ w8 : World, w8 = World.drew w7 := ⟨_, rfl⟩
    rw [← hw_]
    have hb : Below w7.heap.size w7 w8 := by rw [hw_]; exact bdrew (Below.refl _ _)
    clear hw_
    have hS := hb
    replace hbw := bthen hbw hb
    replace hd := hd.bel hb
    replace he := he.bel hb
    replace hR1 := hR1.bel hb
    replace hR2 := hR2.bel hb
    have hz_w8 := hb.size
    clear hb
    refine oY rfl (fun W_ hW_ => (X.move rfl)) rfl ?_
    refine oY rfl (fun W_ hW_ => (X.move rfl)) rfl ?_
    refine oY rfl (fun W_ hW_ => (X.idxA rfl rfl Tryd.underlying23 siz9 rfl (by omega))) rfl ?_
    refine oY rfl (fun W_ hW_ => (X.ld rfl Tryd.underlying9 rfl hW_.1)) rfl ?_
    refine oY rfl (fun W_ hW_ => (X.move rfl)) rfl ?_
    refine oY rfl (fun W_ hW_ => (X.move rfl)) rfl ?_
    refine oY rfl (fun W_ hW_ => (X.idxA rfl rfl Tryd.underlying23 siz9 rfl (by omega))) rfl ?_
    refine oY rfl (fun W_ hW_ => (X.ld rfl Tryd.underlying9 rfl hW_.2)) rfl ?_
    refine oY rfl (fun W_ hW_ => (X.neS rfl rfl)) rfl ?_
    refine oY rfl (fun W_ hW_ => (X.mvB (c := false) rfl (decide_eq_false (fun e => e rfl)))) rfl ?_
    refine oYg (g := 61) rfl rfl rfl rfl (fun W_ hW_ => (X.move rfl)) rfl ?_
    refine oYg (g := 61) rfl rfl rfl rfl (fun W_ hW_ => (X.move rfl)) rfl ?_
    refine oYg (g := 61) rfl rfl rfl rfl (fun W_ hW_ => (X.neS rfl rfl)) rfl ?_
    refine oY rfl (fun W_ hW_ => (X.pickF rfl rfl)) rfl ?_
    refine oN ?_
    refine nN ?_
    refine W_no rfl (decide_eq_false (fun e => e rfl)) ?_
    refine W_skip ?_
    refine bN ?_
    refine tN ?_
    refine W_reg ?_
    refine sm rfl rfl ?_
    refine st (X.add64 rfl rfl (by omega)) rfl ?_
    refine sa rfl rfl ?_
    refine Wn ?_
    refine tN ⟨_, _, ?_, ⟨i + 1, rfl, rfl, by omega, hbw, hd, he, hR1, hR2⟩, ⟨rfl, rfl, rfl, rfl, rfl, trivial⟩⟩
    omega
  · first | replace h31 := of_decide_eq_false h31 | replace h31 := of_decide_eq_true (notF h31) | replace h31 := notF h31 | skip
    refine W_exit (tE (tE (bH ?_)))
    refine tN ?_
    refine W_rs ?_
    refine sa rfl rfl ?_
    refine Wn ?_
    refine tN ?_
    refine W_ret ?_
    exact (rT rfl rfl ⟨rfl, hbw⟩).1
end Go.Proofs.YtnijmegalgoipaaDoor
