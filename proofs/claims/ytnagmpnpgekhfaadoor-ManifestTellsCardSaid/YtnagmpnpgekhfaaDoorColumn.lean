/- manifest's cutter: a column and its stream. -/
import Derived.Test.YtnagmpnpgekhfaaDoorGen
import Derived.Test.YtnagmpnpgekhfaaDoorCutter
import Derived.Test.YtnagmpnpgekhfaaDoorOps3
namespace Go.Proofs.YtnagmpnpgekhfaaDoor
open Go.RowKit
def colP : List UInt8 → Option (Col × List Chk × List UInt8)
  | k :: m :: r =>
    if m.toNat ≤ r.length then
      if 4 ≤ (r.drop m.toNat).length then
        if num (r.drop m.toNat) ≤ ((r.drop m.toNat).drop 4).length / 36 then
          some (⟨r.take m.toNat, (k.toNat : Int) % 128, decide ((128 : Int) ≤ (k.toNat : Int))⟩, chksOf (num (r.drop m.toNat)) ((r.drop m.toNat).drop 4), ((r.drop m.toNat).drop 4).drop (36 * num (r.drop m.toNat)))
        else none
      else none
    else none
  | _ => none
theorem number_any (g : Nat) (s : List UInt8) (w : World) (hB : Blk w g 99 #[str s]) (h4 : 4 ≤ s.length) :
    Calls Tryd.prog 41 #[.pointer (some ⟨g, 0, none⟩)] w fun e w' => e = .returned (.int .i64 (num s : Nat)) ∧ Blk w' g 99 #[str (s.drop 4)] ∧ Chg (fun k => k = g) w w' := by
  match s, h4 with
  | a :: b :: c :: d :: r, _ => exact number_ok g a b c d r w hB
theorem bcol (a : Int) (c : Bool) (n : List UInt8) (w : World) : (Instr.build 60 #[(1, .int .i64 a), (2, .bool c), (0, str n)]).run Tryd.prog w = .ok (.agg #[str n, .int .i64 a, .bool c]) w := by kernel_rfl
theorem div36 (a b : Nat) : ((a : Int) / 36 < (b : Int)) ↔ ¬ b ≤ a / 36 := by omega
theorem column_core (g : Nat) (k m : UInt8) (r nm r1 r2 : List UInt8) (n : Nat) (w : World) (hB : Blk w g 99 #[str (k :: m :: r)]) (hs : r.length < 1000000) (h1 : m.toNat ≤ r.length) (hnm : r.take m.toNat = nm) (hr1 : r.drop m.toNat = r1) (h2 : 4 ≤ r1.length) (hr2 : r1.drop 4 = r2) (hn : num r1 = n) (hn36 : 36 * n ≤ r2.length) :
    Calls Tryd.prog 43 #[.pointer (some ⟨g, 0, none⟩)] w fun e w' => ∃ v, e = .returned (.tuple #[.agg #[str nm, .int .i64 ((k.toNat : Int) % 128), .bool (decide ((128 : Int) ≤ (k.toNat : Int)))], v]) ∧ Row w' 55 33 v n ((chksOf n r2).flatMap Chk.cells) ∧ (∀ k, v.ownBlock = some k → w.heap.size ≤ k) ∧ Blk w' g 99 #[str (r2.drop (36 * n))] ∧ Chg (fun k => k = g) w w' := by
  have hk := lt_u8 k
  have hgl := hB.lt
  have hl1 : r1.length ≤ r.length := by rw [← hr1]; simp
  have hl2 : r2.length ≤ r1.length := by rw [← hr2]; simp
  refine W_enter (args := [.pointer (some ⟨g, 0, none⟩)]) 56 Tryd.func43 rfl rfl rfl ?_
  refine W_sub [(0, .pointer (some ⟨g, 0, none⟩))] ?_ ⟨rfl, trivial⟩
  have hcw := Chg.refl (fun k => k = g) w
  refine W_rs ?_
  refine salA inf60 rfl (fun g2 w1 hB2 hg2 hb hl2 => ?_)
  replace hcw := hcw.then_below hb
  replace hB := hB.bel hb
  have hz_w1 := hb.size
  clear hb
  refine sa rfl rfl ?_
  refine Wn ?_
  refine tN ?_
  refine W_rs ?_
  refine sm rfl rfl ?_
  refine sc _ Tryd.func42 rfl (by kernel_rfl) rfl rfl ((one_ok g k (m :: r) _ hB).mono ?_)
  clear hB
  rintro e_ w2 ⟨rfl, hB, hC⟩
  refine cR ?_
  replace hB2 := hB2.chg hC (by first | (show ¬ _ = _; omega) | (intro k_ hk_; simp [Value.ownBlock] at hk_; subst hk_; show ¬ _ = _; omega))
  replace hcw := hcw.next hC (fun i_ hi_ => by first | exact .inl hi_ | (right; subst hi_; omega))
  have hz_w2 := hC.size
  clear hC
  refine sa rfl rfl ?_
  refine Wn ?_
  refine tN ?_
  refine W_rs ?_
  refine sm rfl rfl ?_
  refine st (X.rem64 rfl rfl (by omega) (by omega)) rfl ?_
  refine sm rfl rfl ?_
  refine st (X.geq rfl rfl) rfl ?_
  refine sm rfl rfl ?_
  refine sm rfl rfl ?_
  refine sc _ Tryd.func42 rfl (by kernel_rfl) rfl rfl ((one_ok g m r _ hB).mono ?_)
  clear hB
  rintro e_ w3 ⟨rfl, hB, hC⟩
  refine cR ?_
  replace hB2 := hB2.chg hC (by first | (show ¬ _ = _; omega) | (intro k_ hk_; simp [Value.ownBlock] at hk_; subst hk_; show ¬ _ = _; omega))
  replace hcw := hcw.next hC (fun i_ hi_ => by first | exact .inl hi_ | (right; subst hi_; omega))
  have hz_w3 := hC.size
  clear hC
  refine sc _ Tryd.func52 rfl (by kernel_rfl) rfl rfl ((text_ok g m.toNat r _ hB h1).mono ?_)
  clear hB
  rintro e_ w4 ⟨rfl, hB, hC⟩
  refine cR ?_
  replace hB2 := hB2.chg hC (by first | (show ¬ _ = _; omega) | (intro k_ hk_; simp [Value.ownBlock] at hk_; subst hk_; show ¬ _ = _; omega))
  replace hcw := hcw.next hC (fun i_ hi_ => by first | exact .inl hi_ | (right; subst hi_; omega))
  have hz_w4 := hC.size
  clear hC
  rw [hnm]
  rw [hr1] at hB
  refine st (X.bld rfl (bcol _ _ _ _)) rfl ?_
  refine salA inf60 rfl (fun g5 w5 hB5 hg5 hb hl5 => ?_)
  replace hcw := hcw.then_below hb
  replace hB := hB.bel hb
  replace hB2 := hB2.bel hb
  have hz_w5 := hb.size
  clear hb
  refine ssBN rfl rfl hB5 siz60 rfl rfl (fun w6 hB_ hc_ => ?_)
  replace hB5 := hB_
  clear hB_
  replace hB := hB.chg hc_ (by first | (show ¬ _ = _; omega) | (intro k_ hk_; simp [Value.ownBlock] at hk_; subst hk_; show ¬ _ = _; omega))
  replace hB2 := hB2.chg hc_ (by first | (show ¬ _ = _; omega) | (intro k_ hk_; simp [Value.ownBlock] at hk_; subst hk_; show ¬ _ = _; omega))
  replace hcw := hcw.next hc_ (fun i_ hi_ => by first | exact .inl hi_ | (right; subst hi_; omega))
  have hz_w6 := hc_.size
  clear hc_
  refine Wn ?_
  refine tN ?_
  refine W_rs ?_
  refine sm rfl rfl ?_
  refine sc _ Tryd.func41 rfl (by kernel_rfl) rfl rfl ((number_any g r1 _ hB h2).mono ?_)
  clear hB
  rintro e_ w7 ⟨rfl, hB, hC⟩
  refine cR ?_
  replace hB2 := hB2.chg hC (by first | (show ¬ _ = _; omega) | (intro k_ hk_; simp [Value.ownBlock] at hk_; subst hk_; show ¬ _ = _; omega))
  replace hB5 := hB5.chg hC (by first | (show ¬ _ = _; omega) | (intro k_ hk_; simp [Value.ownBlock] at hk_; subst hk_; show ¬ _ = _; omega))
  replace hcw := hcw.next hC (fun i_ hi_ => by first | exact .inl hi_ | (right; subst hi_; omega))
  have hz_w7 := hC.size
  clear hC
  rw [hn]
  rw [hr2] at hB
  refine sa rfl rfl ?_
  refine Wn ?_
  refine tN ?_
  refine W_seq ?_
  refine W_rs ?_
  refine sm rfl rfl ?_
  refine sm rfl rfl ?_
  refine st (X.nilChk rfl) rfl ?_
  refine st (X.fa fa99_0 rfl) rfl ?_
  refine st (X.ldB rfl hB Tryd.underlying9 rfl rfl) rfl ?_
  refine st (X.lenS rfl rfl Tryd.underlying9) rfl ?_
  refine st (X.quo64 rfl rfl (by omega) (by omega) (by omega)) rfl ?_
  refine st (X.gtr rfl rfl) rfl ?_
  refine Wn ?_
  refine tN ?_
  refine W_no rfl (decide_eq_false (by rw [div36]; omega)) ?_
  refine W_skip ?_
  refine tN ?_
  refine W_rs ?_
  refine sm rfl rfl ?_
  refine smkB rfl rfl rfl rfl Tryd.underlying51 inf55 (by omega) (by simp only [maxLen]; omega) rfl (fun gL w8 hL hgL hb hlL => ?_)
  replace hB := hB.bel hb
  replace hB2 := hB2.bel hb
  replace hB5 := hB5.bel hb
  replace hcw := hcw.then_below hb
  have hz_L := hb.size
  clear hb
  refine sa rfl rfl ?_
  refine Wn ?_
  refine tN ?_
  refine W_seq ?_
  refine W_rs ?_
  refine sm rfl rfl ?_
  refine st (X.lenL rfl rfl Tryd.underlying51) rfl ?_
  refine sm rfl rfl ?_
  refine Wn ?_
  refine tN ?_
  refine W_block ?_
  refine W_lp (fun nw9_ lw9_ w9 => ∃ j : Nat, ∃ cs : Array Value, nw9_ = n - j ∧ lw9_ = ([(0, .pointer (some ⟨g, 0, none⟩)), (2, .pointer (some ⟨g2, 0, none⟩)), (5, .pointer (some ⟨g5, 0, none⟩)), (7, .slice (some ⟨gL, 0, none⟩) n n), (35, .int .i64 n), (36, .int .i64 j)] : Env) ∧ (j ≤ n) ∧ (Filled cs n j (chksOf n r2)) ∧ (Blk w9 g 99 #[str (r2.drop (36 * j))]) ∧ (Blk w9 g2 60 #[str [], .int .i64 0, .bool false]) ∧ (Blk w9 g5 60 #[str nm, .int .i64 ((k.toNat : Int) % 128), .bool (decide ((128 : Int) ≤ (k.toNat : Int)))]) ∧ (Blk w9 gL 55 cs) ∧ (Chg (fun k => k = g) w w9)) _ ⟨_, ⟨0, _, rfl, rfl, by omega, ⟨madeCells_size _ _, by simp⟩, hB, hB2, hB5, hL, hcw⟩, ⟨rfl, rfl, rfl, rfl, rfl, rfl, trivial⟩⟩ ?_
  clear hB hB2 hB5 hL hcw
  rintro nw9_ lw9_ w9 ⟨j, cs, rfl, rfl, hj, hf, hB, hB2, hB5, hL, hcw⟩
  have hlt_hB_w9 := hB.lt
  have hlt_hB2_w9 := hB2.lt
  have hlt_hB5_w9 := hB5.lt
  have hz_h := hcw.size
  refine W_rs ?_
  refine st (X.lss rfl rfl) rfl ?_
  refine Wn ?_
  refine tN ?_
  refine W_seq ?_
  refine W_if rfl (fun h37 => ?_) (fun h37 => ?_)
  · first | replace h37 := of_decide_eq_true h37 | replace h37 := of_decide_eq_false (notT h37) | replace h37 := notT h37 | skip
    obtain ⟨x, hx⟩ : ∃ x, (chksOf n r2)[j]? = some x := ⟨_, chksOf_at n r2 j (by omega)⟩
    have hx' := chksOf_at n r2 j (by omega)
    rw [hx] at hx'
    injection hx' with hx'
    have hxs := chksOf_sum n r2 hn36 x (List.mem_of_getElem? hx)
    have hrl : (r2.drop (36 * j)).length = r2.length - 36 * j := List.length_drop
    refine W_skip ?_
    refine tN ?_
    refine W_seq ?_
    refine W_block ?_
    refine W_rs ?_
    refine sm rfl rfl ?_
    refine sa rfl rfl ?_
    refine Wn ?_
    refine tN ?_
    refine W_drsN (fun _ => True) [0, 1, 2, 3, 4, 5, 6, 7] [true, true, true, true, true, true, false, false] (by kernel_rfl) (by kernel_rfl) (trivial) ?_
    obtain ⟨w10, hw_⟩ : ∃ w10 : World, w10 = World.drew w9 := ⟨_, rfl⟩
    rw [← hw_]
    have hb : Below w9.heap.size w9 w10 := by rw [hw_]; exact bdrew (Below.refl _ _)
    clear hw_
    have hS : True := trivial
    replace hcw := hcw.then_below hb
    replace hB := hB.bel hb
    replace hB2 := hB2.bel hb
    replace hB5 := hB5.bel hb
    replace hL := hL.bel hb
    have hz_w10 := hb.size
    clear hb
    refine oY rfl (fun W_ hW_ => (X.move rfl)) rfl ?_
    refine oY rfl (fun W_ hW_ => (X.move rfl)) rfl ?_
    refine oY rfl (fun W_ hW_ => (X.idxA rfl rfl Tryd.underlying51 siz55 rfl (by omega))) rfl ?_
    refine oY rfl (fun W_ hW_ => (X.fa fa55_0 rfl)) rfl ?_
    refine oY rfl (fun W_ hW_ => (X.slArr rfl Tryd.underlying53 siz5)) rfl ?_
    refine oY rfl (fun W_ hW_ => (X.move rfl)) rfl ?_
    refine oL rfl (fun Q_ hQ_ hP_ => ?_)
    refine sc _ Tryd.func52 rfl (by kernel_rfl) rfl rfl ((text_ok g 32 (r2.drop (36 * j)) _ hB (by omega)).mono ?_)
    clear hB
    rintro e_ w11 ⟨rfl, hB, hC⟩
    refine cR ?_
    replace hB2 := hB2.chg hC (by first | (show ¬ _ = _; omega) | (intro k_ hk_; simp [Value.ownBlock] at hk_; subst hk_; show ¬ _ = _; omega))
    replace hB5 := hB5.chg hC (by first | (show ¬ _ = _; omega) | (intro k_ hk_; simp [Value.ownBlock] at hk_; subst hk_; show ¬ _ = _; omega))
    replace hL := hL.chg hC (by first | (show ¬ _ = _; omega) | (intro k_ hk_; simp [Value.ownBlock] at hk_; subst hk_; show ¬ _ = _; omega))
    replace hcw := hcw.next hC (fun i_ hi_ => by first | exact .inl hi_ | (right; subst hi_; omega))
    have hz_w11 := hC.size
    clear hC
    refine Wn (hQ_ _ _ trivial ?_)
    clear hQ_ hP_ Q_
    refine oL rfl (fun Q_ hQ_ hP_ => ?_)
    refine scpS rfl rfl Tryd.underlying58 siz5 hL (by rw [List.length_take]; omega) (by rw [hf.1]; omega) rfl (fun w12 hL_ hc_ => ?_)
    replace hB := hB.chg hc_ (by show ¬ _ = _; omega)
    replace hB2 := hB2.chg hc_ (by show ¬ _ = _; omega)
    replace hB5 := hB5.chg hc_ (by show ¬ _ = _; omega)
    replace hcw := hcw.next hc_ (fun i_ hi_ => by right; subst hi_; omega)
    have hz_c := hc_.size
    replace hL := hL_
    clear hL_ hc_
    refine Wn (hQ_ _ _ trivial ?_)
    clear hQ_ hP_ Q_
    refine oN ?_
    refine nN ?_
    refine W_reg ?_
    refine sm rfl rfl ?_
    refine sm rfl rfl ?_
    refine sm rfl rfl ?_
    refine sc _ Tryd.func41 rfl (by kernel_rfl) rfl rfl ((number_any g ((r2.drop (36 * j)).drop 32) _ hB (by rw [List.length_drop]; omega)).mono ?_)
    clear hB
    rintro e_ w13 ⟨rfl, hB, hC⟩
    refine cR ?_
    replace hB2 := hB2.chg hC (by first | (show ¬ _ = _; omega) | (intro k_ hk_; simp [Value.ownBlock] at hk_; subst hk_; show ¬ _ = _; omega))
    replace hB5 := hB5.chg hC (by first | (show ¬ _ = _; omega) | (intro k_ hk_; simp [Value.ownBlock] at hk_; subst hk_; show ¬ _ = _; omega))
    replace hL := hL.chg hC (by first | (show ¬ _ = _; omega) | (intro k_ hk_; simp [Value.ownBlock] at hk_; subst hk_; show ¬ _ = _; omega))
    replace hcw := hcw.next hC (fun i_ hi_ => by first | exact .inl hi_ | (right; subst hi_; omega))
    have hz_w13 := hC.size
    clear hC
    refine st (X.idxA rfl rfl Tryd.underlying51 siz55 rfl (by omega)) rfl ?_
    refine st (X.fa fa55_1 rfl) rfl ?_
    refine ssB rfl rfl hL siz3 rfl (by rw [splice_size _ _ _ _ (by rw [List.length_take]; omega) (by rw [hf.1]; omega), hf.1]; omega) (fun w14 hL_ hc_ => ?_)
    replace hB := hB.chg hc_ (by show ¬ _ = _; omega)
    replace hB2 := hB2.chg hc_ (by show ¬ _ = _; omega)
    replace hB5 := hB5.chg hc_ (by show ¬ _ = _; omega)
    replace hcw := hcw.next hc_ (fun i_ hi_ => by right; subst hi_; omega)
    have hz_d := hc_.size
    replace hL := hL_
    clear hL_ hc_
    replace hf := hf.next (by omega) hx hxs
    simp only [Nat.zero_add, Nat.add_zero, List.drop_drop] at hL hB
    rw [hx'] at hf
    refine Wn ?_
    refine bN ?_
    refine tN ?_
    refine W_reg ?_
    refine st (X.add64 rfl rfl (by omega)) rfl ?_
    refine sm rfl rfl ?_
    refine Wn ?_
    refine tN ⟨_, _, ?_, ⟨j + 1, _, rfl, rfl, by omega, hf, by rw [show 36 * (j + 1) = 36 * j + (32 + 4) by omega]; exact hB, hB2, hB5, hL, hcw⟩, ⟨rfl, rfl, rfl, rfl, rfl, rfl, trivial⟩⟩
    omega
  · first | replace h37 := of_decide_eq_false h37 | replace h37 := of_decide_eq_true (notF h37) | replace h37 := notF h37 | skip
    obtain rfl : j = n := by omega
    have hcl : cs.toList = (chksOf j r2).flatMap Chk.cells := by
      have h5 := hf.2
      rw [List.take_of_length_le (by have := hf.1; simp; omega), List.take_of_length_le (by rw [chksOf_length]; omega)] at h5
      exact h5
    refine W_exit (tE (tE (bH ?_)))
    refine tN ?_
    refine W_rs ?_
    refine st (X.ldBN rfl hB5 Tryd.underlying60 rfl siz60) rfl ?_
    refine sm rfl rfl ?_
    refine ssBN rfl rfl hB2 siz60 rfl rfl (fun w15 hB_ hc_ => ?_)
    replace hB2 := hB_
    clear hB_
    replace hB := hB.chg hc_ (by first | (show ¬ _ = _; omega) | (intro k_ hk_; simp [Value.ownBlock] at hk_; subst hk_; show ¬ _ = _; omega))
    replace hB5 := hB5.chg hc_ (by first | (show ¬ _ = _; omega) | (intro k_ hk_; simp [Value.ownBlock] at hk_; subst hk_; show ¬ _ = _; omega))
    replace hL := hL.chg hc_ (by first | (show ¬ _ = _; omega) | (intro k_ hk_; simp [Value.ownBlock] at hk_; subst hk_; show ¬ _ = _; omega))
    replace hcw := hcw.next hc_ (fun i_ hi_ => by first | exact .inl hi_ | (right; subst hi_; omega))
    have hz_w15 := hc_.size
    clear hc_
    refine sa rfl rfl ?_
    refine Wn ?_
    refine tN ?_
    refine W_ret ?_
    refine (rCT rfl rfl hB2 Tryd.underlying60 rfl siz60 rfl ⟨_, rfl, ?_, ?_, hB, hcw⟩).1
    · rw [← hcl]; exact hL.row_ hf.1 (by simp only [maxLen]; omega)
    · intro q hq; simp [Value.ownBlock] at hq; omega
theorem column_no0 (g : Nat)  (w : World) (hB : Blk w g 99 #[str []])  :
    Calls Tryd.prog 43 #[.pointer (some ⟨g, 0, none⟩)] w fun e w' => e = .panicked missing ∧ Chg (fun k => k = g) w w' := by
  have hgl := hB.lt
  refine W_enter (args := [.pointer (some ⟨g, 0, none⟩)]) 56 Tryd.func43 rfl rfl rfl ?_
  refine W_sub [(0, .pointer (some ⟨g, 0, none⟩))] ?_ ⟨rfl, trivial⟩
  have hcw := Chg.refl (fun k => k = g) w
  refine W_rs ?_
  refine salA inf60 rfl (fun g2 w1 hB2 hg2 hb hl2 => ?_)
  replace hcw := hcw.then_below hb
  replace hB := hB.bel hb
  have hz_w1 := hb.size
  clear hb
  refine sa rfl rfl ?_
  refine Wn ?_
  refine tN ?_
  refine W_rs ?_
  refine sm rfl rfl ?_
  refine sc _ Tryd.func42 rfl (by kernel_rfl) rfl rfl ((one_no g _ hB).mono ?_)
  rintro e_ w2 ⟨rfl, rfl⟩
  refine cP (tP ?_)
  exact ⟨rfl, hcw⟩
theorem column_no1 (g : Nat) (k : UInt8) (w : World) (hB : Blk w g 99 #[str [k]])  :
    Calls Tryd.prog 43 #[.pointer (some ⟨g, 0, none⟩)] w fun e w' => e = .panicked missing ∧ Chg (fun k => k = g) w w' := by
  have hgl := hB.lt
  have hk := lt_u8 k
  refine W_enter (args := [.pointer (some ⟨g, 0, none⟩)]) 56 Tryd.func43 rfl rfl rfl ?_
  refine W_sub [(0, .pointer (some ⟨g, 0, none⟩))] ?_ ⟨rfl, trivial⟩
  have hcw := Chg.refl (fun k => k = g) w
  refine W_rs ?_
  refine salA inf60 rfl (fun g2 w1 hB2 hg2 hb hl2 => ?_)
  replace hcw := hcw.then_below hb
  replace hB := hB.bel hb
  have hz_w1 := hb.size
  clear hb
  refine sa rfl rfl ?_
  refine Wn ?_
  refine tN ?_
  refine W_rs ?_
  refine sm rfl rfl ?_
  refine sc _ Tryd.func42 rfl (by kernel_rfl) rfl rfl ((one_ok g k [] _ hB).mono ?_)
  clear hB
  rintro e_ w2 ⟨rfl, hB, hC⟩
  refine cR ?_
  replace hB2 := hB2.chg hC (by first | (show ¬ _ = _; omega) | (intro k_ hk_; simp [Value.ownBlock] at hk_; subst hk_; show ¬ _ = _; omega))
  replace hcw := hcw.next hC (fun i_ hi_ => by first | exact .inl hi_ | (right; subst hi_; omega))
  have hz_w2 := hC.size
  clear hC
  refine sa rfl rfl ?_
  refine Wn ?_
  refine tN ?_
  refine W_rs ?_
  refine sm rfl rfl ?_
  refine st (X.rem64 rfl rfl (by omega) (by omega)) rfl ?_
  refine sm rfl rfl ?_
  refine st (X.geq rfl rfl) rfl ?_
  refine sm rfl rfl ?_
  refine sm rfl rfl ?_
  refine sc _ Tryd.func42 rfl (by kernel_rfl) rfl rfl ((one_no g _ hB).mono ?_)
  rintro e_ w3 ⟨rfl, rfl⟩
  refine cP (tP ?_)
  exact ⟨rfl, hcw⟩
theorem column_no2 (g : Nat) (k m : UInt8) (r : List UInt8) (w : World) (hB : Blk w g 99 #[str (k :: m :: r)]) (h1 : r.length < m.toNat) :
    Calls Tryd.prog 43 #[.pointer (some ⟨g, 0, none⟩)] w fun e w' => e = .panicked missing ∧ Chg (fun k => k = g) w w' := by
  have hgl := hB.lt
  have hk := lt_u8 k
  refine W_enter (args := [.pointer (some ⟨g, 0, none⟩)]) 56 Tryd.func43 rfl rfl rfl ?_
  refine W_sub [(0, .pointer (some ⟨g, 0, none⟩))] ?_ ⟨rfl, trivial⟩
  have hcw := Chg.refl (fun k => k = g) w
  refine W_rs ?_
  refine salA inf60 rfl (fun g2 w1 hB2 hg2 hb hl2 => ?_)
  replace hcw := hcw.then_below hb
  replace hB := hB.bel hb
  have hz_w1 := hb.size
  clear hb
  refine sa rfl rfl ?_
  refine Wn ?_
  refine tN ?_
  refine W_rs ?_
  refine sm rfl rfl ?_
  refine sc _ Tryd.func42 rfl (by kernel_rfl) rfl rfl ((one_ok g k (m :: r) _ hB).mono ?_)
  clear hB
  rintro e_ w2 ⟨rfl, hB, hC⟩
  refine cR ?_
  replace hB2 := hB2.chg hC (by first | (show ¬ _ = _; omega) | (intro k_ hk_; simp [Value.ownBlock] at hk_; subst hk_; show ¬ _ = _; omega))
  replace hcw := hcw.next hC (fun i_ hi_ => by first | exact .inl hi_ | (right; subst hi_; omega))
  have hz_w2 := hC.size
  clear hC
  refine sa rfl rfl ?_
  refine Wn ?_
  refine tN ?_
  refine W_rs ?_
  refine sm rfl rfl ?_
  refine st (X.rem64 rfl rfl (by omega) (by omega)) rfl ?_
  refine sm rfl rfl ?_
  refine st (X.geq rfl rfl) rfl ?_
  refine sm rfl rfl ?_
  refine sm rfl rfl ?_
  refine sc _ Tryd.func42 rfl (by kernel_rfl) rfl rfl ((one_ok g m r _ hB).mono ?_)
  clear hB
  rintro e_ w3 ⟨rfl, hB, hC⟩
  refine cR ?_
  replace hB2 := hB2.chg hC (by first | (show ¬ _ = _; omega) | (intro k_ hk_; simp [Value.ownBlock] at hk_; subst hk_; show ¬ _ = _; omega))
  replace hcw := hcw.next hC (fun i_ hi_ => by first | exact .inl hi_ | (right; subst hi_; omega))
  have hz_w3 := hC.size
  clear hC
  refine sc _ Tryd.func52 rfl (by kernel_rfl) rfl rfl ((text_no g m.toNat r _ hB (by omega)).mono ?_)
  rintro e_ w4 ⟨rfl, rfl⟩
  refine cP (tP ?_)
  exact ⟨rfl, hcw⟩
theorem column_no3 (g : Nat) (k m : UInt8) (r nm r1 : List UInt8) (w : World) (hB : Blk w g 99 #[str (k :: m :: r)]) (h1 : m.toNat ≤ r.length) (hnm : r.take m.toNat = nm) (hr1 : r.drop m.toNat = r1) (h2 : r1.length < 4) :
    Calls Tryd.prog 43 #[.pointer (some ⟨g, 0, none⟩)] w fun e w' => e = .panicked missing ∧ Chg (fun k => k = g) w w' := by
  have hgl := hB.lt
  have hk := lt_u8 k
  refine W_enter (args := [.pointer (some ⟨g, 0, none⟩)]) 56 Tryd.func43 rfl rfl rfl ?_
  refine W_sub [(0, .pointer (some ⟨g, 0, none⟩))] ?_ ⟨rfl, trivial⟩
  have hcw := Chg.refl (fun k => k = g) w
  refine W_rs ?_
  refine salA inf60 rfl (fun g2 w1 hB2 hg2 hb hl2 => ?_)
  replace hcw := hcw.then_below hb
  replace hB := hB.bel hb
  have hz_w1 := hb.size
  clear hb
  refine sa rfl rfl ?_
  refine Wn ?_
  refine tN ?_
  refine W_rs ?_
  refine sm rfl rfl ?_
  refine sc _ Tryd.func42 rfl (by kernel_rfl) rfl rfl ((one_ok g k (m :: r) _ hB).mono ?_)
  clear hB
  rintro e_ w2 ⟨rfl, hB, hC⟩
  refine cR ?_
  replace hB2 := hB2.chg hC (by first | (show ¬ _ = _; omega) | (intro k_ hk_; simp [Value.ownBlock] at hk_; subst hk_; show ¬ _ = _; omega))
  replace hcw := hcw.next hC (fun i_ hi_ => by first | exact .inl hi_ | (right; subst hi_; omega))
  have hz_w2 := hC.size
  clear hC
  refine sa rfl rfl ?_
  refine Wn ?_
  refine tN ?_
  refine W_rs ?_
  refine sm rfl rfl ?_
  refine st (X.rem64 rfl rfl (by omega) (by omega)) rfl ?_
  refine sm rfl rfl ?_
  refine st (X.geq rfl rfl) rfl ?_
  refine sm rfl rfl ?_
  refine sm rfl rfl ?_
  refine sc _ Tryd.func42 rfl (by kernel_rfl) rfl rfl ((one_ok g m r _ hB).mono ?_)
  clear hB
  rintro e_ w3 ⟨rfl, hB, hC⟩
  refine cR ?_
  replace hB2 := hB2.chg hC (by first | (show ¬ _ = _; omega) | (intro k_ hk_; simp [Value.ownBlock] at hk_; subst hk_; show ¬ _ = _; omega))
  replace hcw := hcw.next hC (fun i_ hi_ => by first | exact .inl hi_ | (right; subst hi_; omega))
  have hz_w3 := hC.size
  clear hC
  refine sc _ Tryd.func52 rfl (by kernel_rfl) rfl rfl ((text_ok g m.toNat r _ hB h1).mono ?_)
  clear hB
  rintro e_ w4 ⟨rfl, hB, hC⟩
  refine cR ?_
  replace hB2 := hB2.chg hC (by first | (show ¬ _ = _; omega) | (intro k_ hk_; simp [Value.ownBlock] at hk_; subst hk_; show ¬ _ = _; omega))
  replace hcw := hcw.next hC (fun i_ hi_ => by first | exact .inl hi_ | (right; subst hi_; omega))
  have hz_w4 := hC.size
  clear hC
  rw [hnm]
  rw [hr1] at hB
  refine st (X.bld rfl (bcol _ _ _ _)) rfl ?_
  refine salA inf60 rfl (fun g5 w5 hB5 hg5 hb hl5 => ?_)
  replace hcw := hcw.then_below hb
  replace hB := hB.bel hb
  replace hB2 := hB2.bel hb
  have hz_w5 := hb.size
  clear hb
  refine ssBN rfl rfl hB5 siz60 rfl rfl (fun w6 hB_ hc_ => ?_)
  replace hB5 := hB_
  clear hB_
  replace hB := hB.chg hc_ (by first | (show ¬ _ = _; omega) | (intro k_ hk_; simp [Value.ownBlock] at hk_; subst hk_; show ¬ _ = _; omega))
  replace hB2 := hB2.chg hc_ (by first | (show ¬ _ = _; omega) | (intro k_ hk_; simp [Value.ownBlock] at hk_; subst hk_; show ¬ _ = _; omega))
  replace hcw := hcw.next hc_ (fun i_ hi_ => by first | exact .inl hi_ | (right; subst hi_; omega))
  have hz_w6 := hc_.size
  clear hc_
  refine Wn ?_
  refine tN ?_
  refine W_rs ?_
  refine sm rfl rfl ?_
  refine sc _ Tryd.func41 rfl (by kernel_rfl) rfl rfl ((number_no g r1 _ hB h2).mono ?_)
  rintro e_ w7 ⟨rfl, rfl⟩
  refine cP (tP ?_)
  exact ⟨rfl, hcw⟩
theorem column_no4 (g : Nat) (k m : UInt8) (r nm r1 r2 : List UInt8) (w : World) (hB : Blk w g 99 #[str (k :: m :: r)]) (hs : r.length < 1000000) (h1 : m.toNat ≤ r.length) (hnm : r.take m.toNat = nm) (hr1 : r.drop m.toNat = r1) (h2 : 4 ≤ r1.length) (hr2 : r1.drop 4 = r2) (h3 : ¬ num r1 ≤ r2.length / 36) :
    Calls Tryd.prog 43 #[.pointer (some ⟨g, 0, none⟩)] w fun e w' => e = .panicked missing ∧ Chg (fun k => k = g) w w' := by
  have hgl := hB.lt
  have hk := lt_u8 k
  have hl1 : r1.length ≤ r.length := by rw [← hr1]; simp
  have hl2 : r2.length ≤ r1.length := by rw [← hr2]; simp
  refine W_enter (args := [.pointer (some ⟨g, 0, none⟩)]) 56 Tryd.func43 rfl rfl rfl ?_
  refine W_sub [(0, .pointer (some ⟨g, 0, none⟩))] ?_ ⟨rfl, trivial⟩
  have hcw := Chg.refl (fun k => k = g) w
  refine W_rs ?_
  refine salA inf60 rfl (fun g2 w1 hB2 hg2 hb hl2 => ?_)
  replace hcw := hcw.then_below hb
  replace hB := hB.bel hb
  have hz_w1 := hb.size
  clear hb
  refine sa rfl rfl ?_
  refine Wn ?_
  refine tN ?_
  refine W_rs ?_
  refine sm rfl rfl ?_
  refine sc _ Tryd.func42 rfl (by kernel_rfl) rfl rfl ((one_ok g k (m :: r) _ hB).mono ?_)
  clear hB
  rintro e_ w2 ⟨rfl, hB, hC⟩
  refine cR ?_
  replace hB2 := hB2.chg hC (by first | (show ¬ _ = _; omega) | (intro k_ hk_; simp [Value.ownBlock] at hk_; subst hk_; show ¬ _ = _; omega))
  replace hcw := hcw.next hC (fun i_ hi_ => by first | exact .inl hi_ | (right; subst hi_; omega))
  have hz_w2 := hC.size
  clear hC
  refine sa rfl rfl ?_
  refine Wn ?_
  refine tN ?_
  refine W_rs ?_
  refine sm rfl rfl ?_
  refine st (X.rem64 rfl rfl (by omega) (by omega)) rfl ?_
  refine sm rfl rfl ?_
  refine st (X.geq rfl rfl) rfl ?_
  refine sm rfl rfl ?_
  refine sm rfl rfl ?_
  refine sc _ Tryd.func42 rfl (by kernel_rfl) rfl rfl ((one_ok g m r _ hB).mono ?_)
  clear hB
  rintro e_ w3 ⟨rfl, hB, hC⟩
  refine cR ?_
  replace hB2 := hB2.chg hC (by first | (show ¬ _ = _; omega) | (intro k_ hk_; simp [Value.ownBlock] at hk_; subst hk_; show ¬ _ = _; omega))
  replace hcw := hcw.next hC (fun i_ hi_ => by first | exact .inl hi_ | (right; subst hi_; omega))
  have hz_w3 := hC.size
  clear hC
  refine sc _ Tryd.func52 rfl (by kernel_rfl) rfl rfl ((text_ok g m.toNat r _ hB h1).mono ?_)
  clear hB
  rintro e_ w4 ⟨rfl, hB, hC⟩
  refine cR ?_
  replace hB2 := hB2.chg hC (by first | (show ¬ _ = _; omega) | (intro k_ hk_; simp [Value.ownBlock] at hk_; subst hk_; show ¬ _ = _; omega))
  replace hcw := hcw.next hC (fun i_ hi_ => by first | exact .inl hi_ | (right; subst hi_; omega))
  have hz_w4 := hC.size
  clear hC
  rw [hnm]
  rw [hr1] at hB
  refine st (X.bld rfl (bcol _ _ _ _)) rfl ?_
  refine salA inf60 rfl (fun g5 w5 hB5 hg5 hb hl5 => ?_)
  replace hcw := hcw.then_below hb
  replace hB := hB.bel hb
  replace hB2 := hB2.bel hb
  have hz_w5 := hb.size
  clear hb
  refine ssBN rfl rfl hB5 siz60 rfl rfl (fun w6 hB_ hc_ => ?_)
  replace hB5 := hB_
  clear hB_
  replace hB := hB.chg hc_ (by first | (show ¬ _ = _; omega) | (intro k_ hk_; simp [Value.ownBlock] at hk_; subst hk_; show ¬ _ = _; omega))
  replace hB2 := hB2.chg hc_ (by first | (show ¬ _ = _; omega) | (intro k_ hk_; simp [Value.ownBlock] at hk_; subst hk_; show ¬ _ = _; omega))
  replace hcw := hcw.next hc_ (fun i_ hi_ => by first | exact .inl hi_ | (right; subst hi_; omega))
  have hz_w6 := hc_.size
  clear hc_
  refine Wn ?_
  refine tN ?_
  refine W_rs ?_
  refine sm rfl rfl ?_
  refine sc _ Tryd.func41 rfl (by kernel_rfl) rfl rfl ((number_any g r1 _ hB h2).mono ?_)
  clear hB
  rintro e_ w7 ⟨rfl, hB, hC⟩
  refine cR ?_
  replace hB2 := hB2.chg hC (by first | (show ¬ _ = _; omega) | (intro k_ hk_; simp [Value.ownBlock] at hk_; subst hk_; show ¬ _ = _; omega))
  replace hB5 := hB5.chg hC (by first | (show ¬ _ = _; omega) | (intro k_ hk_; simp [Value.ownBlock] at hk_; subst hk_; show ¬ _ = _; omega))
  replace hcw := hcw.next hC (fun i_ hi_ => by first | exact .inl hi_ | (right; subst hi_; omega))
  have hz_w7 := hC.size
  clear hC
  rw [hr2] at hB
  refine sa rfl rfl ?_
  refine Wn ?_
  refine tN ?_
  refine W_seq ?_
  refine W_rs ?_
  refine sm rfl rfl ?_
  refine sm rfl rfl ?_
  refine st (X.nilChk rfl) rfl ?_
  refine st (X.fa fa99_0 rfl) rfl ?_
  refine st (X.ldB rfl hB Tryd.underlying9 rfl rfl) rfl ?_
  refine st (X.lenS rfl rfl Tryd.underlying9) rfl ?_
  refine st (X.quo64 rfl rfl (by omega) (by omega) (by omega)) rfl ?_
  refine st (X.gtr rfl rfl) rfl ?_
  refine Wn ?_
  refine tN ?_
  refine W_yes rfl (decide_eq_true (by rw [div36]; omega)) ?_
  refine W_reg ?_
  refine st (X.bld rfl (mk_missing _)) rfl ?_
  refine st (X.mkI rfl (mi_missing _)) rfl ?_
  refine sp rfl ?_
  refine (tP ?_)
  exact ⟨rfl, hcw⟩
/-- the whole function -/
def ColPost (w : World) (g : Nat) (o : Option (Col × List Chk × List UInt8)) (e : Ending) (w' : World) : Prop :=
  Chg (fun k => k = g) w w' ∧ match o with
  | some (c, l, q) => ∃ v, e = .returned (.tuple #[.agg c.cells.toArray, v]) ∧ Row w' 55 33 v l.length (l.flatMap Chk.cells) ∧ (∀ k, v.ownBlock = some k → w.heap.size ≤ k) ∧ Blk w' g 99 #[str q]
  | none => e = .panicked missing
theorem column_any (g : Nat) (s : List UInt8) (w : World) (hB : Blk w g 99 #[str s]) (hs : s.length < 1000000) :
    Calls Tryd.prog 43 #[.pointer (some ⟨g, 0, none⟩)] w (ColPost w g (colP s)) := by
  match s, hB, hs with
  | [], hB, _ => exact (column_no0 g w hB).mono fun e w' ⟨h1, h2⟩ => ⟨h2, h1⟩
  | [k], hB, _ => exact (column_no1 g k w hB).mono fun e w' ⟨h1, h2⟩ => ⟨h2, h1⟩
  | k :: m :: r, hB, hs =>
    simp only [List.length_cons] at hs
    simp only [colP]
    by_cases h1 : m.toNat ≤ r.length
    · rw [if_pos h1]
      by_cases h2 : 4 ≤ (r.drop m.toNat).length
      · rw [if_pos h2]
        by_cases h3 : num (r.drop m.toNat) ≤ ((r.drop m.toNat).drop 4).length / 36
        · rw [if_pos h3]
          refine (column_core g k m r _ _ _ _ w hB (by omega) h1 rfl rfl h2 rfl rfl (by omega)).mono fun e w' h => ?_
          obtain ⟨v, he, hR, ho, hB', hC⟩ := h
          refine ⟨hC, v, he, ?_, ho, hB'⟩
          rw [chksOf_length]
          exact hR
        · rw [if_neg h3]
          exact (column_no4 g k m r _ _ _ w hB (by omega) h1 rfl rfl h2 rfl h3).mono fun e w' ⟨h1, h2⟩ => ⟨h2, h1⟩
      · rw [if_neg h2]
        exact (column_no3 g k m r _ _ w hB h1 rfl rfl (by omega)).mono fun e w' ⟨h1, h2⟩ => ⟨h2, h1⟩
    · rw [if_neg h1]
      exact (column_no2 g k m r w hB (by omega)).mono fun e w' ⟨h1, h2⟩ => ⟨h2, h1⟩
end Go.Proofs.YtnagmpnpgekhfaaDoor
