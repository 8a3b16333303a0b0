/- disk: kept, crash of a file. -/
import Derived.Test.YtnijmegalgoipaaDoorDiskG
import Derived.Test.YtnijmegalgoipaaDoorRowsRow
import Derived.Test.YtnijmegalgoipaaDoorFloatW
namespace Go.Proofs.YtnijmegalgoipaaDoor
open Go.RowKit
theorem pend_take {l : List (Nat × List UInt8)} {j : Nat} {x : Nat × List UInt8} (h : l[j]? = some x) : pendLen (l.take (j + 1)) = pendLen (l.take j) + x.2.length := by
  rw [take_next' h, pendLen_append]
  simp [pendLen]
theorem pend_drop {l : List (Nat × List UInt8)} {j : Nat} {x : Nat × List UInt8} (h : l[j]? = some x) : l.drop j = x :: l.drop (j + 1) := by
  obtain ⟨hj, rfl⟩ := List.getElem?_eq_some_iff.1 h
  exact List.drop_eq_getElem_cons hj
theorem pendLen_le_take (l : List (Nat × List UInt8)) (j : Nat) : pendLen (l.take j) ≤ pendLen l := by
  conv => rhs; rw [← List.take_append_drop j l, pendLen_append]
  omega
theorem mod_twice (p n : Int) : (p.tmod n + n) % n = p % n := by
  rw [Int.tmod_def, Int.add_emod_right]
  rw [Int.sub_eq_add_neg, ← Int.mul_neg, Int.add_mul_emod_self_left]
theorem kept_any (g : Nat) (vl vn vp : Value) (f : FileD) (pick : Int) (w : World) (hB : Blk w g 95 #[vl, vn, vp]) (hP : Row w 109 2 vp f.pend.length (f.pend.flatMap putCells)) (hl : pendLen f.pend ≤ 1099511627776) :
    Calls Tryd.prog 61 #[.pointer (some ⟨g, 0, none⟩), .int .i64 pick] w fun e w' => e = .returned (.int .i64 (keptM f pick)) ∧ Below w.heap.size w w' := by
  obtain ⟨a, c, rfl, hc1, hc2⟩ := hP.shape
  have hnn := hP.nle
  obtain ⟨l, hfl⟩ : ∃ l, f.pend = l := ⟨_, rfl⟩
  unfold keptM
  rw [hfl] at hP hB hl hc1 hnn ⊢
  refine W_enter (args := [.pointer (some ⟨g, 0, none⟩), .int .i64 pick]) 30 Tryd.func61 rfl rfl rfl ?_
  refine W_sub [(0, .pointer (some ⟨g, 0, none⟩)), (1, .int .i64 pick)] ?_ ⟨rfl, rfl, trivial⟩
  have hbw := Below.refl w.heap.size w
  refine W_rs ?_
  refine sa rfl rfl ?_
  refine Wn ?_
  refine tN ?_
  refine W_rs ?_
  refine sa rfl rfl ?_
  refine Wn ?_
  refine tN ?_
  refine W_seq ?_
  refine W_rs ?_
  refine sm rfl rfl ?_
  refine st (X.nilChk rfl) rfl ?_
  refine st (X.fa fa95_2 rfl) rfl ?_
  refine st (X.ldL rfl hB Tryd.underlying93 rfl rfl) rfl ?_
  refine st (X.lenL rfl rfl Tryd.underlying93) rfl ?_
  refine sm rfl rfl ?_
  refine Wn ?_
  refine tN ?_
  refine W_block ?_
  refine W_lp (fun nw1_ lw1_ w1 => ∃ j : Nat, nw1_ = l.length - j ∧ lw1_ = ([(1, .int .i64 pick), (5, .int .i64 (1 + (pendLen (l.take j) : Nat))), (11, .slice a l.length c), (12, .int .i64 l.length), (13, .int .i64 j)] : Env) ∧ (j ≤ l.length) ∧ (Below w.heap.size w w1) ∧ (Row w1 109 2 (.slice a l.length c) l.length (l.flatMap putCells))) _ ⟨_, ⟨0, rfl, rfl, by omega, hbw, hP.bel hbw⟩, ⟨rfl, rfl, rfl, rfl, rfl, trivial⟩⟩ ?_
  clear hbw
  rintro nw1_ lw1_ w1 ⟨j, rfl, rfl, hj, hbw, hP⟩
  have hz_w1 := hbw.size
  refine W_rs ?_
  refine st (X.lss rfl rfl) rfl ?_
  refine Wn ?_
  refine tN ?_
  refine W_seq ?_
  refine W_if rfl (fun h14 => ?_) (fun h14 => ?_)
  · first | replace h14 := of_decide_eq_true h14 | replace h14 := of_decide_eq_false (notT h14) | replace h14 := notT h14 | skip
    obtain ⟨x, hx⟩ : ∃ x, l[j]? = some x := ⟨_, List.getElem?_eq_getElem (by omega)⟩
    obtain ⟨g1, o1, c', hv, hg1⟩ := hP.reads.some_ (by omega)
    injection hv with e1 _ e3
    subst e1 e3
    have hle := pendLen_le_take l (j + 1)
    rw [pend_take hx] at hle
    refine W_skip ?_
    refine tN ?_
    refine W_seq ?_
    refine W_block ?_
    refine W_rs ?_
    refine st (X.idxA rfl rfl Tryd.underlying93 siz109 rfl (by omega)) rfl ?_
    refine st (X.ldN (cs := putCells x) rfl Tryd.underlying109 rfl siz109 (hP.reads.rec_ (fun p _ => putCells_length p) hx)) rfl ?_
    refine salA inf109 rfl (fun g7 w2 hB7 hg7 hb hl7 => ?_)
    have hpend := hb
    replace hbw := bthen hbw hb
    have hz_w2 := hb.size
    clear hb
    refine ssBN rfl rfl hB7 siz109 rfl rfl (fun w3 hB_ hc_ => ?_)
    replace hB7 := hB_
    clear hB_
    replace hpend := bset hpend hc_ (by omega)
    replace hbw := bset hbw hc_ (by omega)
    have hz_w3 := hc_.size
    clear hc_
    refine Wn ?_
    refine tN ?_
    refine W_reg ?_
    refine sm rfl rfl ?_
    refine st (X.fa fa109_1 rfl) rfl ?_
    refine st (X.ldL rfl hB7 Tryd.underlying9 rfl rfl) rfl ?_
    refine st (X.lenS (s := x.2) rfl rfl Tryd.underlying9) rfl ?_
    refine st (X.add64 rfl rfl (by omega)) rfl ?_
    refine sa rfl rfl ?_
    refine Wn ?_
    refine bN ?_
    refine tN ?_
    refine W_reg ?_
    refine st (X.add64 rfl rfl (by omega)) rfl ?_
    refine sm rfl rfl ?_
    refine Wn ?_
    replace hP := hP.bel hpend
    clear hpend
    refine tN ⟨_, _, ?_, ⟨j + 1, rfl, rfl, by omega, hbw, hP⟩, ⟨rfl, by rw [pend_take hx, Int.natCast_add, Int.add_assoc]; rfl, rfl, rfl, rfl, trivial⟩⟩
    omega
  · first | replace h14 := of_decide_eq_false h14 | replace h14 := of_decide_eq_true (notF h14) | replace h14 := notF h14 | skip
    obtain rfl : j = l.length := by omega
    rw [List.take_length]
    have ht1 := Int.tmod_lt_of_pos pick (b := 1 + (pendLen l : Nat)) (by omega)
    have ht2 := Int.lt_tmod_of_pos pick (b := 1 + (pendLen l : Nat)) (by omega)
    obtain ⟨q, hq⟩ : ∃ q, pick.tmod (1 + (pendLen l : Nat)) = q := ⟨_, rfl⟩
    rw [hq] at ht1 ht2
    refine W_exit (tE (tE (bH ?_)))
    refine tN ?_
    refine W_rs ?_
    refine sm rfl rfl ?_
    refine sm rfl rfl ?_
    refine st (X.rem rfl rfl (by omega) hq) rfl ?_
    refine sm rfl rfl ?_
    refine st (X.add64 rfl rfl (by omega)) rfl ?_
    refine sm rfl rfl ?_
    refine st (X.rem64 rfl rfl (by omega) (by omega)) rfl ?_
    refine sa rfl rfl ?_
    refine Wn ?_
    refine tN ?_
    refine W_ret ?_
    refine (rT rfl rfl ⟨?_, hbw⟩).1
    have h5 := Int.emod_nonneg pick (b := 1 + (pendLen l : Nat)) (by omega)
    rw [← hq, mod_twice, show ((pendLen l + 1 : Nat) : Int) = 1 + (pendLen l : Nat) by omega, Int.toNat_of_nonneg h5]
theorem take_min' {α : Type} (l : List α) (k : Nat) : l.take (min k l.length) = l.take k := by
  rcases Nat.le_total k l.length with h | h
  · rw [Nat.min_eq_left h]
  · rw [Nat.min_eq_right h, List.take_length, List.take_of_length_le h]
set_option maxRecDepth 10000 in
theorem crash_any (r : FRec) (keep : Nat) (w : World) (h : FileAt w r) (hpl : pendLen r.f.pend ≤ 1099511627776) (hll : r.f.last.length ≤ 1099511627776) (hkp : keep ≤ 4398046511104) :
    Calls Tryd.prog 60 #[.pointer (some ⟨r.blk, 0, none⟩), .int .i64 keep] w fun e w' => e = .returned (.tuple #[]) ∧ ∃ r', FileAt w' r' ∧ r'.blk = r.blk ∧ r'.f = crashM r.f keep ∧ (∀ k, r'.owns k → r.owns k ∨ w.heap.size ≤ k) ∧ Chg r.owns w w' := by
  have hF := h.blk
  have hLa := h.last
  have hPe := h.pend
  have hflt := hF.lt
  obtain ⟨ap, cp, hvp, hcp, hcp2⟩ := hPe.shape
  obtain ⟨al, cl, hvl, hcl, hcl2⟩ := hLa.shape
  have hnn := hPe.nle
  obtain ⟨l, hfl⟩ : ∃ l, r.f.pend = l := ⟨_, rfl⟩
  rw [hfl] at hPe hpl hcp hnn hvp
  rw [hvl] at hF hLa
  rw [hvp] at hF hPe
  refine W_enter (args := [.pointer (some ⟨r.blk, 0, none⟩), .int .i64 keep]) 55 Tryd.func60 rfl rfl rfl ?_
  refine W_sub [(0, .pointer (some ⟨r.blk, 0, none⟩)), (1, .int .i64 keep)] ?_ ⟨rfl, rfl, trivial⟩
  have hcw := Chg.refl (r.owns) w
  refine W_seq ?_
  refine W_rs ?_
  refine sm rfl rfl ?_
  refine st (X.nilChk rfl) rfl ?_
  refine st (X.fa fa95_2 rfl) rfl ?_
  refine st (X.ldL rfl hF Tryd.underlying93 rfl rfl) rfl ?_
  refine st (X.lenL rfl rfl Tryd.underlying93) rfl ?_
  refine sm rfl rfl ?_
  refine Wn ?_
  refine tN ?_
  refine W_block ?_
  refine W_lp (fun nw1_ lw1_ w1 => ∃ j : Nat, ∃ a1 : Option Addr, ∃ c1 : Nat, ∃ s : List UInt8, ∃ kp : Nat, nw1_ = l.length - j ∧ lw1_ = ([(0, .pointer (some ⟨r.blk, 0, none⟩)), (1, .int .i64 kp), (10, .slice ap l.length cp), (11, .int .i64 l.length), (12, .int .i64 j)] : Env) ∧ (j ≤ l.length) ∧ (kp ≤ 4398046511104) ∧ (s.length + pendLen (l.drop j) ≤ 4398046511104) ∧ (crashBytes r.f.last l keep = crashBytes s (l.drop j) kp) ∧ (Chg r.owns w w1) ∧ (Blk w1 r.blk 95 #[.slice a1 s.length c1, r.vn, .slice ap l.length cp]) ∧ (Row w1 5 1 (.slice a1 s.length c1) s.length (s.map bv)) ∧ (Row w1 109 2 (.slice ap l.length cp) l.length (l.flatMap putCells)) ∧ (∀ k, (Value.slice a1 s.length c1).ownBlock = some k → r.vl.ownBlock = some k ∨ w.heap.size ≤ k)) _ ⟨_, ⟨0, al, cl, r.f.last, keep, rfl, rfl, by omega, hkp, by rw [List.drop_zero]; omega, by rw [List.drop_zero], hcw, hF, hLa, hPe, fun k hk => .inl (by rw [hvl]; exact hk)⟩, ⟨rfl, rfl, rfl, rfl, rfl, trivial⟩⟩ ?_
  clear hcw hF hLa hPe
  rintro nw1_ lw1_ w1 ⟨j, a1, c1, s, kp, rfl, rfl, hj, hkb, hsl, heq, hcw, hF, hLa, hPe, hO⟩
  have hlt_hF_w1 := hF.lt
  have hzc := hcw.size
  refine W_rs ?_
  refine st (X.lss rfl rfl) rfl ?_
  refine Wn ?_
  refine tN ?_
  refine W_seq ?_
  refine W_if rfl (fun h13 => ?_) (fun h13 => ?_)
  · first | replace h13 := of_decide_eq_true h13 | replace h13 := of_decide_eq_false (notT h13) | replace h13 := notT h13 | skip
    obtain ⟨x, hx⟩ : ∃ x, l[j]? = some x := ⟨_, List.getElem?_eq_getElem (by omega)⟩
    obtain ⟨g1, o1, c', hv, hg1⟩ := hPe.reads.some_ (by omega)
    injection hv with e1 _ e3
    subst e1 e3
    have hdj := pend_drop hx
    rw [hdj] at heq hsl
    have hptl : (x.2.take (min kp x.2.length)).length = min kp x.2.length := by rw [List.length_take]; omega
    have hsl3 : s.length + (x.2.length + pendLen (l.drop (j + 1))) ≤ 4398046511104 := hsl
    refine W_skip ?_
    refine tN ?_
    refine W_seq ?_
    refine W_block ?_
    refine W_rs ?_
    refine st (X.idxA rfl rfl Tryd.underlying93 siz109 rfl (by omega)) rfl ?_
    refine st (X.ldN (cs := putCells x) rfl Tryd.underlying109 rfl siz109 (hPe.reads.rec_ (fun p _ => putCells_length p) hx)) rfl ?_
    refine salA inf109 rfl (fun g5 w2 hB5 hg5 hb hl5 => ?_)
    have hpend := hb
    replace hcw := hcw.then_below hb
    replace hF := hF.bel hb
    have hz_w2 := hb.size
    clear hb
    refine ssBN rfl rfl hB5 siz109 rfl rfl (fun w3 hB_ hc_ => ?_)
    replace hB5 := hB_
    clear hB_
    replace hpend := bset hpend hc_ (by omega)
    replace hF := hF.chg hc_ (by first | (show ¬ _ = _; omega) | (intro k_ hk_; simp [Value.ownBlock] at hk_; subst hk_; show ¬ _ = _; omega))
    replace hcw := hcw.next hc_ (fun i_ hi_ => by first | exact .inl hi_ | (right; subst hi_; omega))
    have hz_w3 := hc_.size
    clear hc_
    refine Wn ?_
    refine tN ?_
    refine W_rs ?_
    refine st (X.fa fa109_1 rfl) rfl ?_
    refine st (X.ldL rfl hB5 Tryd.underlying9 rfl rfl) rfl ?_
    refine sm rfl rfl ?_
    refine st (X.fa fa109_1 rfl) rfl ?_
    refine st (X.ldL rfl hB5 Tryd.underlying9 rfl rfl) rfl ?_
    refine st (X.lenS (s := x.2) rfl rfl Tryd.underlying9) rfl ?_
    refine st (X.min2 (r := (min kp x.2.length : Nat)) rfl rfl (by split <;> omega)) rfl ?_
    refine st (X.toS (s := x.2) rfl rfl Tryd.underlying9 rfl (by omega)) rfl ?_
    refine sa rfl rfl ?_
    refine Wn ?_
    refine tN ?_
    refine W_rs ?_
    refine sm rfl rfl ?_
    refine sm rfl rfl ?_
    refine st (X.lenS rfl rfl Tryd.underlying9) rfl ?_
    refine st (X.sub64 rfl rfl (by omega)) rfl ?_
    refine sa rfl rfl ?_
    refine Wn ?_
    refine tN ?_
    refine W_float 14 (by kernel_rfl) (by kernel_rfl) ?_
    obtain ⟨w4, hw_⟩ : ∃ w4 : World, w4 = World.drew w3 := ⟨_, rfl⟩
    rw [← hw_]
    have hb : Below w3.heap.size w3 w4 := by rw [hw_]; exact bdrew (Below.refl _ _)
    clear hw_
    replace hpend := bthen hpend hb
    replace hcw := hcw.then_below hb
    replace hF := hF.bel hb
    replace hB5 := hB5.bel hb
    have hz_w4 := hb.size
    clear hb
    refine fY (X.move rfl) rfl ?_
    refine fY (X.move rfl) rfl ?_
    refine fY (X.nilChk rfl) rfl ?_
    refine fY (X.fa fa95_0 rfl) rfl ?_
    refine fY (X.ldL rfl hF Tryd.underlying92 rfl rfl) rfl ?_
    refine fY (X.fa fa109_0 rfl) rfl ?_
    refine fY (X.ldL rfl hB5 Tryd.underlying3 rfl rfl) rfl ?_
    refine fY (X.move rfl) rfl ?_
    refine fY (X.nilChk rfl) rfl ?_
    refine fY (X.fa fa95_0 rfl) rfl ?_
    refine fY (X.ldL rfl hF Tryd.underlying92 rfl rfl) rfl ?_
    refine fY (X.lenL rfl rfl Tryd.underlying92) rfl ?_
    refine fY (X.min2 (r := (min x.1 s.length : Nat)) rfl rfl (by split <;> omega)) rfl ?_
    refine fY (X.move rfl) rfl ?_
    refine fN ?_
    replace hPe := hPe.bel hpend
    replace hLa := hLa.bel hpend
    clear hpend
    refine sc _ Tryd.func86 rfl (by kernel_rfl) rfl rfl ((over_any _ s (min x.1 s.length) (x.2.take (min kp x.2.length)) _ hLa (by omega) (by omega) (by omega)).mono ?_)
    rintro e_ w5 ⟨v', rfl, hR4, hC4, hO4⟩
    refine cR ?_
    obtain ⟨a2, c2, rfl, hc4, _⟩ := hR4.shape
    have hzc4 := hcw.size
    have hF4 := hF.chg hC4 (fun e => hLa.ne2 hF (by decide) _ e rfl)
    have hPe4 := hPe.chg hC4 (fun k hk => hPe.apart_ hLa (by decide) k hk)
    have hcw4 := hcw.next hC4 (fun i hi => (hO i hi).imp (fun e => .inr (.inl e)) id)
    have hO5 : ∀ k, (Value.slice a2 (overM s (min x.1 s.length) (x.2.take (min kp x.2.length))).length c2).ownBlock = some k → r.vl.ownBlock = some k ∨ w.heap.size ≤ k := fun k hk => (hO4 k hk).elim (hO k) (fun e => .inr (by omega))
    clear hF hPe hLa hcw hO
    refine st (X.nilChk rfl) rfl ?_
    refine st (X.fa fa95_0 rfl) rfl ?_
    refine ssB rfl rfl hF4 siz92 rfl (by simp) (fun w6 hF hC5 => ?_)
    have hcw := hcw4.next hC5 (fun i hi => .inl (.inl hi))
    have hLa := hR4.chg hC5 (hR4.ne2 hF4 (by decide))
    have hPe := hPe4.chg hC5 (hPe4.ne2 hF4 (by decide))
    have hO := hO5
    clear hcw4 hF4 hPe4 hR4 hO5
    have hol := overM_length (l := s) (at_ := min x.1 s.length) (d := x.2.take (min kp x.2.length)) (by omega)
    have hsl2 : (overM s (min x.1 s.length) (x.2.take (min kp x.2.length))).length + pendLen (l.drop (j + 1)) ≤ 4398046511104 := by omega
    have heq2 : crashBytes r.f.last l keep = crashBytes (overM s (min x.1 s.length) (x.2.take (min kp x.2.length))) (l.drop (j + 1)) (kp - min kp x.2.length) := by
      rw [heq, take_min']
      rfl
    refine Wn ?_
    refine nN ?_
    refine bN ?_
    refine tN ?_
    refine W_reg ?_
    refine st (X.add64 rfl rfl (by omega)) rfl ?_
    refine sm rfl rfl ?_
    refine Wn ?_
    refine tN ⟨_, _, ?_, ⟨j + 1, a2, c2, overM s (min x.1 s.length) (x.2.take (min kp x.2.length)), kp - min kp x.2.length, rfl, rfl, by omega, by omega, hsl2, heq2, hcw, hF, hLa, hPe, hO⟩, ⟨rfl, by rw [show ((kp - min kp x.2.length : Nat) : Int) = (kp : Int) - ((x.2.take (min kp x.2.length)).length : Nat) by omega]; rfl, rfl, rfl, rfl, trivial⟩⟩
    omega
  · first | replace h13 := of_decide_eq_false h13 | replace h13 := of_decide_eq_true (notF h13) | replace h13 := notF h13 | skip
    obtain rfl : j = l.length := by omega
    have heq' : s = crashBytes r.f.last l keep := by
      rw [heq, List.drop_length]
      rfl
    refine W_exit (tE (tE (bH ?_)))
    refine tN ?_
    refine W_rs ?_
    refine sm rfl rfl ?_
    refine sm rfl rfl ?_
    refine st (X.nilChk rfl) rfl ?_
    refine st (X.fa fa95_0 rfl) rfl ?_
    refine st (X.ldL rfl hF Tryd.underlying92 rfl rfl) rfl ?_
    refine st (X.nilChk rfl) rfl ?_
    refine st (X.fa fa95_1 rfl) rfl ?_
    refine ssB rfl rfl hF siz92 hLa.one1 (by simp) (fun w7 hF6 hC6 => ?_)
    have hcw6 := hcw.next hC6 (fun i hi => .inl (.inl hi))
    have hLa6 := hLa.chg hC6 (hLa.ne2 hF (by decide))
    have hzc6 := hcw6.size
    clear hF hLa hPe hcw
    have hcw := hcw6
    have hF := hF6
    refine Wn ?_
    refine tN ?_
    refine W_reg ?_
    refine sm rfl rfl ?_
    refine sc _ Tryd.func59 rfl (by kernel_rfl) rfl rfl ((lasts_any r.blk _ _ _ s _ hF6 hLa6 (by have := hsl; omega)).mono ?_)
    rintro e_ w8 ⟨rfl, vl', hF7, hV7, hN7, hO7, hC7⟩
    refine cR ?_
    clear hcw hF
    have hcw := hcw6.next hC7 (fun i hi => .inl (.inl hi))
    have hF := hF7
    have hcr : crashM r.f keep = ⟨s, s, []⟩ := by rw [crashM, hfl, ← heq']
    have hap : ∀ k, vl'.ownBlock = some k → (Value.slice a1 s.length c1).ownBlock ≠ some k := fun k hk hk2 => by
      obtain ⟨cs, fz, e⟩ := hLa6.heap_cells hk2
      have := (Array.getElem?_eq_some_iff.1 e).1
      have := hO7 k hk
      omega
    have how : ∀ k, FRec.owns ⟨r.blk, vl', .slice a1 s.length c1, .slice none 0 0, ⟨s, s, []⟩⟩ k → r.owns k ∨ w.heap.size ≤ k := by
      rintro k (hk | hk | hk | hk)
      · exact .inl (.inl hk)
      · exact .inr (by have := hO7 k hk; omega)
      · exact (hO k hk).imp (fun e => .inr (.inl e)) id
      · simp [Value.ownBlock] at hk
    refine Wn ?_
    exact (r0 rfl ⟨rfl, ⟨r.blk, vl', .slice a1 s.length c1, .slice none 0 0, ⟨s, s, []⟩⟩, ⟨hF7, hV7, hN7, Row.nil _ _ _, hap⟩, rfl, hcr.symm, how, hcw⟩).2
end Go.Proofs.YtnijmegalgoipaaDoor
