/- armariumref01: New, Stop, Create, Remove, Rename. -/
import Derived.Test.YtnijmegalgoipaaGreatDoorRefD3
namespace Go.Proofs.YtnijmegalgoipaaGreatDoor
open Go.RowKit
theorem bRDisk (n : Int) (w : World) : (Instr.build 83 #[(1, .int .i64 n)]).run Tryz.prog w = .ok (.agg #[.slice none 0 0, .int .i64 n, .int .i64 0, .bool false, .int .i64 0]) w := by kernel_rfl
theorem bRFile (n : Key) (w : World) : (Instr.build 92 #[(0, str n)]).run Tryz.prog w = .ok (.agg #[str n, str [], .slice none 0 0]) w := by kernel_rfl
theorem RNew_ok (n : Int) (w : World) (hn : 0 ≤ n ∧ n ≤ 16777216) :
    Calls Tryz.prog 10 #[.int .i64 n] w fun e w' => ∃ g S, e = .returned (.tuple #[.pointer (some ⟨g, 0, none⟩), .int .i64 0]) ∧ RDisk w' g (newM n) S ∧ (∀ k, S k → w.heap.size ≤ k ∧ k < w'.heap.size) ∧ Below w.heap.size w w' := by
  refine W_enter (args := [.int .i64 n]) 13 Tryz.func10 rfl rfl rfl ?_
  refine W_sub [(0, .int .i64 n)] ?_ ⟨rfl, trivial⟩
  have hbw := Below.refl w.heap.size w
  refine W_rs ?_
  refine sa rfl rfl ?_
  refine sa rfl rfl ?_
  refine Wn ?_
  refine tN ?_
  refine W_seq ?_
  refine W_rs ?_
  refine sm rfl rfl ?_
  refine st (X.lss rfl rfl) rfl ?_
  refine sbN rfl (decide_eq_false (by omega)) rfl ?_
  refine gY (g := 6) rfl rfl rfl ?_
  refine sm rfl rfl ?_
  refine gY (g := 6) rfl rfl rfl ?_
  refine st (X.gtr rfl rfl) rfl ?_
  refine st (X.pickF rfl rfl) rfl ?_
  refine Wn ?_
  refine tN ?_
  refine W_no rfl (decide_eq_false (by omega)) ?_
  refine W_skip ?_
  refine tN ?_
  refine W_rs ?_
  refine sm rfl rfl ?_
  refine st (X.bld rfl (bRDisk n _)) rfl ?_
  refine sboxA rfl rfl (fun g12 w1 hB12 hg12 hb hl12 => ?_)
  replace hbw := bthen hbw hb
  have hz_w1 := hb.size
  clear hb
  refine sa rfl rfl ?_
  refine sa rfl rfl ?_
  refine Wn ?_
  refine tN ?_
  refine W_ret ?_
  exact (rTT rfl rfl rfl ⟨g12, fun k => k = g12, rfl, ⟨_, [], ⟨hB12, Row.nil _ _ _, rfl, fun r hr => by cases hr⟩, List.Pairwise.nil, rfl, fun k hk => by simp [Value.ownBlock] at hk, fun r hr => by cases hr⟩, fun k hk => by subst hk; omega, hbw⟩).1
theorem RNew_bad (n : Int) (w : World) (hn : ¬ (0 ≤ n ∧ n ≤ 16777216)) :
    Calls Tryz.prog 10 #[.int .i64 n] w fun e w' => e = .returned (.tuple #[.pointer none, .int .i64 1]) ∧ Below w.heap.size w w' := by
  by_cases h0 : n < 0
  · skip
    refine W_enter (args := [.int .i64 n]) 13 Tryz.func10 rfl rfl rfl ?_
    refine W_sub [(0, .int .i64 n)] ?_ ⟨rfl, trivial⟩
    have hbw := Below.refl w.heap.size w
    refine W_rs ?_
    refine sa rfl rfl ?_
    refine sa rfl rfl ?_
    refine Wn ?_
    refine tN ?_
    refine W_seq ?_
    refine W_rs ?_
    refine sm rfl rfl ?_
    refine st (X.lss rfl rfl) rfl ?_
    refine sbY rfl (decide_eq_true h0) rfl ?_
    refine gN (g := 6) rfl rfl rfl rfl ?_
    refine gN (g := 6) rfl rfl rfl rfl ?_
    refine st (X.pickT rfl rfl) rfl ?_
    refine Wn ?_
    refine tN ?_
    refine W_yes rfl (rfl) ?_
    refine W_rs ?_
    refine sa rfl rfl ?_
    refine sa rfl rfl ?_
    refine Wn ?_
    refine tN ?_
    refine W_ret (tR ?_)
    exact (rTT rfl rfl rfl ⟨rfl, hbw⟩).1
  · skip
    refine W_enter (args := [.int .i64 n]) 13 Tryz.func10 rfl rfl rfl ?_
    refine W_sub [(0, .int .i64 n)] ?_ ⟨rfl, trivial⟩
    have hbw := Below.refl w.heap.size w
    refine W_rs ?_
    refine sa rfl rfl ?_
    refine sa rfl rfl ?_
    refine Wn ?_
    refine tN ?_
    refine W_seq ?_
    refine W_rs ?_
    refine sm rfl rfl ?_
    refine st (X.lss rfl rfl) rfl ?_
    refine sbN rfl (decide_eq_false h0) rfl ?_
    refine gY (g := 6) rfl rfl rfl ?_
    refine sm rfl rfl ?_
    refine gY (g := 6) rfl rfl rfl ?_
    refine st (X.gtr rfl rfl) rfl ?_
    refine st (X.pickF rfl rfl) rfl ?_
    refine Wn ?_
    refine tN ?_
    refine W_yes rfl (decide_eq_true (by omega)) ?_
    refine W_rs ?_
    refine sa rfl rfl ?_
    refine sa rfl rfl ?_
    refine Wn ?_
    refine tN ?_
    refine W_ret (tR ?_)
    exact (rTT rfl rfl rfl ⟨rfl, hbw⟩).1
theorem RIn.chg {w w' : World} {g : Nat} {D : DiskD} {vF : Value} {rs : List RRec} {T : Nat → Prop} (h : RIn w g D vF rs) (hC : Chg T w w') (hd : ¬ T g ∧ (∀ k, vF.ownBlock = some k → ¬ T k) ∧ (∀ q ∈ rs, ∀ k, q.v.ownBlock = some k → ¬ T k)) : RIn w' g D vF rs :=
  ⟨h.blk.chg hC hd.1, h.row.chg hC hd.2.1, h.files, fun r hr => (h.rows r hr).chg hC (hd.2.2 r hr)⟩
theorem RApart.others {rs : List RRec} {i : Nat} {r : RRec} (h : RApart rs) (hr : rs[i]? = some r) : ∀ a ∈ delR rs i, ∀ k, a.v.ownBlock = some k → ¬ r.v.ownBlock = some k := by
  have hi := (List.getElem?_eq_some_iff.1 hr).1
  have hp : RApart (rs.take i ++ r :: rs.drop (i + 1)) := by
    have e : rs = rs.take i ++ r :: rs.drop (i + 1) := by
      obtain ⟨_, rfl⟩ := List.getElem?_eq_some_iff.1 hr
      rw [← List.drop_eq_getElem_cons hi, List.take_append_drop]
    rwa [← e]
  obtain ⟨_, h2, h3⟩ := List.pairwise_append.1 hp
  intro a ha k hk e
  rcases List.mem_append.1 ha with ha | ha
  · exact h3 a ha r (List.mem_cons_self ..) k hk e
  · exact (List.pairwise_cons.1 h2).1 a ha k e hk
section
variable (g : Nat) (D : DiskD) (S : Nat → Prop) (w : World) (h : RDisk w g D S)
include h
theorem RStop_any (n : Int) : Calls Tryz.prog 58 #[.pointer (some ⟨g, 0, none⟩), .int .i64 n] w fun e w' => e = .returned (.tuple #[]) ∧ RDisk w' g (stopM D n) S ∧ Chg S w w' := by
  obtain ⟨vF, rs, h, hh⟩ := h
  have hSg := hh.g
  have hB := h.blk
  have hlt := hB.lt
  refine W_enter (args := [.pointer (some ⟨g, 0, none⟩), .int .i64 n]) 13 Tryz.func58 rfl rfl rfl ?_
  refine W_sub [(0, .pointer (some ⟨g, 0, none⟩)), (1, .int .i64 n)] ?_ ⟨rfl, rfl, trivial⟩
  have hcw := Chg.refl (fun k => k = g) w
  refine W_rs ?_
  refine sm rfl rfl ?_
  refine sm rfl rfl ?_
  refine st (X.geq rfl rfl) rfl ?_
  refine st (X.nilChk rfl) rfl ?_
  refine st (X.fa fa83_3 rfl) rfl ?_
  refine ssB rfl rfl hB siz4 rfl (by first | decide | simp) (fun w1 hB_ hc_ => ?_)
  replace hB := hB_
  clear hB_
  replace hcw := hcw.next hc_ (fun i_ hi_ => by first | exact .inl hi_ | exact .inl (.inl hi_) | (right; subst hi_; omega) | (left; subst hi_; show _ ≤ _; omega) | (left; subst hi_; assumption))
  have hz_w1 := hc_.size
  clear hc_
  refine Wn ?_
  refine tN ?_
  refine W_reg ?_
  refine sm rfl rfl ?_
  refine sm rfl rfl ?_
  refine st (X.nilChk rfl) rfl ?_
  refine st (X.fa fa83_4 rfl) rfl ?_
  refine ssB rfl rfl hB siz3 rfl (by first | decide | simp) (fun w2 hB_ hc_ => ?_)
  replace hB := hB_
  clear hB_
  replace hcw := hcw.next hc_ (fun i_ hi_ => by first | exact .inl hi_ | exact .inl (.inl hi_) | (right; subst hi_; omega) | (left; subst hi_; show _ ≤ _; omega) | (left; subst hi_; assumption))
  have hz_w2 := hc_.size
  clear hc_
  refine Wn ?_
  exact (r0 rfl ⟨rfl, ⟨vF, rs, ⟨hB, h.row.chg hcw (h.row.ne2 h.blk (by decide)), h.files, h.rows_chg hcw⟩, hh⟩, hcw.mono (fun k _ e => by rw [show k = g from e]; exact hSg)⟩).2
set_option maxRecDepth 10000 in
theorem RCreate_any (n : Key) (hok : DOk D) (hlen : D.files.length ≤ 900000) (hn : n.length ≤ 9223372036854775807) : Calls Tryz.prog 50 #[.pointer (some ⟨g, 0, none⟩), str n] w (RPost g S w (createM D n)) := by
  have h0 := h
  obtain ⟨vF, rs, h, hh⟩ := h
  have hSg := hh.g
  by_cases hl : D.stops = true ∧ D.left = 0
  · skip
    refine W_enter (args := [.pointer (some ⟨g, 0, none⟩), str n]) 18 Tryz.func50 rfl rfl rfl ?_
    refine W_sub [(0, .pointer (some ⟨g, 0, none⟩)), (1, str n)] ?_ ⟨rfl, rfl, trivial⟩
    have hbw := Below.refl w.heap.size w
    refine W_rs ?_
    refine sa rfl rfl ?_
    refine Wn ?_
    refine tN ?_
    refine W_seq ?_
    refine W_rs ?_
    refine sm rfl rfl ?_
    refine sc _ Tryz.func93 rfl (by kernel_rfl) rfl rfl ((dead_yes g D vF rs _ h hl).mono ?_)
    rintro e_ w_ ⟨rfl, rfl⟩
    refine cR ?_
    refine Wn ?_
    refine tN ?_
    refine W_yes rfl (rfl) ?_
    refine W_rs ?_
    refine sa rfl rfl ?_
    refine Wn ?_
    refine tN ?_
    refine W_ret (tR ?_)
    exact (rT rfl rfl (RPost.same h0 hbw (opM_dead hl _))).1
  obtain ⟨o, ho⟩ := place_ex rs n
  have hok' := tick_ok hok hl
  cases o with
  | some i =>
    refine W_enter (args := [.pointer (some ⟨g, 0, none⟩), str n]) 18 Tryz.func50 rfl rfl rfl ?_
    refine W_sub [(0, .pointer (some ⟨g, 0, none⟩)), (1, str n)] ?_ ⟨rfl, rfl, trivial⟩
    have hcw := Chg.refl (S) w
    refine W_rs ?_
    refine sa rfl rfl ?_
    refine Wn ?_
    refine tN ?_
    refine W_seq ?_
    refine W_rs ?_
    refine sm rfl rfl ?_
    refine sc _ Tryz.func93 rfl (by kernel_rfl) rfl rfl ((dead_no g D vF rs _ h hok hl).mono ?_)
    clear h
    rintro e_ w1 ⟨rfl, h, hC⟩
    refine cR ?_
    replace hcw := hcw.next hC (fun i_ hi_ => by first | exact .inl hi_ | exact .inl (.inl hi_) | (right; subst hi_; omega) | (left; subst hi_; show _ ≤ _; omega) | (left; subst hi_; assumption))
    have hz_w1 := hC.size
    clear hC
    refine Wn ?_
    refine tN ?_
    refine W_no rfl (rfl) ?_
    refine W_skip ?_
    refine tN ?_
    refine W_seq ?_
    refine W_rs ?_
    refine sm rfl rfl ?_
    refine sc _ Tryz.func94 rfl (by kernel_rfl) rfl rfl ((Name_any n _ hn).mono ?_)
    rintro e_ w2 ⟨rfl, hb⟩
    refine cR ?_
    replace hcw := hcw.then_below hb
    replace h := h.bel hb
    have hz_w2 := hb.size
    clear hb
    refine st (X.not rfl) rfl ?_
    refine Wn ?_
    refine tN ?_
    refine W_if rfl (fun h9 => ?_) (fun h9 => ?_)
    · first | replace h9 := of_decide_eq_true h9 | replace h9 := of_decide_eq_false (notT h9) | replace h9 := notT h9 | skip
      refine W_rs ?_
      refine sa rfl rfl ?_
      refine Wn ?_
      refine tN ?_
      refine W_ret (tR ?_)
      exact (rT rfl rfl (RPost.of h hh.ext hcw ((opM_live hl _).trans (if_neg (by rw [h9]; simp))))).1
    · first | replace h9 := of_decide_eq_false h9 | replace h9 := of_decide_eq_true (notF h9) | replace h9 := notF h9 | skip
      refine W_skip ?_
      refine tN ?_
      refine W_seq ?_
      refine W_rs ?_
      refine sm rfl rfl ?_
      refine sm rfl rfl ?_
      refine sc _ Tryz.func95 rfl (by kernel_rfl) rfl rfl ((place_any g (tickM D) vF rs n (some i) _ h ho).mono ?_)
      rintro e_ w_ ⟨rfl, rfl⟩
      refine cR ?_
      refine st (X.geq rfl rfl) rfl ?_
      refine Wn ?_
      refine tN ?_
      refine W_yes rfl (decide_eq_true (by show (0 : Int) ≤ (i : Int); omega)) ?_
      refine W_rs ?_
      refine sa rfl rfl ?_
      refine Wn ?_
      refine tN ?_
      refine W_ret (tR ?_)
      obtain ⟨r, _, _, hg, _⟩ := h.get_some hok' ho
      exact (rT rfl rfl (RPost.of h hh.ext hcw ((opM_live hl _).trans ((if_pos h9).trans (if_pos (by rw [hg]; rfl)))))).1
  | none =>
    refine W_enter (args := [.pointer (some ⟨g, 0, none⟩), str n]) 18 Tryz.func50 rfl rfl rfl ?_
    refine W_sub [(0, .pointer (some ⟨g, 0, none⟩)), (1, str n)] ?_ ⟨rfl, rfl, trivial⟩
    have hcw := Chg.refl (S) w
    refine W_rs ?_
    refine sa rfl rfl ?_
    refine Wn ?_
    refine tN ?_
    refine W_seq ?_
    refine W_rs ?_
    refine sm rfl rfl ?_
    refine sc _ Tryz.func93 rfl (by kernel_rfl) rfl rfl ((dead_no g D vF rs _ h hok hl).mono ?_)
    clear h
    rintro e_ w1 ⟨rfl, h, hC⟩
    refine cR ?_
    replace hcw := hcw.next hC (fun i_ hi_ => by first | exact .inl hi_ | exact .inl (.inl hi_) | (right; subst hi_; omega) | (left; subst hi_; show _ ≤ _; omega) | (left; subst hi_; assumption))
    have hz_w1 := hC.size
    clear hC
    refine Wn ?_
    refine tN ?_
    refine W_no rfl (rfl) ?_
    refine W_skip ?_
    refine tN ?_
    refine W_seq ?_
    refine W_rs ?_
    refine sm rfl rfl ?_
    refine sc _ Tryz.func94 rfl (by kernel_rfl) rfl rfl ((Name_any n _ hn).mono ?_)
    rintro e_ w2 ⟨rfl, hb⟩
    refine cR ?_
    replace hcw := hcw.then_below hb
    replace h := h.bel hb
    have hz_w2 := hb.size
    clear hb
    refine st (X.not rfl) rfl ?_
    refine Wn ?_
    refine tN ?_
    refine W_if rfl (fun h9 => ?_) (fun h9 => ?_)
    · first | replace h9 := of_decide_eq_true h9 | replace h9 := of_decide_eq_false (notT h9) | replace h9 := notT h9 | skip
      refine W_rs ?_
      refine sa rfl rfl ?_
      refine Wn ?_
      refine tN ?_
      refine W_ret (tR ?_)
      exact (rT rfl rfl (RPost.of h hh.ext hcw ((opM_live hl _).trans (if_neg (by rw [h9]; simp))))).1
    · first | replace h9 := of_decide_eq_false h9 | replace h9 := of_decide_eq_true (notF h9) | replace h9 := notF h9 | skip
      refine W_skip ?_
      refine tN ?_
      refine W_seq ?_
      refine W_rs ?_
      refine sm rfl rfl ?_
      refine sm rfl rfl ?_
      refine sc _ Tryz.func95 rfl (by kernel_rfl) rfl rfl ((place_any g (tickM D) vF rs n none _ h ho).mono ?_)
      rintro e_ w_ ⟨rfl, rfl⟩
      refine cR ?_
      refine st (X.geq rfl rfl) rfl ?_
      refine Wn ?_
      refine tN ?_
      refine W_no rfl (rfl) ?_
      refine W_skip ?_
      refine tN ?_
      refine W_rs ?_
      refine sm rfl rfl ?_
      refine sm rfl rfl ?_
      refine st (X.bld rfl (bRFile n _)) rfl ?_
      refine sc _ Tryz.func96 rfl (by kernel_rfl) rfl rfl ((put_any' g (tickM D) vF rs ⟨n, newFile, .slice none 0 0⟩ _ h rfl (by rw [h.len, tick_files]; omega)).mono ?_)
      rintro e_ w3 ⟨rfl, vo, hB2, hR2, hvo, hX⟩
      refine cR ?_
      have hgn := h.get_none ho
      have h2 := h.put (r := ⟨n, newFile, .slice none 0 0⟩) (Row.nil _ _ _) ho hB2 hR2 hX (tickM D).used
      have hz_w3 := hX.size
      have hzc := hcw.size
      have hh2 : RHas g vo (insR rs ⟨n, newFile, .slice none 0 0⟩) (Ext S w w3) := ⟨insR_apart hh.apart (fun a _ k _ e => by simp [Value.ownBlock] at e), .inl hSg, fun k hk => .inr ⟨by have := hvo k hk; omega, hR2.lt k hk⟩, fun q hq k hk => by
        rcases insR_mem hq with rfl | hq
        · simp [Value.ownBlock] at hk
        · exact .inl (hh.v q hq k hk)⟩
      replace hcw := hcw.next hX (fun i hi => .inl (by rw [show i = g from hi]; exact hSg))
      refine Wn ?_
      refine tN ?_
      refine W_rs ?_
      refine sa rfl rfl ?_
      refine Wn ?_
      refine tN ?_
      refine W_ret ?_
      exact (rT rfl rfl (RPost.of h2 hh2 hcw ((opM_live hl _).trans ((if_pos h9).trans (if_neg (by rw [hgn]; simp)))))).1
set_option maxRecDepth 10000 in
theorem RRemove_any (n : Key) (hok : DOk D) (hlen : D.files.length ≤ 900000) : Calls Tryz.prog 55 #[.pointer (some ⟨g, 0, none⟩), str n] w (RPost g S w (removeM D n)) := by
  have h0 := h
  obtain ⟨vF, rs, h, hh⟩ := h
  have hSg := hh.g
  by_cases hl : D.stops = true ∧ D.left = 0
  · skip
    refine W_enter (args := [.pointer (some ⟨g, 0, none⟩), str n]) 16 Tryz.func55 rfl rfl rfl ?_
    refine W_sub [(0, .pointer (some ⟨g, 0, none⟩)), (1, str n)] ?_ ⟨rfl, rfl, trivial⟩
    have hbw := Below.refl w.heap.size w
    refine W_rs ?_
    refine sa rfl rfl ?_
    refine Wn ?_
    refine tN ?_
    refine W_seq ?_
    refine W_rs ?_
    refine sm rfl rfl ?_
    refine sc _ Tryz.func93 rfl (by kernel_rfl) rfl rfl ((dead_yes g D vF rs _ h hl).mono ?_)
    rintro e_ w_ ⟨rfl, rfl⟩
    refine cR ?_
    refine Wn ?_
    refine tN ?_
    refine W_yes rfl (rfl) ?_
    refine W_rs ?_
    refine sa rfl rfl ?_
    refine Wn ?_
    refine tN ?_
    refine W_ret (tR ?_)
    exact (rT rfl rfl (RPost.same h0 hbw (opM_dead hl _))).1
  obtain ⟨o, ho⟩ := place_ex rs n
  have hok' := tick_ok hok hl
  cases o with
  | none =>
    refine W_enter (args := [.pointer (some ⟨g, 0, none⟩), str n]) 16 Tryz.func55 rfl rfl rfl ?_
    refine W_sub [(0, .pointer (some ⟨g, 0, none⟩)), (1, str n)] ?_ ⟨rfl, rfl, trivial⟩
    have hcw := Chg.refl (S) w
    refine W_rs ?_
    refine sa rfl rfl ?_
    refine Wn ?_
    refine tN ?_
    refine W_seq ?_
    refine W_rs ?_
    refine sm rfl rfl ?_
    refine sc _ Tryz.func93 rfl (by kernel_rfl) rfl rfl ((dead_no g D vF rs _ h hok hl).mono ?_)
    clear h
    rintro e_ w1 ⟨rfl, h, hC⟩
    refine cR ?_
    replace hcw := hcw.next hC (fun i_ hi_ => by first | exact .inl hi_ | exact .inl (.inl hi_) | (right; subst hi_; omega) | (left; subst hi_; show _ ≤ _; omega) | (left; subst hi_; assumption))
    have hz_w1 := hC.size
    clear hC
    refine Wn ?_
    refine tN ?_
    refine W_no rfl (rfl) ?_
    refine W_skip ?_
    refine tN ?_
    refine W_rs ?_
    refine sm rfl rfl ?_
    refine sm rfl rfl ?_
    refine sc _ Tryz.func95 rfl (by kernel_rfl) rfl rfl ((place_any g (tickM D) vF rs n none _ h ho).mono ?_)
    rintro e_ w_ ⟨rfl, rfl⟩
    refine cR ?_
    refine sa rfl rfl ?_
    refine Wn ?_
    refine tN ?_
    refine W_seq ?_
    refine W_rs ?_
    refine sm rfl rfl ?_
    refine st (X.lss rfl rfl) rfl ?_
    refine Wn ?_
    refine tN ?_
    refine W_yes rfl (rfl) ?_
    refine W_rs ?_
    refine sa rfl rfl ?_
    refine Wn ?_
    refine tN ?_
    refine W_ret (tR ?_)
    exact (rT rfl rfl (RPost.of h hh.ext hcw ((opM_live hl _).trans (fileM_none (h.get_none ho) _)))).1
  | some i =>
    obtain ⟨⟨r, hr, hrn⟩, hmin⟩ := ho
    refine W_enter (args := [.pointer (some ⟨g, 0, none⟩), str n]) 16 Tryz.func55 rfl rfl rfl ?_
    refine W_sub [(0, .pointer (some ⟨g, 0, none⟩)), (1, str n)] ?_ ⟨rfl, rfl, trivial⟩
    have hcw := Chg.refl (S) w
    refine W_rs ?_
    refine sa rfl rfl ?_
    refine Wn ?_
    refine tN ?_
    refine W_seq ?_
    refine W_rs ?_
    refine sm rfl rfl ?_
    refine sc _ Tryz.func93 rfl (by kernel_rfl) rfl rfl ((dead_no g D vF rs _ h hok hl).mono ?_)
    clear h
    rintro e_ w1 ⟨rfl, h, hC⟩
    refine cR ?_
    replace hcw := hcw.next hC (fun i_ hi_ => by first | exact .inl hi_ | exact .inl (.inl hi_) | (right; subst hi_; omega) | (left; subst hi_; show _ ≤ _; omega) | (left; subst hi_; assumption))
    have hz_w1 := hC.size
    clear hC
    refine Wn ?_
    refine tN ?_
    refine W_no rfl (rfl) ?_
    refine W_skip ?_
    refine tN ?_
    refine W_rs ?_
    refine sm rfl rfl ?_
    refine sm rfl rfl ?_
    refine sc _ Tryz.func95 rfl (by kernel_rfl) rfl rfl ((place_any g (tickM D) vF rs n (some i) _ h ⟨⟨r, hr, hrn⟩, hmin⟩).mono ?_)
    rintro e_ w_ ⟨rfl, rfl⟩
    refine cR ?_
    refine sa rfl rfl ?_
    refine Wn ?_
    refine tN ?_
    refine W_seq ?_
    refine W_rs ?_
    refine sm rfl rfl ?_
    refine st (X.lss rfl rfl) rfl ?_
    refine Wn ?_
    refine tN ?_
    refine W_no rfl (decide_eq_false (by show ¬ (i : Int) < 0; omega)) ?_
    refine W_skip ?_
    refine tN ?_
    refine W_rs ?_
    refine sm rfl rfl ?_
    refine sm rfl rfl ?_
    refine sc _ Tryz.func98 rfl (by kernel_rfl) rfl rfl ((take_any' g (tickM D) vF rs i r _ h hr (by rw [h.len, tick_files]; omega)).mono ?_)
    rintro e_ w2 ⟨rfl, vo, hB2, hR2, hvo, hX⟩
    refine cR ?_
    obtain ⟨_, hgr⟩ := h.fok hok' (List.mem_of_getElem? hr)
    subst hrn
    have h2 := h.del hr hmin hB2 hR2 hX ((tickM D).used - r.f.now.length)
    have hz_w2 := hX.size
    have hzc := hcw.size
    have hh2 : RHas g vo (delR rs i) (Ext S w w2) := ⟨hh.apart.sublist (delR_sub rs i), .inl hSg, fun k hk => .inr ⟨by have := hvo k hk; omega, hR2.lt k hk⟩, fun q hq k hk => .inl (hh.v q (delR_mem hq) k hk)⟩
    replace hcw := hcw.next hX (fun i hi => .inl (by rw [show i = g from hi]; exact hSg))
    refine Wn ?_
    refine tN ?_
    refine W_rs ?_
    refine sa rfl rfl ?_
    refine Wn ?_
    refine tN ?_
    refine W_ret ?_
    exact (rT rfl rfl (RPost.of h2 hh2 hcw ((opM_live hl _).trans (fileM_some hgr _)))).1
set_option maxRecDepth 10000 in
theorem RRename_any (n m : Key) (hok : DOk D) (hlen : D.files.length ≤ 900000) (hm : m.length ≤ 9223372036854775807) : Calls Tryz.prog 54 #[.pointer (some ⟨g, 0, none⟩), str n, str m] w (RPost g S w (renameM D n m)) := by
  have h0 := h
  obtain ⟨vF, rs, h, hh⟩ := h
  have hSg := hh.g
  by_cases hl : D.stops = true ∧ D.left = 0
  · skip
    refine W_enter (args := [.pointer (some ⟨g, 0, none⟩), str n, str m]) 36 Tryz.func54 rfl rfl rfl ?_
    refine W_sub [(0, .pointer (some ⟨g, 0, none⟩)), (1, str n), (2, str m)] ?_ ⟨rfl, rfl, rfl, trivial⟩
    have hbw := Below.refl w.heap.size w
    refine W_rs ?_
    refine sa rfl rfl ?_
    refine Wn ?_
    refine tN ?_
    refine W_seq ?_
    refine W_rs ?_
    refine sm rfl rfl ?_
    refine sc _ Tryz.func93 rfl (by kernel_rfl) rfl rfl ((dead_yes g D vF rs _ h hl).mono ?_)
    rintro e_ w_ ⟨rfl, rfl⟩
    refine cR ?_
    refine Wn ?_
    refine tN ?_
    refine W_yes rfl (rfl) ?_
    refine W_rs ?_
    refine sa rfl rfl ?_
    refine Wn ?_
    refine tN ?_
    refine W_ret (tR ?_)
    exact (rT rfl rfl (RPost.same h0 hbw (opM_dead hl _))).1
  obtain ⟨o, ho⟩ := place_ex rs n
  have hok' := tick_ok hok hl
  cases o with
  | none =>
    refine W_enter (args := [.pointer (some ⟨g, 0, none⟩), str n, str m]) 36 Tryz.func54 rfl rfl rfl ?_
    refine W_sub [(0, .pointer (some ⟨g, 0, none⟩)), (1, str n), (2, str m)] ?_ ⟨rfl, rfl, rfl, trivial⟩
    have hcw := Chg.refl (S) w
    refine W_rs ?_
    refine sa rfl rfl ?_
    refine Wn ?_
    refine tN ?_
    refine W_seq ?_
    refine W_rs ?_
    refine sm rfl rfl ?_
    refine sc _ Tryz.func93 rfl (by kernel_rfl) rfl rfl ((dead_no g D vF rs _ h hok hl).mono ?_)
    clear h
    rintro e_ w1 ⟨rfl, h, hC⟩
    refine cR ?_
    replace hcw := hcw.next hC (fun i_ hi_ => by first | exact .inl hi_ | exact .inl (.inl hi_) | (right; subst hi_; omega) | (left; subst hi_; show _ ≤ _; omega) | (left; subst hi_; assumption))
    have hz_w1 := hC.size
    clear hC
    refine Wn ?_
    refine tN ?_
    refine W_no rfl (rfl) ?_
    refine W_skip ?_
    refine tN ?_
    refine W_seq ?_
    refine W_rs ?_
    refine sm rfl rfl ?_
    refine sc _ Tryz.func94 rfl (by kernel_rfl) rfl rfl ((Name_any m _ hm).mono ?_)
    rintro e_ w2 ⟨rfl, hb⟩
    refine cR ?_
    replace hcw := hcw.then_below hb
    replace h := h.bel hb
    have hz_w2 := hb.size
    clear hb
    refine st (X.not rfl) rfl ?_
    refine Wn ?_
    refine tN ?_
    refine W_if rfl (fun h14 => ?_) (fun h14 => ?_)
    · first | replace h14 := of_decide_eq_true h14 | replace h14 := of_decide_eq_false (notT h14) | replace h14 := notT h14 | skip
      refine W_rs ?_
      refine sa rfl rfl ?_
      refine Wn ?_
      refine tN ?_
      refine W_ret (tR ?_)
      exact (rT rfl rfl (RPost.of h hh.ext hcw ((opM_live hl _).trans (if_neg (by rw [h14]; simp))))).1
    · first | replace h14 := of_decide_eq_false h14 | replace h14 := of_decide_eq_true (notF h14) | replace h14 := notF h14 | skip
      refine W_skip ?_
      refine tN ?_
      refine W_rs ?_
      refine sm rfl rfl ?_
      refine sm rfl rfl ?_
      refine sc _ Tryz.func95 rfl (by kernel_rfl) rfl rfl ((place_any g (tickM D) vF rs n none _ h ho).mono ?_)
      rintro e_ w_ ⟨rfl, rfl⟩
      refine cR ?_
      refine sa rfl rfl ?_
      refine Wn ?_
      refine tN ?_
      refine W_seq ?_
      refine W_rs ?_
      refine sm rfl rfl ?_
      refine st (X.lss rfl rfl) rfl ?_
      refine Wn ?_
      refine tN ?_
      refine W_yes rfl (rfl) ?_
      refine W_rs ?_
      refine sa rfl rfl ?_
      refine Wn ?_
      refine tN ?_
      refine W_ret (tR ?_)
      exact (rT rfl rfl (RPost.of h hh.ext hcw ((opM_live hl _).trans ((if_pos h14).trans (fileM_none (h.get_none ho) _))))).1
  | some i =>
    obtain ⟨⟨r, hr, hrn⟩, hmin⟩ := ho
    obtain ⟨o2, ho2⟩ := place_ex (delR rs i) m
    have h1r := h.ones r (List.mem_of_getElem? hr)
    have hra := hh.apart.others hr
    have hrl : rs.length ≤ 900000 := by rw [h.len]; exact hlen
    have hsrt : Rising (tickM D).files := hok'.srt
    have hren : renameM D n m = (if nameOk m = true then fileM (tickM D) n fun f => if n = m then (0, tickM D) else (0, { tickM D with files := sput (mdel (tickM D).files n) m f, used := (tickM D).used - lenAt (tickM D) m }) else (1, tickM D)) := opM_live hl _
    cases o2 with
    | none =>
      refine W_enter (args := [.pointer (some ⟨g, 0, none⟩), str n, str m]) 36 Tryz.func54 rfl rfl rfl ?_
      refine W_sub [(0, .pointer (some ⟨g, 0, none⟩)), (1, str n), (2, str m)] ?_ ⟨rfl, rfl, rfl, trivial⟩
      have hcw := Chg.refl (S) w
      refine W_rs ?_
      refine sa rfl rfl ?_
      refine Wn ?_
      refine tN ?_
      refine W_seq ?_
      refine W_rs ?_
      refine sm rfl rfl ?_
      refine sc _ Tryz.func93 rfl (by kernel_rfl) rfl rfl ((dead_no g D vF rs _ h hok hl).mono ?_)
      clear h
      rintro e_ w1 ⟨rfl, h, hC⟩
      refine cR ?_
      replace hcw := hcw.next hC (fun i_ hi_ => by first | exact .inl hi_ | exact .inl (.inl hi_) | (right; subst hi_; omega) | (left; subst hi_; show _ ≤ _; omega) | (left; subst hi_; assumption))
      have hz_w1 := hC.size
      clear hC
      refine Wn ?_
      refine tN ?_
      refine W_no rfl (rfl) ?_
      refine W_skip ?_
      refine tN ?_
      refine W_seq ?_
      refine W_rs ?_
      refine sm rfl rfl ?_
      refine sc _ Tryz.func94 rfl (by kernel_rfl) rfl rfl ((Name_any m _ hm).mono ?_)
      rintro e_ w2 ⟨rfl, hb⟩
      refine cR ?_
      replace hcw := hcw.then_below hb
      replace h := h.bel hb
      have hz_w2 := hb.size
      clear hb
      refine st (X.not rfl) rfl ?_
      refine Wn ?_
      refine tN ?_
      refine W_if rfl (fun h14 => ?_) (fun h14 => ?_)
      · first | replace h14 := of_decide_eq_true h14 | replace h14 := of_decide_eq_false (notT h14) | replace h14 := notT h14 | skip
        refine W_rs ?_
        refine sa rfl rfl ?_
        refine Wn ?_
        refine tN ?_
        refine W_ret (tR ?_)
        exact (rT rfl rfl (RPost.of h hh.ext hcw ((opM_live hl _).trans (if_neg (by rw [h14]; simp))))).1
      · first | replace h14 := of_decide_eq_false h14 | replace h14 := of_decide_eq_true (notF h14) | replace h14 := notF h14 | skip
        refine W_skip ?_
        refine tN ?_
        refine W_rs ?_
        refine sm rfl rfl ?_
        refine sm rfl rfl ?_
        refine sc _ Tryz.func95 rfl (by kernel_rfl) rfl rfl ((place_any g (tickM D) vF rs n (some i) _ h ⟨⟨r, hr, hrn⟩, hmin⟩).mono ?_)
        rintro e_ w_ ⟨rfl, rfl⟩
        refine cR ?_
        refine sa rfl rfl ?_
        refine Wn ?_
        refine tN ?_
        refine W_seq ?_
        refine W_rs ?_
        refine sm rfl rfl ?_
        refine st (X.lss rfl rfl) rfl ?_
        refine Wn ?_
        refine tN ?_
        refine W_no rfl (decide_eq_false (by show ¬ (i : Int) < 0; omega)) ?_
        refine W_skip ?_
        refine tN ?_
        refine W_rs ?_
        refine sm rfl rfl ?_
        refine sm rfl rfl ?_
        refine sc _ Tryz.func98 rfl (by kernel_rfl) rfl rfl ((take_any' g (tickM D) vF rs i r _ h hr (by rw [h.len, tick_files]; omega)).mono ?_)
        rintro e_ w3 ⟨rfl, vo, hB2, hR2, hvo, hX⟩
        refine cR ?_
        obtain ⟨_, hgr⟩ := h.fok hok' (List.mem_of_getElem? hr)
        rw [hrn] at hgr
        have h2 := h.del hr (by rw [hrn]; exact hmin) hB2 hR2 hX (tickM D).used
        rw [hrn] at h2
        have hz_w3 := hX.size
        have hzc := hcw.size
        have hRv := (h.rows r (List.mem_of_getElem? hr)).chg hX ((h.rows r (List.mem_of_getElem? hr)).ne2 h.blk (by decide))
        replace hcw := hcw.next hX (fun i hi => .inl (by rw [show i = g from hi]; exact hSg))
        have hlv := hRv.lt
        have hlo := h2.row.lt
        have hlr := fun q hq => (h2.rows q hq).lt
        have hlg := h2.blk.lt
        have hvo2 : ∀ k, vo.ownBlock = some k → w.heap.size ≤ k := fun k hk => by have := hvo k hk; omega
        clear h hB2 hR2 hX hvo
        refine salA inf92 rfl (fun g8 w4 hB8 hg8 hb hl8 => ?_)
        replace hcw := hcw.then_below hb
        replace h2 := h2.bel hb
        replace hRv := hRv.bel hb
        have hz_w4 := hb.size
        clear hb
        have hne8 : ¬ g = g8 ∧ (∀ k, vo.ownBlock = some k → ¬ k = g8) ∧ (∀ q ∈ delR rs i, ∀ k, q.v.ownBlock = some k → ¬ k = g8) := ⟨by omega, fun k hk => by have := hlo k hk; omega, fun q hq k hk => by have := hlr q hq k hk; omega⟩
        have hne9 : ∀ k, r.v.ownBlock = some k → ¬ k = g8 := fun k hk => by have := hlv k hk; omega
        refine ssBN rfl rfl hB8 siz92 rfl (rec_one h1r) (fun w5 hB_ hc_ => ?_)
        replace hB8 := hB_
        clear hB_
        replace h2 := h2.chg hc_ (by first | (show ¬ _ = _; omega) | (intro k_ hk_; simp [Value.ownBlock] at hk_; subst hk_; show ¬ _ = _; omega) | assumption | trivial)
        replace hRv := hRv.chg hc_ (by first | (show ¬ _ = _; omega) | (intro k_ hk_; simp [Value.ownBlock] at hk_; subst hk_; show ¬ _ = _; omega) | assumption | trivial)
        replace hcw := hcw.next hc_ (fun i_ hi_ => by first | exact .inl hi_ | exact .inl (.inl hi_) | (right; subst hi_; omega) | (left; subst hi_; show _ ≤ _; omega) | (left; subst hi_; assumption))
        have hz_w5 := hc_.size
        clear hc_
        have hB8' : Blk w5 g8 92 #[str r.n, str r.f.last, r.v] := hB8
        clear hB8
        have hB8 := hB8'
        clear hB8'
        refine Wn ?_
        refine tN ?_
        refine W_rs ?_
        refine sm rfl rfl ?_
        refine sm rfl rfl ?_
        refine sc _ Tryz.func95 rfl (by kernel_rfl) rfl rfl ((place_any g _ vo (delR rs i) m none _ h2 ho2).mono ?_)
        rintro e_ w_ ⟨rfl, rfl⟩
        refine cR ?_
        refine sa rfl rfl ?_
        refine Wn ?_
        refine tN ?_
        refine W_seq ?_
        refine W_rs ?_
        refine sm rfl rfl ?_
        refine st (X.geq rfl rfl) rfl ?_
        refine Wn ?_
        refine tN ?_
        refine W_no rfl (rfl) ?_
        refine W_skip ?_
        refine tN ?_
        refine W_rs ?_
        refine sm rfl rfl ?_
        refine st (X.fa fa92_0 rfl) rfl ?_
        refine ssB rfl rfl hB8 siz9 rfl (by first | decide | simp) (fun w6 hB_ hc_ => ?_)
        replace hB8 := hB_
        clear hB_
        replace h2 := h2.chg hc_ (by first | (show ¬ _ = _; omega) | (intro k_ hk_; simp [Value.ownBlock] at hk_; subst hk_; show ¬ _ = _; omega) | assumption | trivial)
        replace hRv := hRv.chg hc_ (by first | (show ¬ _ = _; omega) | (intro k_ hk_; simp [Value.ownBlock] at hk_; subst hk_; show ¬ _ = _; omega) | assumption | trivial)
        replace hcw := hcw.next hc_ (fun i_ hi_ => by first | exact .inl hi_ | exact .inl (.inl hi_) | (right; subst hi_; omega) | (left; subst hi_; show _ ≤ _; omega) | (left; subst hi_; assumption))
        have hz_w6 := hc_.size
        clear hc_
        refine Wn ?_
        refine tN ?_
        refine W_rs ?_
        refine sm rfl rfl ?_
        refine st (X.ldBN rfl hB8 Tryz.underlying92 rfl siz92) rfl ?_
        refine sc _ Tryz.func96 rfl (by kernel_rfl) rfl rfl ((put_any' g _ vo (delR rs i) ⟨m, r.f, r.v⟩ _ h2 h1r (by have := (delR_sub rs i).length_le; have := hrl; omega)).mono ?_)
        rintro e_ w7 ⟨rfl, vp, hB3, hR3, hvp, hX⟩
        refine cR ?_
        have h3 := fun u => h2.put (r := ⟨m, r.f, r.v⟩) hRv ho2 hB3 hR3 hX u
        have hz_w7 := hX.size
        have hzc2 := hcw.size
        have hh3 : RHas g vp (insR (delR rs i) ⟨m, r.f, r.v⟩) (Ext S w w7) := ⟨insR_apart (hh.apart.sublist (delR_sub rs i)) hra, .inl hSg, fun k hk => .inr ⟨by have := hvp k hk; omega, hR3.lt k hk⟩, fun q hq k hk => by
          rcases insR_mem hq with rfl | hq
          · exact .inl (hh.v r (List.mem_of_getElem? hr) k hk)
          · exact .inl (hh.v q (delR_mem hq) k hk)⟩
        replace hcw := hcw.next hX (fun i hi => .inl (by rw [show i = g from hi]; exact hSg))
        refine Wn ?_
        refine tN ?_
        refine W_rs ?_
        refine sa rfl rfl ?_
        refine Wn ?_
        refine tN ?_
        refine W_ret ?_
        by_cases hnm : n = m
        · subst hnm
          have h4 := h3 (tickM D).used
          refine (rT rfl rfl (RPost.of (D := tickM D) ?_ hh3 hcw (hren.trans ((if_pos h14).trans ((fileM_some hgr _).trans (if_pos rfl)))))).1
          have e := sput_mdel hsrt hgr r.f
          rw [sput_self hsrt hgr] at e
          simp only [e] at h4
          exact h4
        · exact (rT rfl rfl (RPost.of (h3 _) hh3 hcw (hren.trans ((if_pos h14).trans ((fileM_some hgr _).trans (if_neg hnm)))))).1
    | some k2 =>
      obtain ⟨⟨r2, hr2, hrn2⟩, hmin2⟩ := ho2
      refine W_enter (args := [.pointer (some ⟨g, 0, none⟩), str n, str m]) 36 Tryz.func54 rfl rfl rfl ?_
      refine W_sub [(0, .pointer (some ⟨g, 0, none⟩)), (1, str n), (2, str m)] ?_ ⟨rfl, rfl, rfl, trivial⟩
      have hcw := Chg.refl (S) w
      refine W_rs ?_
      refine sa rfl rfl ?_
      refine Wn ?_
      refine tN ?_
      refine W_seq ?_
      refine W_rs ?_
      refine sm rfl rfl ?_
      refine sc _ Tryz.func93 rfl (by kernel_rfl) rfl rfl ((dead_no g D vF rs _ h hok hl).mono ?_)
      clear h
      rintro e_ w1 ⟨rfl, h, hC⟩
      refine cR ?_
      replace hcw := hcw.next hC (fun i_ hi_ => by first | exact .inl hi_ | exact .inl (.inl hi_) | (right; subst hi_; omega) | (left; subst hi_; show _ ≤ _; omega) | (left; subst hi_; assumption))
      have hz_w1 := hC.size
      clear hC
      refine Wn ?_
      refine tN ?_
      refine W_no rfl (rfl) ?_
      refine W_skip ?_
      refine tN ?_
      refine W_seq ?_
      refine W_rs ?_
      refine sm rfl rfl ?_
      refine sc _ Tryz.func94 rfl (by kernel_rfl) rfl rfl ((Name_any m _ hm).mono ?_)
      rintro e_ w2 ⟨rfl, hb⟩
      refine cR ?_
      replace hcw := hcw.then_below hb
      replace h := h.bel hb
      have hz_w2 := hb.size
      clear hb
      refine st (X.not rfl) rfl ?_
      refine Wn ?_
      refine tN ?_
      refine W_if rfl (fun h14 => ?_) (fun h14 => ?_)
      · first | replace h14 := of_decide_eq_true h14 | replace h14 := of_decide_eq_false (notT h14) | replace h14 := notT h14 | skip
        refine W_rs ?_
        refine sa rfl rfl ?_
        refine Wn ?_
        refine tN ?_
        refine W_ret (tR ?_)
        exact (rT rfl rfl (RPost.of h hh.ext hcw ((opM_live hl _).trans (if_neg (by rw [h14]; simp))))).1
      · first | replace h14 := of_decide_eq_false h14 | replace h14 := of_decide_eq_true (notF h14) | replace h14 := notF h14 | skip
        refine W_skip ?_
        refine tN ?_
        refine W_rs ?_
        refine sm rfl rfl ?_
        refine sm rfl rfl ?_
        refine sc _ Tryz.func95 rfl (by kernel_rfl) rfl rfl ((place_any g (tickM D) vF rs n (some i) _ h ⟨⟨r, hr, hrn⟩, hmin⟩).mono ?_)
        rintro e_ w_ ⟨rfl, rfl⟩
        refine cR ?_
        refine sa rfl rfl ?_
        refine Wn ?_
        refine tN ?_
        refine W_seq ?_
        refine W_rs ?_
        refine sm rfl rfl ?_
        refine st (X.lss rfl rfl) rfl ?_
        refine Wn ?_
        refine tN ?_
        refine W_no rfl (decide_eq_false (by show ¬ (i : Int) < 0; omega)) ?_
        refine W_skip ?_
        refine tN ?_
        refine W_rs ?_
        refine sm rfl rfl ?_
        refine sm rfl rfl ?_
        refine sc _ Tryz.func98 rfl (by kernel_rfl) rfl rfl ((take_any' g (tickM D) vF rs i r _ h hr (by rw [h.len, tick_files]; omega)).mono ?_)
        rintro e_ w3 ⟨rfl, vo, hB2, hR2, hvo, hX⟩
        refine cR ?_
        obtain ⟨_, hgr⟩ := h.fok hok' (List.mem_of_getElem? hr)
        rw [hrn] at hgr
        have h2 := h.del hr (by rw [hrn]; exact hmin) hB2 hR2 hX (tickM D).used
        rw [hrn] at h2
        have hz_w3 := hX.size
        have hzc := hcw.size
        have hRv := (h.rows r (List.mem_of_getElem? hr)).chg hX ((h.rows r (List.mem_of_getElem? hr)).ne2 h.blk (by decide))
        replace hcw := hcw.next hX (fun i hi => .inl (by rw [show i = g from hi]; exact hSg))
        have hlv := hRv.lt
        have hlo := h2.row.lt
        have hlr := fun q hq => (h2.rows q hq).lt
        have hlg := h2.blk.lt
        have hvo2 : ∀ k, vo.ownBlock = some k → w.heap.size ≤ k := fun k hk => by have := hvo k hk; omega
        clear h hB2 hR2 hX hvo
        refine salA inf92 rfl (fun g8 w4 hB8 hg8 hb hl8 => ?_)
        replace hcw := hcw.then_below hb
        replace h2 := h2.bel hb
        replace hRv := hRv.bel hb
        have hz_w4 := hb.size
        clear hb
        have hne8 : ¬ g = g8 ∧ (∀ k, vo.ownBlock = some k → ¬ k = g8) ∧ (∀ q ∈ delR rs i, ∀ k, q.v.ownBlock = some k → ¬ k = g8) := ⟨by omega, fun k hk => by have := hlo k hk; omega, fun q hq k hk => by have := hlr q hq k hk; omega⟩
        have hne9 : ∀ k, r.v.ownBlock = some k → ¬ k = g8 := fun k hk => by have := hlv k hk; omega
        refine ssBN rfl rfl hB8 siz92 rfl (rec_one h1r) (fun w5 hB_ hc_ => ?_)
        replace hB8 := hB_
        clear hB_
        replace h2 := h2.chg hc_ (by first | (show ¬ _ = _; omega) | (intro k_ hk_; simp [Value.ownBlock] at hk_; subst hk_; show ¬ _ = _; omega) | assumption | trivial)
        replace hRv := hRv.chg hc_ (by first | (show ¬ _ = _; omega) | (intro k_ hk_; simp [Value.ownBlock] at hk_; subst hk_; show ¬ _ = _; omega) | assumption | trivial)
        replace hcw := hcw.next hc_ (fun i_ hi_ => by first | exact .inl hi_ | exact .inl (.inl hi_) | (right; subst hi_; omega) | (left; subst hi_; show _ ≤ _; omega) | (left; subst hi_; assumption))
        have hz_w5 := hc_.size
        clear hc_
        have hB8' : Blk w5 g8 92 #[str r.n, str r.f.last, r.v] := hB8
        clear hB8
        have hB8 := hB8'
        clear hB8'
        refine Wn ?_
        refine tN ?_
        refine W_rs ?_
        refine sm rfl rfl ?_
        refine sm rfl rfl ?_
        refine sc _ Tryz.func95 rfl (by kernel_rfl) rfl rfl ((place_any g _ vo (delR rs i) m (some k2) _ h2 ⟨⟨r2, hr2, hrn2⟩, hmin2⟩).mono ?_)
        rintro e_ w_ ⟨rfl, rfl⟩
        refine cR ?_
        refine sa rfl rfl ?_
        refine Wn ?_
        refine tN ?_
        refine W_seq ?_
        refine W_rs ?_
        refine sm rfl rfl ?_
        refine st (X.geq rfl rfl) rfl ?_
        refine Wn ?_
        refine tN ?_
        refine W_yes rfl (decide_eq_true (by show (0 : Int) ≤ (k2 : Int); omega)) ?_
        refine W_reg ?_
        refine sm rfl rfl ?_
        refine sm rfl rfl ?_
        refine sc _ Tryz.func98 rfl (by kernel_rfl) rfl rfl ((take_any' g _ vo (delR rs i) k2 r2 _ h2 hr2 (by have := (delR_sub rs i).length_le; have := hrl; omega)).mono ?_)
        rintro e_ w6 ⟨rfl, vq, hB3, hR3, hvq, hX⟩
        refine cR ?_
        have h3 := h2.del hr2 (by rw [hrn2]; exact hmin2) hB3 hR3 hX (tickM D).used
        rw [hrn2] at h3
        simp only at h3
        have hlq := hR3.lt
        have hRv' := hRv.chg hX (hRv.ne2 h2.blk (by decide))
        have hB8' := hB8.chg hX (fun e => hne8.1 (show g8 = g from e).symm)
        have hz_w6 := hX.size
        have hzc2 := hcw.size
        replace hcw := hcw.next hX (fun i hi => .inl (by rw [show i = g from hi]; exact hSg))
        have hneq : ¬ g = g8 ∧ (∀ k, vq.ownBlock = some k → ¬ k = g8) ∧ (∀ q ∈ delR (delR rs i) k2, ∀ k, q.v.ownBlock = some k → ¬ k = g8) := ⟨hne8.1, fun k hk => by have := hvq k hk; have := hB8.lt; omega, fun q hq k hk => hne8.2.2 q (delR_mem hq) k hk⟩
        have hnk : ∀ a ∈ delR (delR rs i) k2, a.n ≠ m := fun a ha e => by
          have hm1 : (a.n, a.f) ∈ mdel (mdel (tickM D).files n) m := by have e := h3.files; simp only at e; rw [← e]; exact List.mem_map.2 ⟨a, ha, rfl⟩
          have hg1 := mget_mdel (hsrt.del n).nodup m m
          rw [if_pos rfl, mget_none] at hg1
          exact hg1 (List.mem_map.2 ⟨_, hm1, e⟩)
        have hg2 : mget (mdel (tickM D).files n) m = some r2.f := by
          have e := h2.files
          simp only at e
          refine mget_of_mem (hsrt.del n).nodup ?_
          rw [← e]
          exact List.mem_map.2 ⟨r2, List.mem_of_getElem? hr2, by rw [hrn2]⟩
        clear h2 hRv hB8 hX hB3 hR3
        have hRv := hRv'
        have hB8 := hB8'
        clear hRv' hB8'
        refine Wn ?_
        refine tN ?_
        refine W_rs ?_
        refine sm rfl rfl ?_
        refine st (X.fa fa92_0 rfl) rfl ?_
        refine ssB rfl rfl hB8 siz9 rfl (by first | decide | simp) (fun w7 hB_ hc_ => ?_)
        replace hB8 := hB_
        clear hB_
        replace hRv := hRv.chg hc_ (by first | (show ¬ _ = _; omega) | (intro k_ hk_; simp [Value.ownBlock] at hk_; subst hk_; show ¬ _ = _; omega) | assumption | trivial)
        replace h3 := h3.chg hc_ (by first | (show ¬ _ = _; omega) | (intro k_ hk_; simp [Value.ownBlock] at hk_; subst hk_; show ¬ _ = _; omega) | assumption | trivial)
        replace hcw := hcw.next hc_ (fun i_ hi_ => by first | exact .inl hi_ | exact .inl (.inl hi_) | (right; subst hi_; omega) | (left; subst hi_; show _ ≤ _; omega) | (left; subst hi_; assumption))
        have hz_w7 := hc_.size
        clear hc_
        refine Wn ?_
        refine tN ?_
        refine W_rs ?_
        refine sm rfl rfl ?_
        refine st (X.ldBN rfl hB8 Tryz.underlying92 rfl siz92) rfl ?_
        refine sc _ Tryz.func96 rfl (by kernel_rfl) rfl rfl ((put_any' g _ vq (delR (delR rs i) k2) ⟨m, r.f, r.v⟩ _ h3 h1r (by have := (delR_sub rs i).length_le; have := (delR_sub (delR rs i) k2).length_le; have := hrl; omega)).mono ?_)
        rintro e_ w8 ⟨rfl, vp, hB3, hR3, hvp, hX⟩
        refine cR ?_
        have h4 := fun u => h3.put (r := ⟨m, r.f, r.v⟩) hRv hnk hB3 hR3 hX u
        have hz_w8 := hX.size
        have hzc3 := hcw.size
        have hh3 : RHas g vp (insR (delR (delR rs i) k2) ⟨m, r.f, r.v⟩) (Ext S w w8) := ⟨insR_apart ((hh.apart.sublist (delR_sub rs i)).sublist (delR_sub _ k2)) (fun a ha => hra a (delR_mem ha)), .inl hSg, fun k hk => .inr ⟨by have := hvp k hk; omega, hR3.lt k hk⟩, fun q hq k hk => by
          rcases insR_mem hq with rfl | hq
          · exact .inl (hh.v r (List.mem_of_getElem? hr) k hk)
          · exact .inl (hh.v q (delR_mem (delR_mem hq)) k hk)⟩
        replace hcw := hcw.next hX (fun i hi => .inl (by rw [show i = g from hi]; exact hSg))
        refine Wn ?_
        refine tN ?_
        refine W_rs ?_
        refine sa rfl rfl ?_
        refine Wn ?_
        refine tN ?_
        refine W_ret ?_
        have hnm : n ≠ m := fun e => by subst e; rw [mget_mdel hsrt.nodup, if_pos rfl] at hg2; cases hg2
        have e := sput_mdel (hsrt.del n) hg2 r.f
        simp only [e] at h4
        exact (rT rfl rfl (RPost.of (h4 _) hh3 hcw (hren.trans ((if_pos h14).trans ((fileM_some hgr _).trans (if_neg hnm)))))).1
end
end Go.Proofs.YtnijmegalgoipaaGreatDoor
