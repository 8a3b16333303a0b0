/- disk: Create, Rename, Remove, Rot. -/
import Derived.Test.YtnijmegalgoipaaDoorDiskE
namespace Go.Proofs.YtnijmegalgoipaaDoor
open Go.RowKit
theorem Chg.bel {S : Nat → Prop} {w w' w'' : World} (h : Chg S w w') (hb : Below w'.heap.size w' w'') : Chg S w w'' := h.then_below hb
theorem bfile (w : World) : (Instr.build 95 #[]).run Tryd.prog w = .ok (.agg #[.slice none 0 0, .slice none 0 0, .slice none 0 0]) w := by kernel_rfl
theorem look_ptr {rs : List (Key × FRec)} {n : Key} {o : Option Nat} (h : (mget rs n).map FRec.blk = o) : ((mget (rs.map fun p => (p.1, p.2.blk)) n).map encPtr).getD (.pointer none) = .pointer (o.map fun g => ⟨g, 0, none⟩) := by
  rw [mget_map, h]
  cases o <;> rfl
theorem Create_any (g : Nat) (D : DiskD) (S : Nat → Prop) (n : Key) (w : World) (h : DiskAt w g D S) (hok : DOk D) :
    Calls Tryd.prog 25 #[.pointer (some ⟨g, 0, none⟩), str n] w (DPost g S w (createM D n)) := by
  have h0 := h
  obtain ⟨b, rs, h⟩ := h
  by_cases hl : D.stops = true ∧ D.left = 0
  · skip
    refine W_enter (args := [.pointer (some ⟨g, 0, none⟩), str n]) 30 Tryd.func25 rfl rfl rfl ?_
    refine W_sub [(0, .pointer (some ⟨g, 0, none⟩)), (1, str n)] ?_ ⟨rfl, rfl, trivial⟩
    have hbw := Below.refl w.heap.size w
    refine W_rs ?_
    refine sa rfl rfl ?_
    refine Wn ?_
    refine tN ?_
    refine W_seq ?_
    refine W_rs ?_
    refine sm rfl rfl ?_
    refine sc _ Tryd.func55 rfl (by kernel_rfl) rfl rfl ((ready_dead g b D _ (h.bel hbw).blk hl).mono ?_)
    rintro e_ w1 ⟨rfl, hb⟩
    refine cR ?_
    replace hbw := bthen hbw hb
    have hz_w1 := hb.size
    clear hb
    refine sa rfl rfl ?_
    refine Wn ?_
    refine tN ?_
    refine W_rs ?_
    refine sm rfl rfl ?_
    refine st (X.neq rfl rfl) rfl ?_
    refine Wn ?_
    refine tN ?_
    refine W_yes rfl (rfl) ?_
    refine W_rs ?_
    refine sm rfl rfl ?_
    refine sa rfl rfl ?_
    refine Wn ?_
    refine tN ?_
    refine W_ret (tR ?_)
    exact (rT rfl rfl (DPost.same h0 hbw (opM_dead hl _))).1
  have hok' := tick_ok hok hl
  cases hr : mget rs n with
  | some r =>
    have hf : mget D.files n = some r.f := by rw [h.files, hr]; rfl
    have hv := look_ptr (rs := rs) (n := n) (o := some r.blk) (by rw [hr]; rfl)
    refine W_enter (args := [.pointer (some ⟨g, 0, none⟩), str n]) 30 Tryd.func25 rfl rfl rfl ?_
    refine W_sub [(0, .pointer (some ⟨g, 0, none⟩)), (1, str n)] ?_ ⟨rfl, rfl, trivial⟩
    refine W_rs ?_
    refine sa rfl rfl ?_
    refine Wn ?_
    refine tN ?_
    refine W_seq ?_
    refine W_rs ?_
    refine sm rfl rfl ?_
    refine sc _ Tryd.func55 rfl (by kernel_rfl) rfl rfl ((ready_live g b D rs S _ h hok hl).mono ?_)
    rintro e_ w1 ⟨rfl, h1_, hC1_⟩
    refine cR ?_
    have h1 := h1_
    have hC1 := hC1_.g h.inS.1
    have hB : Blk w1 g 88 #[.map (some b), .int .i64 (tickM D).limit, .int .i64 (tickM D).used, .int .i64 (tickM D).refused, .bool (tickM D).stops, .int .i64 (tickM D).left] := h1.blk
    clear h1_ hC1_
    refine sa rfl rfl ?_
    refine Wn ?_
    refine tN ?_
    refine W_rs ?_
    refine sm rfl rfl ?_
    refine st (X.neq rfl rfl) rfl ?_
    refine Wn ?_
    refine tN ?_
    refine W_no rfl (rfl) ?_
    refine W_skip ?_
    refine tN ?_
    refine W_seq ?_
    refine W_block ?_
    refine W_rs ?_
    refine sm rfl rfl ?_
    refine sc _ Tryd.func56 rfl (by kernel_rfl) rfl rfl ((named_any n _).mono ?_)
    rintro e_ w2 ⟨rfl, hb⟩
    refine cR ?_
    replace h1 := h1.bel hb
    replace hB := hB.bel hb
    replace hC1 := hC1.bel hb
    have hz_w2 := hb.size
    clear hb
    refine st (X.not rfl) rfl ?_
    refine sa rfl rfl ?_
    refine Wn ?_
    refine tN ?_
    refine W_if rfl (fun h11 => ?_) (fun h11 => ?_)
    · first | replace h11 := of_decide_eq_true h11 | replace h11 := of_decide_eq_false (notT h11) | replace h11 := notT h11 | skip
      refine W_rs ?_
      refine sa rfl rfl ?_
      refine Wn ?_
      refine tN ?_
      refine W_ret (bR (tR ?_))
      refine (rT rfl rfl (DPost.of h1 hC1 ((opM_live hl _).trans ?_))).1
      exact if_neg (by simp [h11])
    · first | replace h11 := of_decide_eq_false h11 | replace h11 := of_decide_eq_true (notF h11) | replace h11 := notF h11 | skip
      refine W_rs ?_
      refine sm rfl rfl ?_
      refine st (X.nilChk rfl) rfl ?_
      refine st (X.fa fa88_0 rfl) rfl ?_
      refine st (X.ldL rfl hB Tryd.underlying86 rfl rfl) rfl ?_
      refine sm rfl rfl ?_
      refine st (v := .pointer (some ⟨r.blk, 0, none⟩)) (hv ▸ X.look (keyStr Tryd.underlying9) rfl n rfl Tryd.underlying86 (zptr _) h1.map) rfl ?_
      refine st (X.fNe rfl) rfl ?_
      refine sa rfl rfl ?_
      refine Wn ?_
      refine tN ?_
      refine W_yes rfl (rfl) ?_
      refine W_rs ?_
      refine sa rfl rfl ?_
      refine Wn ?_
      refine tN ?_
      refine W_ret (bR (tR ?_))
      refine (rT rfl rfl (DPost.of h1 hC1 ((opM_live hl _).trans ?_))).1
      rw [if_pos (by simpa using h11), if_pos (by rw [tick_get hf]; rfl)]
  | none =>
    have hf : mget D.files n = none := by rw [h.files, hr]; rfl
    have hv := look_ptr (rs := rs) (n := n) (o := none) (by rw [hr]; rfl)
    refine W_enter (args := [.pointer (some ⟨g, 0, none⟩), str n]) 30 Tryd.func25 rfl rfl rfl ?_
    refine W_sub [(0, .pointer (some ⟨g, 0, none⟩)), (1, str n)] ?_ ⟨rfl, rfl, trivial⟩
    refine W_rs ?_
    refine sa rfl rfl ?_
    refine Wn ?_
    refine tN ?_
    refine W_seq ?_
    refine W_rs ?_
    refine sm rfl rfl ?_
    refine sc _ Tryd.func55 rfl (by kernel_rfl) rfl rfl ((ready_live g b D rs S _ h hok hl).mono ?_)
    rintro e_ w1 ⟨rfl, h1_, hC1_⟩
    refine cR ?_
    have h1 := h1_
    have hC1 := hC1_.g h.inS.1
    have hB : Blk w1 g 88 #[.map (some b), .int .i64 (tickM D).limit, .int .i64 (tickM D).used, .int .i64 (tickM D).refused, .bool (tickM D).stops, .int .i64 (tickM D).left] := h1.blk
    clear h1_ hC1_
    refine sa rfl rfl ?_
    refine Wn ?_
    refine tN ?_
    refine W_rs ?_
    refine sm rfl rfl ?_
    refine st (X.neq rfl rfl) rfl ?_
    refine Wn ?_
    refine tN ?_
    refine W_no rfl (rfl) ?_
    refine W_skip ?_
    refine tN ?_
    refine W_seq ?_
    refine W_block ?_
    refine W_rs ?_
    refine sm rfl rfl ?_
    refine sc _ Tryd.func56 rfl (by kernel_rfl) rfl rfl ((named_any n _).mono ?_)
    rintro e_ w2 ⟨rfl, hb⟩
    refine cR ?_
    replace h1 := h1.bel hb
    replace hB := hB.bel hb
    replace hC1 := hC1.bel hb
    have hz_w2 := hb.size
    clear hb
    refine st (X.not rfl) rfl ?_
    refine sa rfl rfl ?_
    refine Wn ?_
    refine tN ?_
    refine W_if rfl (fun h11 => ?_) (fun h11 => ?_)
    · first | replace h11 := of_decide_eq_true h11 | replace h11 := of_decide_eq_false (notT h11) | replace h11 := notT h11 | skip
      refine W_rs ?_
      refine sa rfl rfl ?_
      refine Wn ?_
      refine tN ?_
      refine W_ret (bR (tR ?_))
      refine (rT rfl rfl (DPost.of h1 hC1 ((opM_live hl _).trans ?_))).1
      exact if_neg (by simp [h11])
    · first | replace h11 := of_decide_eq_false h11 | replace h11 := of_decide_eq_true (notF h11) | replace h11 := notF h11 | skip
      refine W_rs ?_
      refine sm rfl rfl ?_
      refine st (X.nilChk rfl) rfl ?_
      refine st (X.fa fa88_0 rfl) rfl ?_
      refine st (X.ldL rfl hB Tryd.underlying86 rfl rfl) rfl ?_
      refine sm rfl rfl ?_
      refine st (v := .pointer none) (hv ▸ X.look (keyStr Tryd.underlying9) rfl n rfl Tryd.underlying86 (zptr _) h1.map) rfl ?_
      refine st (X.fNe rfl) rfl ?_
      refine sa rfl rfl ?_
      refine Wn ?_
      refine tN ?_
      refine W_no rfl (rfl) ?_
      refine W_skip ?_
      refine bN ?_
      refine tN ?_
      refine W_rs ?_
      refine sm rfl rfl ?_
      refine st (X.nilChk rfl) rfl ?_
      refine st (X.fa fa88_0 rfl) rfl ?_
      refine st (X.ldL rfl hB Tryd.underlying86 rfl rfl) rfl ?_
      refine sm rfl rfl ?_
      refine st (X.bld rfl (bfile _)) rfl ?_
      refine sboxA rfl rfl (fun g29 w3 hB29 hg29 hb hl29 => ?_)
      refine smu (keyStr Tryd.underlying9) rfl n g29 rfl rfl Tryd.underlying86 (h1.map.bel hb) (fun w4 hM2 hC2 => ?_)
      refine Wn ?_
      refine tN ?_
      refine W_rs ?_
      refine sa rfl rfl ?_
      refine Wn ?_
      refine tN ?_
      refine W_ret ?_
      have hbl := h1.map.lt
      have hcx := (Chg.of_below hb (fun k => k = g ∨ k = b)).next hC2 (fun i hi => .inl (.inr hi))
      refine (rT rfl rfl (DPost.up (x := (0, { tickM D with files := sput (tickM D).files n newFile })) hC1 ⟨b, _, h1.add (r' := ⟨g29, .slice none 0 0, .slice none 0 0, .slice none 0 0, newFile⟩) hcx ((h1.blk.belowAll hb).chg hC2 h1.gb) hM2 (fun m => mget_sput hok'.srt n _ m) ⟨hB29.chg hC2 (by omega), Row.nil _ _ _, Row.nil _ _ _, Row.nil _ _ _, fun k hk => by simp [Value.ownBlock] at hk⟩ ?_⟩ (hcx.mono (fun k _ hk => hk.elim (fun e => e ▸ h.inS.1) (fun e => e ▸ h.inS.2))) ((opM_live hl _).trans ?_))).1
      · rintro k (e | e | e | e)
        · subst e
          exact hg29
        all_goals simp [Value.ownBlock] at e
      · rw [if_pos (by simpa using h11), if_neg (by rw [tick_get hf]; simp)]
theorem Create_nil (n : Key) (w : World) : Calls Tryd.prog 25 #[.pointer none, str n] w fun e w' => e = .returned (.int .i64 2) ∧ Below w.heap.size w w' := by
  refine W_enter (args := [.pointer none, str n]) 30 Tryd.func25 rfl rfl rfl ?_
  refine W_sub [(0, .pointer none), (1, str n)] ?_ ⟨rfl, rfl, trivial⟩
  have hbw := Below.refl w.heap.size w
  refine W_rs ?_
  refine sa rfl rfl ?_
  refine Wn ?_
  refine tN ?_
  refine W_seq ?_
  refine W_rs ?_
  refine sm rfl rfl ?_
  refine sc _ Tryd.func55 rfl (by kernel_rfl) rfl rfl ((ready_nil _).mono ?_)
  rintro e_ w1 ⟨rfl, hb⟩
  refine cR ?_
  replace hbw := bthen hbw hb
  have hz_w1 := hb.size
  clear hb
  refine sa rfl rfl ?_
  refine Wn ?_
  refine tN ?_
  refine W_rs ?_
  refine sm rfl rfl ?_
  refine st (X.neq rfl rfl) rfl ?_
  refine Wn ?_
  refine tN ?_
  refine W_yes rfl (rfl) ?_
  refine W_rs ?_
  refine sm rfl rfl ?_
  refine sa rfl rfl ?_
  refine Wn ?_
  refine tN ?_
  refine W_ret (tR ?_)
  exact (rT rfl rfl ⟨rfl, hbw⟩).1
end Go.Proofs.YtnijmegalgoipaaDoor
