/- disk: Create, Append, Write, Sync. -/
import Derived.Test.YtnijmegalgoipaaDoorDiskD
namespace Go.Proofs.YtnijmegalgoipaaDoor
open Go.RowKit
theorem Chg.g {S : Nat → Prop} {w w' : World} {g : Nat} (h : Chg (fun k => k = g) w w') (hg : S g) : Chg S w w' := h.mono (fun k _ hk => by rw [hk]; exact hg)
/- ---------- Append ---------- -/
theorem Append_any (g : Nat) (D : DiskD) (S : Nat → Prop) (n : Key) (d : List UInt8) (w : World) (h : DiskAt w g D S) (hok : DOk D) (hbud : DBud D) (hd : d.length ≤ 1099511627776) :
    Calls Tryd.prog 26 #[.pointer (some ⟨g, 0, none⟩), str n, str d] w (DPost g S w (appendM D n d)) := by
  have h0 := h
  obtain ⟨b, rs, h⟩ := h
  by_cases hl : D.stops = true ∧ D.left = 0
  · skip
    refine W_enter (args := [.pointer (some ⟨g, 0, none⟩), str n, str d]) 33 Tryd.func26 rfl rfl rfl ?_
    refine W_sub [(0, .pointer (some ⟨g, 0, none⟩)), (1, str n), (2, str d)] ?_ ⟨rfl, rfl, rfl, trivial⟩
    have hbw := Below.refl w.heap.size w
    refine W_rs ?_
    refine sa rfl rfl ?_
    refine Wn ?_
    refine tN ?_
    refine W_seq ?_
    refine W_rs ?_
    refine sm rfl rfl ?_
    refine sc _ Tryd.func55 rfl (by kernel_rfl) rfl rfl ((ready_dead g b D _ (h.bel hbw).blk hl).mono ?_)
    rintro e_ w1 ⟨rfl, hb⟩
    refine cR ?_
    replace hbw := bthen hbw hb
    have hz_w1 := hb.size
    clear hb
    refine sa rfl rfl ?_
    refine Wn ?_
    refine tN ?_
    refine W_rs ?_
    refine sm rfl rfl ?_
    refine st (X.neq rfl rfl) rfl ?_
    refine Wn ?_
    refine tN ?_
    refine W_yes rfl (rfl) ?_
    refine W_rs ?_
    refine sm rfl rfl ?_
    refine sa rfl rfl ?_
    refine Wn ?_
    refine tN ?_
    refine W_ret (tR ?_)
    exact (rT rfl rfl (DPost.same h0 hbw (opM_dead hl _))).1
  have hok' := tick_ok hok hl
  have hbud' := tick_bud hbud
  cases hr : mget rs n with
  | none =>
    have hf : mget D.files n = none := by rw [h.files, hr]; rfl
    refine W_enter (args := [.pointer (some ⟨g, 0, none⟩), str n, str d]) 33 Tryd.func26 rfl rfl rfl ?_
    refine W_sub [(0, .pointer (some ⟨g, 0, none⟩)), (1, str n), (2, str d)] ?_ ⟨rfl, rfl, rfl, trivial⟩
    refine W_rs ?_
    refine sa rfl rfl ?_
    refine Wn ?_
    refine tN ?_
    refine W_seq ?_
    refine W_rs ?_
    refine sm rfl rfl ?_
    refine sc _ Tryd.func55 rfl (by kernel_rfl) rfl rfl ((ready_live g b D rs S _ h hok hl).mono ?_)
    rintro e_ w1 ⟨rfl, h1, hC1⟩
    refine cR ?_
    refine sa rfl rfl ?_
    refine Wn ?_
    refine tN ?_
    refine W_rs ?_
    refine sm rfl rfl ?_
    refine st (X.neq rfl rfl) rfl ?_
    refine Wn ?_
    refine tN ?_
    refine W_no rfl (rfl) ?_
    refine W_skip ?_
    refine tN ?_
    refine W_rs ?_
    refine sm rfl rfl ?_
    refine sm rfl rfl ?_
    refine sc _ Tryd.func57 rfl (by kernel_rfl) rfl rfl ((find_none g b _ rs S n _ h1 hr).mono ?_)
    rintro e_ w2 ⟨rfl, hb2⟩
    refine cR ?_
    refine sm rfl rfl ?_
    refine st (X.ext rfl rfl) rfl ?_
    refine st (X.ext rfl rfl) rfl ?_
    refine sa rfl rfl ?_
    refine sa rfl rfl ?_
    refine Wn ?_
    refine tN ?_
    refine W_seq ?_
    refine W_rs ?_
    refine sm rfl rfl ?_
    refine st (X.neq rfl rfl) rfl ?_
    refine Wn ?_
    refine tN ?_
    refine W_yes rfl (rfl) ?_
    refine W_rs ?_
    refine sm rfl rfl ?_
    refine sa rfl rfl ?_
    refine Wn ?_
    refine tN ?_
    refine W_ret (tR ?_)
    exact (rT rfl rfl (DPost.of (h1.bel hb2) ((hC1.g h.inS.1).then_below hb2) ((opM_live hl _).trans (fileM_none (tick_get hf) _)))).1
  | some r =>
    have hf : mget D.files n = some r.f := by rw [h.files, hr]; rfl
    have hp := (hbud'.pend n r.f (tick_get hf)).2
    refine W_enter (args := [.pointer (some ⟨g, 0, none⟩), str n, str d]) 33 Tryd.func26 rfl rfl rfl ?_
    refine W_sub [(0, .pointer (some ⟨g, 0, none⟩)), (1, str n), (2, str d)] ?_ ⟨rfl, rfl, rfl, trivial⟩
    refine W_rs ?_
    refine sa rfl rfl ?_
    refine Wn ?_
    refine tN ?_
    refine W_seq ?_
    refine W_rs ?_
    refine sm rfl rfl ?_
    refine sc _ Tryd.func55 rfl (by kernel_rfl) rfl rfl ((ready_live g b D rs S _ h hok hl).mono ?_)
    rintro e_ w1 ⟨rfl, h1, hC1⟩
    refine cR ?_
    refine sa rfl rfl ?_
    refine Wn ?_
    refine tN ?_
    refine W_rs ?_
    refine sm rfl rfl ?_
    refine st (X.neq rfl rfl) rfl ?_
    refine Wn ?_
    refine tN ?_
    refine W_no rfl (rfl) ?_
    refine W_skip ?_
    refine tN ?_
    refine W_rs ?_
    refine sm rfl rfl ?_
    refine sm rfl rfl ?_
    refine sc _ Tryd.func57 rfl (by kernel_rfl) rfl rfl ((find_some g b _ rs S n r _ h1 hr).mono ?_)
    rintro e_ w2 ⟨rfl, hb2⟩
    refine cR ?_
    have h2 := h1.bel hb2
    have hF := (h2.at_ n r hr).blk
    obtain ⟨a, c, hvn, _⟩ := (h2.at_ n r hr).now.shape
    rw [hvn] at hF
    refine sm rfl rfl ?_
    refine st (X.ext rfl rfl) rfl ?_
    refine st (X.ext rfl rfl) rfl ?_
    refine sa rfl rfl ?_
    refine sa rfl rfl ?_
    refine Wn ?_
    refine tN ?_
    refine W_seq ?_
    refine W_rs ?_
    refine sm rfl rfl ?_
    refine st (X.neq rfl rfl) rfl ?_
    refine Wn ?_
    refine tN ?_
    refine W_no rfl (rfl) ?_
    refine W_skip ?_
    refine tN ?_
    refine W_rs ?_
    refine sm rfl rfl ?_
    refine sm rfl rfl ?_
    refine sm rfl rfl ?_
    refine st (X.nilChk rfl) rfl ?_
    refine st (X.fa fa95_1 rfl) rfl ?_
    refine st (X.ldL rfl hF Tryd.underlying92 rfl rfl) rfl ?_
    refine st (X.lenL rfl rfl Tryd.underlying92) rfl ?_
    refine sm rfl rfl ?_
    refine sc _ Tryd.func58 rfl (by kernel_rfl) rfl rfl ((put_any g b _ rs S n r _ d _ h2 hok' hr (Nat.le_refl _) hd hp hbud'.ref).mono ?_)
    rintro e_ w3 ⟨rfl, hD, hC3⟩
    refine cR ?_
    refine sa rfl rfl ?_
    refine Wn ?_
    refine tN ?_
    refine W_ret ?_
    exact (rT rfl rfl (DPost.up ((hC1.g h.inS.1).then_below hb2) hD hC3 ((opM_live hl _).trans (fileM_some (tick_get hf) _)))).1
theorem Append_nil (n : Key) (d : List UInt8) (w : World) : Calls Tryd.prog 26 #[.pointer none, str n, str d] w fun e w' => e = .returned (.int .i64 2) ∧ Below w.heap.size w w' := by
  refine W_enter (args := [.pointer none, str n, str d]) 33 Tryd.func26 rfl rfl rfl ?_
  refine W_sub [(0, .pointer none), (1, str n), (2, str d)] ?_ ⟨rfl, rfl, rfl, trivial⟩
  have hbw := Below.refl w.heap.size w
  refine W_rs ?_
  refine sa rfl rfl ?_
  refine Wn ?_
  refine tN ?_
  refine W_seq ?_
  refine W_rs ?_
  refine sm rfl rfl ?_
  refine sc _ Tryd.func55 rfl (by kernel_rfl) rfl rfl ((ready_nil _).mono ?_)
  rintro e_ w1 ⟨rfl, hb⟩
  refine cR ?_
  replace hbw := bthen hbw hb
  have hz_w1 := hb.size
  clear hb
  refine sa rfl rfl ?_
  refine Wn ?_
  refine tN ?_
  refine W_rs ?_
  refine sm rfl rfl ?_
  refine st (X.neq rfl rfl) rfl ?_
  refine Wn ?_
  refine tN ?_
  refine W_yes rfl (rfl) ?_
  refine W_rs ?_
  refine sm rfl rfl ?_
  refine sa rfl rfl ?_
  refine Wn ?_
  refine tN ?_
  refine W_ret (tR ?_)
  exact (rT rfl rfl ⟨rfl, hbw⟩).1
/- ---------- Write ---------- -/
theorem Write_any (g : Nat) (D : DiskD) (S : Nat → Prop) (n : Key) (i : Int) (d : List UInt8) (w : World) (h : DiskAt w g D S) (hok : DOk D) (hbud : DBud D) (hd : d.length ≤ 1099511627776) :
    Calls Tryd.prog 54 #[.pointer (some ⟨g, 0, none⟩), str n, .int .i64 i, str d] w (DPost g S w (writeM D n i d)) := by
  have h0 := h
  obtain ⟨b, rs, h⟩ := h
  by_cases hl : D.stops = true ∧ D.left = 0
  · skip
    refine W_enter (args := [.pointer (some ⟨g, 0, none⟩), str n, .int .i64 i, str d]) 44 Tryd.func54 rfl rfl rfl ?_
    refine W_sub [(0, .pointer (some ⟨g, 0, none⟩)), (1, str n), (2, .int .i64 i), (3, str d)] ?_ ⟨rfl, rfl, rfl, rfl, trivial⟩
    have hbw := Below.refl w.heap.size w
    refine W_rs ?_
    refine sa rfl rfl ?_
    refine Wn ?_
    refine tN ?_
    refine W_seq ?_
    refine W_rs ?_
    refine sm rfl rfl ?_
    refine sc _ Tryd.func55 rfl (by kernel_rfl) rfl rfl ((ready_dead g b D _ (h.bel hbw).blk hl).mono ?_)
    rintro e_ w1 ⟨rfl, hb⟩
    refine cR ?_
    replace hbw := bthen hbw hb
    have hz_w1 := hb.size
    clear hb
    refine sa rfl rfl ?_
    refine Wn ?_
    refine tN ?_
    refine W_rs ?_
    refine sm rfl rfl ?_
    refine st (X.neq rfl rfl) rfl ?_
    refine Wn ?_
    refine tN ?_
    refine W_yes rfl (rfl) ?_
    refine W_rs ?_
    refine sm rfl rfl ?_
    refine sa rfl rfl ?_
    refine Wn ?_
    refine tN ?_
    refine W_ret (tR ?_)
    exact (rT rfl rfl (DPost.same h0 hbw (opM_dead hl _))).1
  have hok' := tick_ok hok hl
  have hbud' := tick_bud hbud
  cases hr : mget rs n with
  | none =>
    have hf : mget D.files n = none := by rw [h.files, hr]; rfl
    refine W_enter (args := [.pointer (some ⟨g, 0, none⟩), str n, .int .i64 i, str d]) 44 Tryd.func54 rfl rfl rfl ?_
    refine W_sub [(0, .pointer (some ⟨g, 0, none⟩)), (1, str n), (2, .int .i64 i), (3, str d)] ?_ ⟨rfl, rfl, rfl, rfl, trivial⟩
    refine W_rs ?_
    refine sa rfl rfl ?_
    refine Wn ?_
    refine tN ?_
    refine W_seq ?_
    refine W_rs ?_
    refine sm rfl rfl ?_
    refine sc _ Tryd.func55 rfl (by kernel_rfl) rfl rfl ((ready_live g b D rs S _ h hok hl).mono ?_)
    rintro e_ w1 ⟨rfl, h1, hC1⟩
    refine cR ?_
    refine sa rfl rfl ?_
    refine Wn ?_
    refine tN ?_
    refine W_rs ?_
    refine sm rfl rfl ?_
    refine st (X.neq rfl rfl) rfl ?_
    refine Wn ?_
    refine tN ?_
    refine W_no rfl (rfl) ?_
    refine W_skip ?_
    refine tN ?_
    refine W_rs ?_
    refine sm rfl rfl ?_
    refine sm rfl rfl ?_
    refine sc _ Tryd.func57 rfl (by kernel_rfl) rfl rfl ((find_none g b _ rs S n _ h1 hr).mono ?_)
    rintro e_ w2 ⟨rfl, hb2⟩
    refine cR ?_
    refine sm rfl rfl ?_
    refine st (X.ext rfl rfl) rfl ?_
    refine st (X.ext rfl rfl) rfl ?_
    refine sa rfl rfl ?_
    refine sa rfl rfl ?_
    refine Wn ?_
    refine tN ?_
    refine W_seq ?_
    refine W_block ?_
    refine W_rs ?_
    refine sm rfl rfl ?_
    refine st (X.neq rfl rfl) rfl ?_
    refine sa rfl rfl ?_
    refine Wn ?_
    refine tN ?_
    refine W_yes rfl (rfl) ?_
    refine W_rs ?_
    refine sm rfl rfl ?_
    refine sa rfl rfl ?_
    refine Wn ?_
    refine tN ?_
    refine W_ret (bR (tR ?_))
    exact (rT rfl rfl (DPost.of (h1.bel hb2) ((hC1.g h.inS.1).then_below hb2) ((opM_live hl _).trans (fileM_none (tick_get hf) _)))).1
  | some r =>
    have hf : mget D.files n = some r.f := by rw [h.files, hr]; rfl
    have hp := (hbud'.pend n r.f (tick_get hf)).2
    refine W_enter (args := [.pointer (some ⟨g, 0, none⟩), str n, .int .i64 i, str d]) 44 Tryd.func54 rfl rfl rfl ?_
    refine W_sub [(0, .pointer (some ⟨g, 0, none⟩)), (1, str n), (2, .int .i64 i), (3, str d)] ?_ ⟨rfl, rfl, rfl, rfl, trivial⟩
    refine W_rs ?_
    refine sa rfl rfl ?_
    refine Wn ?_
    refine tN ?_
    refine W_seq ?_
    refine W_rs ?_
    refine sm rfl rfl ?_
    refine sc _ Tryd.func55 rfl (by kernel_rfl) rfl rfl ((ready_live g b D rs S _ h hok hl).mono ?_)
    rintro e_ w1 ⟨rfl, h1, hC1⟩
    refine cR ?_
    refine sa rfl rfl ?_
    refine Wn ?_
    refine tN ?_
    refine W_rs ?_
    refine sm rfl rfl ?_
    refine st (X.neq rfl rfl) rfl ?_
    refine Wn ?_
    refine tN ?_
    refine W_no rfl (rfl) ?_
    refine W_skip ?_
    refine tN ?_
    refine W_rs ?_
    refine sm rfl rfl ?_
    refine sm rfl rfl ?_
    refine sc _ Tryd.func57 rfl (by kernel_rfl) rfl rfl ((find_some g b _ rs S n r _ h1 hr).mono ?_)
    rintro e_ w2 ⟨rfl, hb2⟩
    refine cR ?_
    have h2 := h1.bel hb2
    have hF := (h2.at_ n r hr).blk
    obtain ⟨a, c, hvn, _⟩ := (h2.at_ n r hr).now.shape
    rw [hvn] at hF
    refine sm rfl rfl ?_
    refine st (X.ext rfl rfl) rfl ?_
    refine st (X.ext rfl rfl) rfl ?_
    refine sa rfl rfl ?_
    refine sa rfl rfl ?_
    refine Wn ?_
    refine tN ?_
    refine W_seq ?_
    refine W_block ?_
    refine W_rs ?_
    refine sm rfl rfl ?_
    refine st (X.neq rfl rfl) rfl ?_
    refine sa rfl rfl ?_
    refine Wn ?_
    refine tN ?_
    refine W_no rfl (rfl) ?_
    refine W_rs ?_
    refine sm rfl rfl ?_
    refine st (X.lss rfl rfl) rfl ?_
    refine sb rfl rfl (fun h30 => ?_) (fun h30 => ?_)
    · first | replace h30 := of_decide_eq_true h30 | replace h30 := of_decide_eq_false (notT h30) | replace h30 := notT h30 | skip
      refine gN (g := 30) rfl rfl rfl rfl ?_
      refine gN (g := 30) rfl rfl rfl rfl ?_
      refine gN (g := 30) rfl rfl rfl rfl ?_
      refine gN (g := 30) rfl rfl rfl rfl ?_
      refine gN (g := 30) rfl rfl rfl rfl ?_
      refine gN (g := 30) rfl rfl rfl rfl ?_
      refine gN (g := 30) rfl rfl rfl rfl ?_
      refine st (X.pickT rfl rfl) rfl ?_
      refine sa rfl rfl ?_
      refine Wn ?_
      refine tN ?_
      refine W_yes rfl (rfl) ?_
      refine W_rs ?_
      refine sa rfl rfl ?_
      refine Wn ?_
      refine tN ?_
      refine W_ret (bR (tR ?_))
      refine (rT rfl rfl (DPost.of h2 ((hC1.g h.inS.1).then_below hb2) ((opM_live hl _).trans ((fileM_some (tick_get hf) _).trans ?_)))).1
      exact if_pos (by omega)
    · first | replace h30 := of_decide_eq_false h30 | replace h30 := of_decide_eq_true (notF h30) | replace h30 := notF h30 | skip
      refine gY (g := 30) rfl rfl rfl ?_
      refine sm rfl rfl ?_
      refine gY (g := 30) rfl rfl rfl ?_
      refine sm rfl rfl ?_
      refine gY (g := 30) rfl rfl rfl ?_
      refine st (X.nilChk rfl) rfl ?_
      refine gY (g := 30) rfl rfl rfl ?_
      refine st (X.fa fa95_1 rfl) rfl ?_
      refine gY (g := 30) rfl rfl rfl ?_
      refine st (X.ldL rfl hF Tryd.underlying92 rfl rfl) rfl ?_
      refine gY (g := 30) rfl rfl rfl ?_
      refine st (X.lenL rfl rfl Tryd.underlying92) rfl ?_
      refine gY (g := 30) rfl rfl rfl ?_
      refine st (X.gtr rfl rfl) rfl ?_
      refine st (X.pickF rfl rfl) rfl ?_
      refine sa rfl rfl ?_
      refine Wn ?_
      refine tN ?_
      refine W_if rfl (fun h27 => ?_) (fun h27 => ?_)
      · first | replace h27 := of_decide_eq_true h27 | replace h27 := of_decide_eq_false (notT h27) | replace h27 := notT h27 | skip
        refine W_rs ?_
        refine sa rfl rfl ?_
        refine Wn ?_
        refine tN ?_
        refine W_ret (bR (tR ?_))
        refine (rT rfl rfl (DPost.of h2 ((hC1.g h.inS.1).then_below hb2) ((opM_live hl _).trans ((fileM_some (tick_get hf) _).trans ?_)))).1
        exact if_pos (by omega)
      · first | replace h27 := of_decide_eq_false h27 | replace h27 := of_decide_eq_true (notF h27) | replace h27 := notF h27 | skip
        refine W_skip ?_
        refine bN ?_
        refine tN ?_
        refine W_rs ?_
        obtain ⟨at_, rfl⟩ : ∃ at_ : Nat, i = at_ := ⟨i.toNat, by omega⟩
        refine sm rfl rfl ?_
        refine sm rfl rfl ?_
        refine sm rfl rfl ?_
        refine sm rfl rfl ?_
        refine sc _ Tryd.func58 rfl (by kernel_rfl) rfl rfl ((put_any g b _ rs S n r at_ d _ h2 hok' hr (by omega) hd hp hbud'.ref).mono ?_)
        rintro e_ w3 ⟨rfl, hD, hC3⟩
        refine cR ?_
        refine sa rfl rfl ?_
        refine Wn ?_
        refine tN ?_
        refine W_ret ?_
        refine (rT rfl rfl (DPost.up ((hC1.g h.inS.1).then_below hb2) hD hC3 ((opM_live hl _).trans ((fileM_some (tick_get hf) _).trans ?_)))).1
        exact if_neg (by omega)
theorem Write_nil (n : Key) (i : Int) (d : List UInt8) (w : World) : Calls Tryd.prog 54 #[.pointer none, str n, .int .i64 i, str d] w fun e w' => e = .returned (.int .i64 2) ∧ Below w.heap.size w w' := by
  refine W_enter (args := [.pointer none, str n, .int .i64 i, str d]) 44 Tryd.func54 rfl rfl rfl ?_
  refine W_sub [(0, .pointer none), (1, str n), (2, .int .i64 i), (3, str d)] ?_ ⟨rfl, rfl, rfl, rfl, trivial⟩
  have hbw := Below.refl w.heap.size w
  refine W_rs ?_
  refine sa rfl rfl ?_
  refine Wn ?_
  refine tN ?_
  refine W_seq ?_
  refine W_rs ?_
  refine sm rfl rfl ?_
  refine sc _ Tryd.func55 rfl (by kernel_rfl) rfl rfl ((ready_nil _).mono ?_)
  rintro e_ w1 ⟨rfl, hb⟩
  refine cR ?_
  replace hbw := bthen hbw hb
  have hz_w1 := hb.size
  clear hb
  refine sa rfl rfl ?_
  refine Wn ?_
  refine tN ?_
  refine W_rs ?_
  refine sm rfl rfl ?_
  refine st (X.neq rfl rfl) rfl ?_
  refine Wn ?_
  refine tN ?_
  refine W_yes rfl (rfl) ?_
  refine W_rs ?_
  refine sm rfl rfl ?_
  refine sa rfl rfl ?_
  refine Wn ?_
  refine tN ?_
  refine W_ret (tR ?_)
  exact (rT rfl rfl ⟨rfl, hbw⟩).1
/- ---------- Sync ---------- -/
/-- a file whose bytes last -/
theorem DiskIn.lasts {w w' : World} {g b : Nat} {D : DiskD} {rs : List (Key × FRec)} {S : Nat → Prop} {n : Key} {r : FRec} {vl' : Value} (h : DiskIn w g b D rs S) (hr : mget rs n = some r) (hs : Rising D.files)
    (hB : Blk w' r.blk 95 #[vl', r.vn, .slice none 0 0]) (hL : Row w' 5 1 vl' r.f.now.length (r.f.now.map bv)) (hN : Row w' 5 1 r.vn r.f.now.length (r.f.now.map bv)) (hO : ∀ k, vl'.ownBlock = some k → w.heap.size ≤ k) (hC : Chg (fun k => k = r.blk) w w') :
    DiskIn w' g b { D with files := sput D.files n (lastsM r.f) } (mput rs n ⟨r.blk, vl', r.vn, .slice none 0 0, lastsM r.f⟩) (Ext S w w') := by
  refine h.file hr (hC.mono (fun k _ hk => .inr (.inl hk))) (h.blk.chg hC (fun e => (h.ne hr).1 (.inl e))) (fun m => mget_sput hs n _ m) ⟨hB, hL, hN, Row.nil _ _ _, fun k hk hk2 => ?_⟩ rfl ?_
  · have := (h.at_ n r hr).lt (.inr (.inr (.inl hk2)))
    have := hO k hk
    omega
  · rintro k (e | e | e | e)
    · exact .inl (.inl e)
    · exact .inr (hO k e)
    · exact .inl (.inr (.inr (.inl e)))
    · simp [Value.ownBlock] at e
theorem Sync_any (g : Nat) (D : DiskD) (S : Nat → Prop) (n : Key) (w : World) (h : DiskAt w g D S) (hok : DOk D) :
    Calls Tryd.prog 27 #[.pointer (some ⟨g, 0, none⟩), str n] w (DPost g S w (syncM D n)) := by
  have h0 := h
  obtain ⟨b, rs, h⟩ := h
  by_cases hl : D.stops = true ∧ D.left = 0
  · skip
    refine W_enter (args := [.pointer (some ⟨g, 0, none⟩), str n]) 24 Tryd.func27 rfl rfl rfl ?_
    refine W_sub [(0, .pointer (some ⟨g, 0, none⟩)), (1, str n)] ?_ ⟨rfl, rfl, trivial⟩
    have hbw := Below.refl w.heap.size w
    refine W_rs ?_
    refine sa rfl rfl ?_
    refine Wn ?_
    refine tN ?_
    refine W_seq ?_
    refine W_rs ?_
    refine sm rfl rfl ?_
    refine sc _ Tryd.func55 rfl (by kernel_rfl) rfl rfl ((ready_dead g b D _ (h.bel hbw).blk hl).mono ?_)
    rintro e_ w1 ⟨rfl, hb⟩
    refine cR ?_
    replace hbw := bthen hbw hb
    have hz_w1 := hb.size
    clear hb
    refine sa rfl rfl ?_
    refine Wn ?_
    refine tN ?_
    refine W_rs ?_
    refine sm rfl rfl ?_
    refine st (X.neq rfl rfl) rfl ?_
    refine Wn ?_
    refine tN ?_
    refine W_yes rfl (rfl) ?_
    refine W_rs ?_
    refine sm rfl rfl ?_
    refine sa rfl rfl ?_
    refine Wn ?_
    refine tN ?_
    refine W_ret (tR ?_)
    exact (rT rfl rfl (DPost.same h0 hbw (opM_dead hl _))).1
  have hok' := tick_ok hok hl
  cases hr : mget rs n with
  | none =>
    have hf : mget D.files n = none := by rw [h.files, hr]; rfl
    refine W_enter (args := [.pointer (some ⟨g, 0, none⟩), str n]) 24 Tryd.func27 rfl rfl rfl ?_
    refine W_sub [(0, .pointer (some ⟨g, 0, none⟩)), (1, str n)] ?_ ⟨rfl, rfl, trivial⟩
    refine W_rs ?_
    refine sa rfl rfl ?_
    refine Wn ?_
    refine tN ?_
    refine W_seq ?_
    refine W_rs ?_
    refine sm rfl rfl ?_
    refine sc _ Tryd.func55 rfl (by kernel_rfl) rfl rfl ((ready_live g b D rs S _ h hok hl).mono ?_)
    rintro e_ w1 ⟨rfl, h1, hC1⟩
    refine cR ?_
    refine sa rfl rfl ?_
    refine Wn ?_
    refine tN ?_
    refine W_rs ?_
    refine sm rfl rfl ?_
    refine st (X.neq rfl rfl) rfl ?_
    refine Wn ?_
    refine tN ?_
    refine W_no rfl (rfl) ?_
    refine W_skip ?_
    refine tN ?_
    refine W_rs ?_
    refine sm rfl rfl ?_
    refine sm rfl rfl ?_
    refine sc _ Tryd.func57 rfl (by kernel_rfl) rfl rfl ((find_none g b _ rs S n _ h1 hr).mono ?_)
    rintro e_ w2 ⟨rfl, hb2⟩
    refine cR ?_
    refine sm rfl rfl ?_
    refine st (X.ext rfl rfl) rfl ?_
    refine st (X.ext rfl rfl) rfl ?_
    refine sa rfl rfl ?_
    refine sa rfl rfl ?_
    refine Wn ?_
    refine tN ?_
    refine W_seq ?_
    refine W_rs ?_
    refine sm rfl rfl ?_
    refine st (X.neq rfl rfl) rfl ?_
    refine Wn ?_
    refine tN ?_
    refine W_yes rfl (rfl) ?_
    refine W_rs ?_
    refine sm rfl rfl ?_
    refine sa rfl rfl ?_
    refine Wn ?_
    refine tN ?_
    refine W_ret (tR ?_)
    exact (rT rfl rfl (DPost.of (h1.bel hb2) ((hC1.g h.inS.1).then_below hb2) ((opM_live hl _).trans (fileM_none (tick_get hf) _)))).1
  | some r =>
    have hf : mget D.files n = some r.f := by rw [h.files, hr]; rfl
    have hlen := (hok'.len (tick_get hf)).1
    refine W_enter (args := [.pointer (some ⟨g, 0, none⟩), str n]) 24 Tryd.func27 rfl rfl rfl ?_
    refine W_sub [(0, .pointer (some ⟨g, 0, none⟩)), (1, str n)] ?_ ⟨rfl, rfl, trivial⟩
    refine W_rs ?_
    refine sa rfl rfl ?_
    refine Wn ?_
    refine tN ?_
    refine W_seq ?_
    refine W_rs ?_
    refine sm rfl rfl ?_
    refine sc _ Tryd.func55 rfl (by kernel_rfl) rfl rfl ((ready_live g b D rs S _ h hok hl).mono ?_)
    rintro e_ w1 ⟨rfl, h1, hC1⟩
    refine cR ?_
    refine sa rfl rfl ?_
    refine Wn ?_
    refine tN ?_
    refine W_rs ?_
    refine sm rfl rfl ?_
    refine st (X.neq rfl rfl) rfl ?_
    refine Wn ?_
    refine tN ?_
    refine W_no rfl (rfl) ?_
    refine W_skip ?_
    refine tN ?_
    refine W_rs ?_
    refine sm rfl rfl ?_
    refine sm rfl rfl ?_
    refine sc _ Tryd.func57 rfl (by kernel_rfl) rfl rfl ((find_some g b _ rs S n r _ h1 hr).mono ?_)
    rintro e_ w2 ⟨rfl, hb2⟩
    refine cR ?_
    have h2 := h1.bel hb2
    have hF := h2.at_ n r hr
    refine sm rfl rfl ?_
    refine st (X.ext rfl rfl) rfl ?_
    refine st (X.ext rfl rfl) rfl ?_
    refine sa rfl rfl ?_
    refine sa rfl rfl ?_
    refine Wn ?_
    refine tN ?_
    refine W_seq ?_
    refine W_rs ?_
    refine sm rfl rfl ?_
    refine st (X.neq rfl rfl) rfl ?_
    refine Wn ?_
    refine tN ?_
    refine W_no rfl (rfl) ?_
    refine W_skip ?_
    refine tN ?_
    refine W_rs ?_
    refine sm rfl rfl ?_
    refine sc _ Tryd.func59 rfl (by kernel_rfl) rfl rfl ((lasts_any r.blk r.vl r.vn r.vp r.f.now _ hF.blk hF.now (by omega)).mono ?_)
    rintro e_ w3 ⟨rfl, vl', hB3, hL3, hN3, hO3, hC3⟩
    refine cR ?_
    refine Wn ?_
    refine tN ?_
    refine W_rs ?_
    refine sa rfl rfl ?_
    refine Wn ?_
    refine tN ?_
    refine W_ret ?_
    refine (rT rfl rfl (DPost.up (x := (0, { tickM D with files := sput (tickM D).files n (lastsM r.f) })) ((hC1.g h.inS.1).then_below hb2) ⟨b, _, h2.lasts hr hok'.srt hB3 hL3 hN3 hO3 hC3⟩ (hC3.mono (fun k _ hk => h.inR n r k hr (.inl hk))) ((opM_live hl _).trans (fileM_some (tick_get hf) _)))).1
theorem Sync_nil (n : Key) (w : World) : Calls Tryd.prog 27 #[.pointer none, str n] w fun e w' => e = .returned (.int .i64 2) ∧ Below w.heap.size w w' := by
  refine W_enter (args := [.pointer none, str n]) 24 Tryd.func27 rfl rfl rfl ?_
  refine W_sub [(0, .pointer none), (1, str n)] ?_ ⟨rfl, rfl, trivial⟩
  have hbw := Below.refl w.heap.size w
  refine W_rs ?_
  refine sa rfl rfl ?_
  refine Wn ?_
  refine tN ?_
  refine W_seq ?_
  refine W_rs ?_
  refine sm rfl rfl ?_
  refine sc _ Tryd.func55 rfl (by kernel_rfl) rfl rfl ((ready_nil _).mono ?_)
  rintro e_ w1 ⟨rfl, hb⟩
  refine cR ?_
  replace hbw := bthen hbw hb
  have hz_w1 := hb.size
  clear hb
  refine sa rfl rfl ?_
  refine Wn ?_
  refine tN ?_
  refine W_rs ?_
  refine sm rfl rfl ?_
  refine st (X.neq rfl rfl) rfl ?_
  refine Wn ?_
  refine tN ?_
  refine W_yes rfl (rfl) ?_
  refine W_rs ?_
  refine sm rfl rfl ?_
  refine sa rfl rfl ?_
  refine Wn ?_
  refine tN ?_
  refine W_ret (tR ?_)
  exact (rT rfl rfl ⟨rfl, hbw⟩).1
end Go.Proofs.YtnijmegalgoipaaDoor
