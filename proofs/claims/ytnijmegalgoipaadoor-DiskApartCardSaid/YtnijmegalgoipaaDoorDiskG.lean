/- disk: Rename, Remove, Rot. -/
import Derived.Test.YtnijmegalgoipaaDoorDiskF
namespace Go.Proofs.YtnijmegalgoipaaDoor
open Go.RowKit
theorem DiskIn.remove {w w' : World} {g b : Nat} {D : DiskD} {rs : List (Key × FRec)} {S : Nat → Prop} {m : Key} (h : DiskIn w g b D rs S) (hs : Rising D.files) (hC : Chg (fun k => k = b) w w') (hM : MapAt w' b str encPtr (mdel (rs.map fun p => (p.1, p.2.blk)) m)) :
    DiskIn w' g b { D with files := mdel D.files m } (mdel rs m) S := by
  refine h.sub id (fun q s hq => ?_) (fun _ _ _ _ _ _ hne => hne) (hC.mono (fun k _ hk => .inr hk)) (h.blk.chg hC h.gb) (by rw [mdel_map]; exact hM) (fun q => ?_)
  · rw [mget_mdel h.keys] at hq
    split at hq
    · cases hq
    · exact hq
  · show mget (mdel D.files m) q = _
    rw [mget_mdel hs.nodup, mget_mdel h.keys]
    split
    · rfl
    · exact h.files q
set_option maxRecDepth 10000 in
theorem Remove_any (g : Nat) (D : DiskD) (S : Nat → Prop) (n : Key) (w : World) (h : DiskAt w g D S) (hok : DOk D) :
    Calls Tryd.prog 35 #[.pointer (some ⟨g, 0, none⟩), str n] w (DPost g S w (removeM D n)) := by
  have h0 := h
  obtain ⟨b, rs, h⟩ := h
  by_cases hl : D.stops = true ∧ D.left = 0
  · skip
    refine W_enter (args := [.pointer (some ⟨g, 0, none⟩), str n]) 39 Tryd.func35 rfl rfl rfl ?_
    refine W_sub [(0, .pointer (some ⟨g, 0, none⟩)), (1, str n)] ?_ ⟨rfl, rfl, trivial⟩
    have hbw := Below.refl w.heap.size w
    refine W_rs ?_
    refine sa rfl rfl ?_
    refine Wn ?_
    refine tN ?_
    refine W_seq ?_
    refine W_rs ?_
    refine sm rfl rfl ?_
    refine sc _ Tryd.func55 rfl (by kernel_rfl) rfl rfl ((ready_dead g b D _ (h.bel hbw).blk hl).mono ?_)
    rintro e_ w1 ⟨rfl, hb⟩
    refine cR ?_
    replace hbw := bthen hbw hb
    have hz_w1 := hb.size
    clear hb
    refine sa rfl rfl ?_
    refine Wn ?_
    refine tN ?_
    refine W_rs ?_
    refine sm rfl rfl ?_
    refine st (X.neq rfl rfl) rfl ?_
    refine Wn ?_
    refine tN ?_
    refine W_yes rfl (rfl) ?_
    refine W_rs ?_
    refine sm rfl rfl ?_
    refine sa rfl rfl ?_
    refine Wn ?_
    refine tN ?_
    refine W_ret (tR ?_)
    exact (rT rfl rfl (DPost.same h0 hbw (opM_dead hl _))).1
  have hok' := tick_ok hok hl
  cases hr : mget rs n with
  | none =>
    have hf : mget D.files n = none := by rw [h.files, hr]; rfl
    refine W_enter (args := [.pointer (some ⟨g, 0, none⟩), str n]) 39 Tryd.func35 rfl rfl rfl ?_
    refine W_sub [(0, .pointer (some ⟨g, 0, none⟩)), (1, str n)] ?_ ⟨rfl, rfl, trivial⟩
    refine W_rs ?_
    refine sa rfl rfl ?_
    refine Wn ?_
    refine tN ?_
    refine W_seq ?_
    refine W_rs ?_
    refine sm rfl rfl ?_
    refine sc _ Tryd.func55 rfl (by kernel_rfl) rfl rfl ((ready_live g b D rs S _ h hok hl).mono ?_)
    rintro e_ w1 ⟨rfl, h1, hC1⟩
    refine cR ?_
    refine sa rfl rfl ?_
    refine Wn ?_
    refine tN ?_
    refine W_rs ?_
    refine sm rfl rfl ?_
    refine st (X.neq rfl rfl) rfl ?_
    refine Wn ?_
    refine tN ?_
    refine W_no rfl (rfl) ?_
    refine W_skip ?_
    refine tN ?_
    refine W_rs ?_
    refine sm rfl rfl ?_
    refine sm rfl rfl ?_
    refine sc _ Tryd.func57 rfl (by kernel_rfl) rfl rfl ((find_none g b _ rs S n _ h1 hr).mono ?_)
    rintro e_ w2 ⟨rfl, hb2⟩
    refine cR ?_
    refine sm rfl rfl ?_
    refine st (X.ext rfl rfl) rfl ?_
    refine st (X.ext rfl rfl) rfl ?_
    refine sa rfl rfl ?_
    refine sa rfl rfl ?_
    refine Wn ?_
    refine tN ?_
    refine W_seq ?_
    refine W_rs ?_
    refine sm rfl rfl ?_
    refine st (X.neq rfl rfl) rfl ?_
    refine Wn ?_
    refine tN ?_
    refine W_yes rfl (rfl) ?_
    refine W_rs ?_
    refine sm rfl rfl ?_
    refine sa rfl rfl ?_
    refine Wn ?_
    refine tN ?_
    refine W_ret (tR ?_)
    exact (rT rfl rfl (DPost.of (h1.bel hb2) ((hC1.g h.inS.1).then_below hb2) ((opM_live hl _).trans (fileM_none (tick_get hf) _)))).1
  | some r =>
    have hf : mget D.files n = some r.f := by rw [h.files, hr]; rfl
    obtain ⟨hlen, _, hlu⟩ := hok'.len (tick_get hf)
    have hlim := hok'.lim
    have hroom := hok'.room
    refine W_enter (args := [.pointer (some ⟨g, 0, none⟩), str n]) 39 Tryd.func35 rfl rfl rfl ?_
    refine W_sub [(0, .pointer (some ⟨g, 0, none⟩)), (1, str n)] ?_ ⟨rfl, rfl, trivial⟩
    refine W_rs ?_
    refine sa rfl rfl ?_
    refine Wn ?_
    refine tN ?_
    refine W_seq ?_
    refine W_rs ?_
    refine sm rfl rfl ?_
    refine sc _ Tryd.func55 rfl (by kernel_rfl) rfl rfl ((ready_live g b D rs S _ h hok hl).mono ?_)
    rintro e_ w1 ⟨rfl, h1, hC1⟩
    refine cR ?_
    refine sa rfl rfl ?_
    refine Wn ?_
    refine tN ?_
    refine W_rs ?_
    refine sm rfl rfl ?_
    refine st (X.neq rfl rfl) rfl ?_
    refine Wn ?_
    refine tN ?_
    refine W_no rfl (rfl) ?_
    refine W_skip ?_
    refine tN ?_
    refine W_rs ?_
    refine sm rfl rfl ?_
    refine sm rfl rfl ?_
    refine sc _ Tryd.func57 rfl (by kernel_rfl) rfl rfl ((find_some g b _ rs S n r _ h1 hr).mono ?_)
    rintro e_ w2 ⟨rfl, hb2⟩
    refine cR ?_
    have h2 := h1.bel hb2
    have hC2 := (hC1.g h.inS.1).then_below hb2
    have hF := (h2.at_ n r hr).blk
    obtain ⟨a, c, hvn, _⟩ := (h2.at_ n r hr).now.shape
    rw [hvn] at hF
    have hB : Blk w2 g 88 #[.map (some b), .int .i64 (tickM D).limit, .int .i64 (tickM D).used, .int .i64 (tickM D).refused, .bool (tickM D).stops, .int .i64 (tickM D).left] := h2.blk
    refine sm rfl rfl ?_
    refine st (X.ext rfl rfl) rfl ?_
    refine st (X.ext rfl rfl) rfl ?_
    refine sa rfl rfl ?_
    refine sa rfl rfl ?_
    refine Wn ?_
    refine tN ?_
    refine W_seq ?_
    refine W_rs ?_
    refine sm rfl rfl ?_
    refine st (X.neq rfl rfl) rfl ?_
    refine Wn ?_
    refine tN ?_
    refine W_no rfl (rfl) ?_
    refine W_skip ?_
    refine tN ?_
    refine W_still_s 12 (by kernel_rfl) (by kernel_rfl) ?_
    obtain ⟨w3, hw_⟩ : ∃ w3 : World, w3 = World.drew w2 := ⟨_, rfl⟩
    rw [← hw_]
    have hb : Below w2.heap.size w2 w3 := by rw [hw_]; exact bdrew (Below.refl _ _)
    clear hw_
    replace hB := hB.bel hb
    replace hF := hF.bel hb
    replace h2 := h2.bel hb
    replace hC2 := hC2.bel hb
    have hz_w3 := hb.size
    clear hb
    refine hY (X.move rfl) rfl ?_
    refine hY (X.nilChk rfl) rfl ?_
    refine hY (X.fa fa88_2 rfl) rfl ?_
    refine hY (X.ldL rfl hB Tryd.underlying3 rfl rfl) rfl ?_
    refine hY (X.move rfl) rfl ?_
    refine hY (X.nilChk rfl) rfl ?_
    refine hY (X.fa fa95_1 rfl) rfl ?_
    refine hY (X.ldL rfl hF Tryd.underlying92 rfl rfl) rfl ?_
    refine hY (X.lenL rfl rfl Tryd.underlying92) rfl ?_
    refine hY (X.sub64 rfl rfl (by omega)) rfl ?_
    refine hY (X.nilChk rfl) rfl ?_
    refine hY (X.fa fa88_2 rfl) rfl ?_
    refine hN ?_
    refine ssB rfl rfl hB siz3 rfl (by simp) (fun w4 hB3 hC3 => ?_)
    have h3 := h2.self (D' := { tickM D with used := (tickM D).used - r.f.now.length }) hC3 hB3 rfl
    replace hB := hB3
    refine Wn ?_
    refine tN ?_
    refine W_rs ?_
    refine sm rfl rfl ?_
    refine st (X.nilChk rfl) rfl ?_
    refine st (X.fa fa88_0 rfl) rfl ?_
    refine st (X.ldL rfl hB Tryd.underlying86 rfl rfl) rfl ?_
    refine sm rfl rfl ?_
    refine sdel (keyStr Tryd.underlying9) rfl n rfl Tryd.underlying86 h3.map (fun w5 hM4 hC4 => ?_)
    refine Wn ?_
    refine tN ?_
    refine W_rs ?_
    refine sa rfl rfl ?_
    refine Wn ?_
    refine tN ?_
    refine W_ret ?_
    exact (rT rfl rfl (DPost.up (x := (0, { tickM D with files := mdel (tickM D).files n, used := (tickM D).used - r.f.now.length })) hC2 ⟨b, _, (h3.remove hok'.srt hC4 hM4).mono Ext.of⟩ ((hC3.g h.inS.1).next (hC4.g h.inS.2) (fun i hi => .inl hi)) ((opM_live hl _).trans (fileM_some (tick_get hf) _)))).1
theorem Remove_nil (n : Key) (w : World) : Calls Tryd.prog 35 #[.pointer none, str n] w fun e w' => e = .returned (.int .i64 2) ∧ Below w.heap.size w w' := by
  refine W_enter (args := [.pointer none, str n]) 39 Tryd.func35 rfl rfl rfl ?_
  refine W_sub [(0, .pointer none), (1, str n)] ?_ ⟨rfl, rfl, trivial⟩
  have hbw := Below.refl w.heap.size w
  refine W_rs ?_
  refine sa rfl rfl ?_
  refine Wn ?_
  refine tN ?_
  refine W_seq ?_
  refine W_rs ?_
  refine sm rfl rfl ?_
  refine sc _ Tryd.func55 rfl (by kernel_rfl) rfl rfl ((ready_nil _).mono ?_)
  rintro e_ w1 ⟨rfl, hb⟩
  refine cR ?_
  replace hbw := bthen hbw hb
  have hz_w1 := hb.size
  clear hb
  refine sa rfl rfl ?_
  refine Wn ?_
  refine tN ?_
  refine W_rs ?_
  refine sm rfl rfl ?_
  refine st (X.neq rfl rfl) rfl ?_
  refine Wn ?_
  refine tN ?_
  refine W_yes rfl (rfl) ?_
  refine W_rs ?_
  refine sm rfl rfl ?_
  refine sa rfl rfl ?_
  refine Wn ?_
  refine tN ?_
  refine W_ret (tR ?_)
  exact (rT rfl rfl ⟨rfl, hbw⟩).1
/- ---------- Rename ---------- -/
theorem ren_get {ν : Type} {m : List (Key × ν)} (hm : (m.map (·.1)).Nodup) (a b q : Key) (v : ν) : mget (mput (mdel m a) b v) q = if q = b then some v else if q = a then none else mget m q := by rw [mget_mput, mget_mdel hm]
theorem DiskIn.rename {w w' : World} {g b : Nat} {D : DiskD} {rs : List (Key × FRec)} {S : Nat → Prop} {m n : Key} {r : FRec} (h : DiskIn w g b D rs S) (hs : Rising D.files) (hr : mget rs m = some r) (hC : Chg (fun k => k = b) w w') (hM : MapAt w' b str encPtr (mput (mdel (rs.map fun p => (p.1, p.2.blk)) m) n r.blk)) :
    DiskIn w' g b { D with files := sput (mdel D.files m) n r.f } (mput (mdel rs m) n r) S := by
  refine h.sub (fun q => if q = n then m else q) (fun q s hq => ?_) (fun q q' s s' hq hq' hne => ?_) (hC.mono (fun k _ hk => .inr hk)) (h.blk.chg hC h.gb) (by rw [mput_map FRec.blk, mdel_map]; exact hM) (fun q => ?_)
  · rw [ren_get h.keys] at hq
    split at hq
    · injection hq with hq
      rename_i e
      rw [if_pos e, hr, hq]
    · rename_i e
      rw [if_neg e]
      split at hq
      · cases hq
      · exact hq
  · rw [ren_get h.keys] at hq hq'
    by_cases e : q = n
    · rw [if_pos e, if_neg (fun e' => hne (e.trans e'.symm))]
      rw [if_neg (fun e' => hne (e.trans e'.symm))] at hq'
      rintro rfl
      rw [if_pos rfl] at hq'
      cases hq'
    · rw [if_neg e]
      rw [if_neg e] at hq
      split
      · rintro rfl
        rw [if_pos rfl] at hq
        cases hq
      · exact hne
  · show mget (sput (mdel D.files m) n r.f) q = _
    rw [mget_sput (hs.del m), ren_get h.keys, mget_mdel hs.nodup]
    split
    · rfl
    · split
      · rfl
      · exact h.files q
set_option maxRecDepth 10000 in
theorem Rename_any (g : Nat) (D : DiskD) (S : Nat → Prop) (m n : Key) (w : World) (h : DiskAt w g D S) (hok : DOk D) :
    Calls Tryd.prog 32 #[.pointer (some ⟨g, 0, none⟩), str m, str n] w (DPost g S w (renameM D m n)) := by
  have h0 := h
  obtain ⟨b, rs, h⟩ := h
  by_cases hl : D.stops = true ∧ D.left = 0
  · skip
    refine W_enter (args := [.pointer (some ⟨g, 0, none⟩), str m, str n]) 62 Tryd.func32 rfl rfl rfl ?_
    refine W_sub [(0, .pointer (some ⟨g, 0, none⟩)), (1, str m), (2, str n)] ?_ ⟨rfl, rfl, rfl, trivial⟩
    have hbw := Below.refl w.heap.size w
    refine W_rs ?_
    refine sa rfl rfl ?_
    refine Wn ?_
    refine tN ?_
    refine W_seq ?_
    refine W_rs ?_
    refine sm rfl rfl ?_
    refine sc _ Tryd.func55 rfl (by kernel_rfl) rfl rfl ((ready_dead g b D _ (h.bel hbw).blk hl).mono ?_)
    rintro e_ w1 ⟨rfl, hb⟩
    refine cR ?_
    replace hbw := bthen hbw hb
    have hz_w1 := hb.size
    clear hb
    refine sa rfl rfl ?_
    refine Wn ?_
    refine tN ?_
    refine W_rs ?_
    refine sm rfl rfl ?_
    refine st (X.neq rfl rfl) rfl ?_
    refine Wn ?_
    refine tN ?_
    refine W_yes rfl (rfl) ?_
    refine W_rs ?_
    refine sm rfl rfl ?_
    refine sa rfl rfl ?_
    refine Wn ?_
    refine tN ?_
    refine W_ret (tR ?_)
    exact (rT rfl rfl (DPost.same h0 hbw (opM_dead hl _))).1
  have hok' := tick_ok hok hl
  by_cases hnm : nameOk n = true
  rotate_left
  · skip
    refine W_enter (args := [.pointer (some ⟨g, 0, none⟩), str m, str n]) 62 Tryd.func32 rfl rfl rfl ?_
    refine W_sub [(0, .pointer (some ⟨g, 0, none⟩)), (1, str m), (2, str n)] ?_ ⟨rfl, rfl, rfl, trivial⟩
    refine W_rs ?_
    refine sa rfl rfl ?_
    refine Wn ?_
    refine tN ?_
    refine W_seq ?_
    refine W_rs ?_
    refine sm rfl rfl ?_
    refine sc _ Tryd.func55 rfl (by kernel_rfl) rfl rfl ((ready_live g b D rs S _ h hok hl).mono ?_)
    rintro e_ w1 ⟨rfl, h1, hC1⟩
    refine cR ?_
    refine sa rfl rfl ?_
    refine Wn ?_
    refine tN ?_
    refine W_rs ?_
    refine sm rfl rfl ?_
    refine st (X.neq rfl rfl) rfl ?_
    refine Wn ?_
    refine tN ?_
    refine W_no rfl (rfl) ?_
    refine W_skip ?_
    refine tN ?_
    refine W_seq ?_
    refine W_rs ?_
    refine sm rfl rfl ?_
    refine sc _ Tryd.func56 rfl (by kernel_rfl) rfl rfl ((named_any n _).mono ?_)
    rintro e_ w2 ⟨rfl, hb2⟩
    refine cR ?_
    refine st (X.not rfl) rfl ?_
    refine Wn ?_
    refine tN ?_
    refine W_yes rfl (by simpa using hnm) ?_
    refine W_rs ?_
    refine sa rfl rfl ?_
    refine Wn ?_
    refine tN ?_
    refine W_ret (tR ?_)
    exact (rT rfl rfl (DPost.of (h1.bel hb2) ((hC1.g h.inS.1).then_below hb2) ((opM_live hl _).trans (if_neg hnm)))).1
  cases hr : mget rs m with
  | none =>
    have hf : mget D.files m = none := by rw [h.files, hr]; rfl
    refine W_enter (args := [.pointer (some ⟨g, 0, none⟩), str m, str n]) 62 Tryd.func32 rfl rfl rfl ?_
    refine W_sub [(0, .pointer (some ⟨g, 0, none⟩)), (1, str m), (2, str n)] ?_ ⟨rfl, rfl, rfl, trivial⟩
    refine W_rs ?_
    refine sa rfl rfl ?_
    refine Wn ?_
    refine tN ?_
    refine W_seq ?_
    refine W_rs ?_
    refine sm rfl rfl ?_
    refine sc _ Tryd.func55 rfl (by kernel_rfl) rfl rfl ((ready_live g b D rs S _ h hok hl).mono ?_)
    rintro e_ w1 ⟨rfl, h1, hC1⟩
    refine cR ?_
    refine sa rfl rfl ?_
    refine Wn ?_
    refine tN ?_
    refine W_rs ?_
    refine sm rfl rfl ?_
    refine st (X.neq rfl rfl) rfl ?_
    refine Wn ?_
    refine tN ?_
    refine W_no rfl (rfl) ?_
    refine W_skip ?_
    refine tN ?_
    refine W_seq ?_
    refine W_rs ?_
    refine sm rfl rfl ?_
    refine sc _ Tryd.func56 rfl (by kernel_rfl) rfl rfl ((named_any n _).mono ?_)
    rintro e_ w2 ⟨rfl, hb2⟩
    refine cR ?_
    refine st (X.not rfl) rfl ?_
    refine Wn ?_
    refine tN ?_
    refine W_no rfl (by simpa using hnm) ?_
    refine W_skip ?_
    refine tN ?_
    refine W_rs ?_
    refine sm rfl rfl ?_
    refine sm rfl rfl ?_
    refine sc _ Tryd.func57 rfl (by kernel_rfl) rfl rfl ((find_none g b _ rs S m _ (h1.bel hb2) hr).mono ?_)
    rintro e_ w3 ⟨rfl, hb3⟩
    refine cR ?_
    refine sm rfl rfl ?_
    refine st (X.ext rfl rfl) rfl ?_
    refine st (X.ext rfl rfl) rfl ?_
    refine sa rfl rfl ?_
    refine sa rfl rfl ?_
    refine Wn ?_
    refine tN ?_
    refine W_seq ?_
    refine W_rs ?_
    refine sm rfl rfl ?_
    refine st (X.neq rfl rfl) rfl ?_
    refine Wn ?_
    refine tN ?_
    refine W_yes rfl (rfl) ?_
    refine W_rs ?_
    refine sm rfl rfl ?_
    refine sa rfl rfl ?_
    refine Wn ?_
    refine tN ?_
    refine W_ret (tR ?_)
    exact (rT rfl rfl (DPost.of ((h1.bel hb2).bel hb3) (((hC1.g h.inS.1).then_below hb2).then_below hb3) ((opM_live hl _).trans ((if_pos hnm).trans (fileM_none (tick_get hf) _))))).1
  | some r =>
    have hf : mget D.files m = some r.f := by rw [h.files, hr]; rfl
    have hlim := hok'.lim
    have hroom := hok'.room
    cases hr2 : mget rs n with
    | none =>
      have hf2 : mget D.files n = none := by rw [h.files, hr2]; rfl
      have hv := look_ptr (rs := rs) (n := n) (o := none) (by rw [hr2]; rfl)
      refine W_enter (args := [.pointer (some ⟨g, 0, none⟩), str m, str n]) 62 Tryd.func32 rfl rfl rfl ?_
      refine W_sub [(0, .pointer (some ⟨g, 0, none⟩)), (1, str m), (2, str n)] ?_ ⟨rfl, rfl, rfl, trivial⟩
      refine W_rs ?_
      refine sa rfl rfl ?_
      refine Wn ?_
      refine tN ?_
      refine W_seq ?_
      refine W_rs ?_
      refine sm rfl rfl ?_
      refine sc _ Tryd.func55 rfl (by kernel_rfl) rfl rfl ((ready_live g b D rs S _ h hok hl).mono ?_)
      rintro e_ w1 ⟨rfl, h1, hC1⟩
      refine cR ?_
      refine sa rfl rfl ?_
      refine Wn ?_
      refine tN ?_
      refine W_rs ?_
      refine sm rfl rfl ?_
      refine st (X.neq rfl rfl) rfl ?_
      refine Wn ?_
      refine tN ?_
      refine W_no rfl (rfl) ?_
      refine W_skip ?_
      refine tN ?_
      refine W_seq ?_
      refine W_rs ?_
      refine sm rfl rfl ?_
      refine sc _ Tryd.func56 rfl (by kernel_rfl) rfl rfl ((named_any n _).mono ?_)
      rintro e_ w2 ⟨rfl, hb2⟩
      refine cR ?_
      refine st (X.not rfl) rfl ?_
      refine Wn ?_
      refine tN ?_
      refine W_no rfl (by simpa using hnm) ?_
      refine W_skip ?_
      refine tN ?_
      refine W_rs ?_
      refine sm rfl rfl ?_
      refine sm rfl rfl ?_
      refine sc _ Tryd.func57 rfl (by kernel_rfl) rfl rfl ((find_some g b _ rs S m r _ (h1.bel hb2) hr).mono ?_)
      rintro e_ w3 ⟨rfl, hb3⟩
      refine cR ?_
      have h2 := (h1.bel hb2).bel hb3
      have hC2 := ((hC1.g h.inS.1).then_below hb2).then_below hb3
      have hB : Blk w3 g 88 #[.map (some b), .int .i64 (tickM D).limit, .int .i64 (tickM D).used, .int .i64 (tickM D).refused, .bool (tickM D).stops, .int .i64 (tickM D).left] := h2.blk
      refine sm rfl rfl ?_
      refine st (X.ext rfl rfl) rfl ?_
      refine st (X.ext rfl rfl) rfl ?_
      refine sa rfl rfl ?_
      refine sa rfl rfl ?_
      refine Wn ?_
      refine tN ?_
      refine W_seq ?_
      refine W_rs ?_
      refine sm rfl rfl ?_
      refine st (X.neq rfl rfl) rfl ?_
      refine Wn ?_
      refine tN ?_
      refine W_no rfl (rfl) ?_
      refine W_skip ?_
      refine tN ?_
      refine W_seq ?_
      refine W_rs ?_
      refine sm rfl rfl ?_
      refine sm rfl rfl ?_
      refine st (X.eqS rfl rfl) rfl ?_
      refine Wn ?_
      refine tN ?_
      refine W_if rfl (fun h30 => ?_) (fun h30 => ?_)
      · first | replace h30 := of_decide_eq_true h30 | replace h30 := of_decide_eq_false (notT h30) | replace h30 := notT h30 | skip
        refine W_rs ?_
        refine sa rfl rfl ?_
        refine Wn ?_
        refine tN ?_
        refine W_ret (tR ?_)
        exact (rT rfl rfl (DPost.of h2 hC2 ((opM_live hl _).trans ((if_pos hnm).trans ((fileM_some (tick_get hf) _).trans (if_pos h30)))))).1
      · first | replace h30 := of_decide_eq_false h30 | replace h30 := of_decide_eq_true (notF h30) | replace h30 := notF h30 | skip
        refine W_skip ?_
        refine tN ?_
        refine W_seq ?_
        refine W_rs ?_
        refine sm rfl rfl ?_
        refine st (X.nilChk rfl) rfl ?_
        refine st (X.fa fa88_0 rfl) rfl ?_
        refine st (X.ldL rfl hB Tryd.underlying86 rfl rfl) rfl ?_
        refine sm rfl rfl ?_
        refine st (v := .pointer none) (hv ▸ X.look (keyStr Tryd.underlying9) rfl n rfl Tryd.underlying86 (zptr _) h2.map) rfl ?_
        refine sa rfl rfl ?_
        refine Wn ?_
        refine tN ?_
        refine W_rs ?_
        refine sm rfl rfl ?_
        refine st (X.fNe rfl) rfl ?_
        refine Wn ?_
        refine tN ?_
        refine W_no rfl (rfl) ?_
        refine W_skip ?_
        refine tN ?_
        refine W_rs ?_
        refine sm rfl rfl ?_
        refine st (X.nilChk rfl) rfl ?_
        refine st (X.fa fa88_0 rfl) rfl ?_
        refine st (X.ldL rfl hB Tryd.underlying86 rfl rfl) rfl ?_
        refine sm rfl rfl ?_
        refine sdel (keyStr Tryd.underlying9) rfl m rfl Tryd.underlying86 h2.map (fun w4 hM4 hC4 => ?_)
        replace hB := hB.chg hC4 h2.gb
        refine Wn ?_
        refine tN ?_
        refine W_rs ?_
        refine sm rfl rfl ?_
        refine st (X.nilChk rfl) rfl ?_
        refine st (X.fa fa88_0 rfl) rfl ?_
        refine st (X.ldL rfl hB Tryd.underlying86 rfl rfl) rfl ?_
        refine sm rfl rfl ?_
        refine sm rfl rfl ?_
        refine smu (keyStr Tryd.underlying9) rfl n r.blk rfl rfl Tryd.underlying86 hM4 (fun w5 hM5 hC5 => ?_)
        refine Wn ?_
        refine tN ?_
        refine W_rs ?_
        refine sa rfl rfl ?_
        refine Wn ?_
        refine tN ?_
        refine W_ret ?_
        have hC45 := hC4.next hC5 (fun i hi => .inl hi)
        have h5 := h2.rename hok'.srt hr hC45 hM5
        refine (rT rfl rfl (DPost.up (x := (0, { tickM D with files := sput (mdel (tickM D).files m) n r.f })) hC2 ⟨b, _, h5.mono Ext.of⟩ (hC45.g h.inS.2) ((opM_live hl _).trans ((if_pos hnm).trans ((fileM_some (tick_get hf) _).trans ((if_neg h30).trans ?_)))))).1
        unfold lenAt
        rw [tick_get hf2]
        simp
    | some r2 =>
      have hf2 : mget D.files n = some r2.f := by rw [h.files, hr2]; rfl
      have hv := look_ptr (rs := rs) (n := n) (o := some r2.blk) (by rw [hr2]; rfl)
      obtain ⟨hlen, _, hlu⟩ := hok'.len (tick_get hf2)
      refine W_enter (args := [.pointer (some ⟨g, 0, none⟩), str m, str n]) 62 Tryd.func32 rfl rfl rfl ?_
      refine W_sub [(0, .pointer (some ⟨g, 0, none⟩)), (1, str m), (2, str n)] ?_ ⟨rfl, rfl, rfl, trivial⟩
      refine W_rs ?_
      refine sa rfl rfl ?_
      refine Wn ?_
      refine tN ?_
      refine W_seq ?_
      refine W_rs ?_
      refine sm rfl rfl ?_
      refine sc _ Tryd.func55 rfl (by kernel_rfl) rfl rfl ((ready_live g b D rs S _ h hok hl).mono ?_)
      rintro e_ w1 ⟨rfl, h1, hC1⟩
      refine cR ?_
      refine sa rfl rfl ?_
      refine Wn ?_
      refine tN ?_
      refine W_rs ?_
      refine sm rfl rfl ?_
      refine st (X.neq rfl rfl) rfl ?_
      refine Wn ?_
      refine tN ?_
      refine W_no rfl (rfl) ?_
      refine W_skip ?_
      refine tN ?_
      refine W_seq ?_
      refine W_rs ?_
      refine sm rfl rfl ?_
      refine sc _ Tryd.func56 rfl (by kernel_rfl) rfl rfl ((named_any n _).mono ?_)
      rintro e_ w2 ⟨rfl, hb2⟩
      refine cR ?_
      refine st (X.not rfl) rfl ?_
      refine Wn ?_
      refine tN ?_
      refine W_no rfl (by simpa using hnm) ?_
      refine W_skip ?_
      refine tN ?_
      refine W_rs ?_
      refine sm rfl rfl ?_
      refine sm rfl rfl ?_
      refine sc _ Tryd.func57 rfl (by kernel_rfl) rfl rfl ((find_some g b _ rs S m r _ (h1.bel hb2) hr).mono ?_)
      rintro e_ w3 ⟨rfl, hb3⟩
      refine cR ?_
      have h2 := (h1.bel hb2).bel hb3
      have hC2 := ((hC1.g h.inS.1).then_below hb2).then_below hb3
      have hF := (h2.at_ n r2 hr2).blk
      obtain ⟨a, c, hvn, _⟩ := (h2.at_ n r2 hr2).now.shape
      rw [hvn] at hF
      have hB : Blk w3 g 88 #[.map (some b), .int .i64 (tickM D).limit, .int .i64 (tickM D).used, .int .i64 (tickM D).refused, .bool (tickM D).stops, .int .i64 (tickM D).left] := h2.blk
      refine sm rfl rfl ?_
      refine st (X.ext rfl rfl) rfl ?_
      refine st (X.ext rfl rfl) rfl ?_
      refine sa rfl rfl ?_
      refine sa rfl rfl ?_
      refine Wn ?_
      refine tN ?_
      refine W_seq ?_
      refine W_rs ?_
      refine sm rfl rfl ?_
      refine st (X.neq rfl rfl) rfl ?_
      refine Wn ?_
      refine tN ?_
      refine W_no rfl (rfl) ?_
      refine W_skip ?_
      refine tN ?_
      refine W_seq ?_
      refine W_rs ?_
      refine sm rfl rfl ?_
      refine sm rfl rfl ?_
      refine st (X.eqS rfl rfl) rfl ?_
      refine Wn ?_
      refine tN ?_
      refine W_if rfl (fun h30 => ?_) (fun h30 => ?_)
      · first | replace h30 := of_decide_eq_true h30 | replace h30 := of_decide_eq_false (notT h30) | replace h30 := notT h30 | skip
        refine W_rs ?_
        refine sa rfl rfl ?_
        refine Wn ?_
        refine tN ?_
        refine W_ret (tR ?_)
        exact (rT rfl rfl (DPost.of h2 hC2 ((opM_live hl _).trans ((if_pos hnm).trans ((fileM_some (tick_get hf) _).trans (if_pos h30)))))).1
      · first | replace h30 := of_decide_eq_false h30 | replace h30 := of_decide_eq_true (notF h30) | replace h30 := notF h30 | skip
        refine W_skip ?_
        refine tN ?_
        refine W_seq ?_
        refine W_rs ?_
        refine sm rfl rfl ?_
        refine st (X.nilChk rfl) rfl ?_
        refine st (X.fa fa88_0 rfl) rfl ?_
        refine st (X.ldL rfl hB Tryd.underlying86 rfl rfl) rfl ?_
        refine sm rfl rfl ?_
        refine st (v := .pointer (some ⟨r2.blk, 0, none⟩)) (hv ▸ X.look (keyStr Tryd.underlying9) rfl n rfl Tryd.underlying86 (zptr _) h2.map) rfl ?_
        refine sa rfl rfl ?_
        refine Wn ?_
        refine tN ?_
        refine W_rs ?_
        refine sm rfl rfl ?_
        refine st (X.fNe rfl) rfl ?_
        refine Wn ?_
        refine tN ?_
        refine W_yes rfl (rfl) ?_
        refine W_still 12 (by kernel_rfl) (by kernel_rfl) ?_
        obtain ⟨w4, hw_⟩ : ∃ w4 : World, w4 = World.drew w3 := ⟨_, rfl⟩
        rw [← hw_]
        have hb : Below w3.heap.size w3 w4 := by rw [hw_]; exact bdrew (Below.refl _ _)
        clear hw_
        replace hB := hB.bel hb
        replace hF := hF.bel hb
        replace h2 := h2.bel hb
        replace hC2 := hC2.bel hb
        have hz_w4 := hb.size
        clear hb
        refine hY (X.move rfl) rfl ?_
        refine hY (X.nilChk rfl) rfl ?_
        refine hY (X.fa fa88_2 rfl) rfl ?_
        refine hY (X.ldL rfl hB Tryd.underlying3 rfl rfl) rfl ?_
        refine hY (X.move rfl) rfl ?_
        refine hY (X.nilChk rfl) rfl ?_
        refine hY (X.fa fa95_1 rfl) rfl ?_
        refine hY (X.ldL rfl hF Tryd.underlying92 rfl rfl) rfl ?_
        refine hY (X.lenL rfl rfl Tryd.underlying92) rfl ?_
        refine hY (X.sub64 rfl rfl (by omega)) rfl ?_
        refine hY (X.nilChk rfl) rfl ?_
        refine hY (X.fa fa88_2 rfl) rfl ?_
        refine hN ?_
        refine ssB rfl rfl hB siz3 rfl (by simp) (fun w5 hB3 hC3 => ?_)
        have h3 := h2.self (D' := { tickM D with used := (tickM D).used - r2.f.now.length }) hC3 hB3 rfl
        replace hB := hB3
        refine Wn ?_
        refine tN ?_
        refine W_rs ?_
        refine sm rfl rfl ?_
        refine st (X.nilChk rfl) rfl ?_
        refine st (X.fa fa88_0 rfl) rfl ?_
        refine st (X.ldL rfl hB Tryd.underlying86 rfl rfl) rfl ?_
        refine sm rfl rfl ?_
        refine sdel (keyStr Tryd.underlying9) rfl m rfl Tryd.underlying86 h3.map (fun w6 hM4 hC4 => ?_)
        replace hB := hB.chg hC4 h2.gb
        refine Wn ?_
        refine tN ?_
        refine W_rs ?_
        refine sm rfl rfl ?_
        refine st (X.nilChk rfl) rfl ?_
        refine st (X.fa fa88_0 rfl) rfl ?_
        refine st (X.ldL rfl hB Tryd.underlying86 rfl rfl) rfl ?_
        refine sm rfl rfl ?_
        refine sm rfl rfl ?_
        refine smu (keyStr Tryd.underlying9) rfl n r.blk rfl rfl Tryd.underlying86 hM4 (fun w7 hM5 hC5 => ?_)
        refine Wn ?_
        refine tN ?_
        refine W_rs ?_
        refine sa rfl rfl ?_
        refine Wn ?_
        refine tN ?_
        refine W_ret ?_
        have hC45 := hC4.next hC5 (fun i hi => .inl hi)
        have h5 := h3.rename hok'.srt hr hC45 hM5
        refine (rT rfl rfl (DPost.up (x := (0, { tickM D with files := sput (mdel (tickM D).files m) n r.f, used := (tickM D).used - r2.f.now.length })) hC2 ⟨b, _, h5.mono Ext.of⟩ ((hC3.g h.inS.1).next (hC45.g h.inS.2) (fun i hi => .inl hi)) ((opM_live hl _).trans ((if_pos hnm).trans ((fileM_some (tick_get hf) _).trans ((if_neg h30).trans ?_)))))).1
        unfold lenAt
        rw [tick_get hf2]
        rfl
theorem Rename_nil (m n : Key) (w : World) : Calls Tryd.prog 32 #[.pointer none, str m, str n] w fun e w' => e = .returned (.int .i64 2) ∧ Below w.heap.size w w' := by
  refine W_enter (args := [.pointer none, str m, str n]) 62 Tryd.func32 rfl rfl rfl ?_
  refine W_sub [(0, .pointer none), (1, str m), (2, str n)] ?_ ⟨rfl, rfl, rfl, trivial⟩
  have hbw := Below.refl w.heap.size w
  refine W_rs ?_
  refine sa rfl rfl ?_
  refine Wn ?_
  refine tN ?_
  refine W_seq ?_
  refine W_rs ?_
  refine sm rfl rfl ?_
  refine sc _ Tryd.func55 rfl (by kernel_rfl) rfl rfl ((ready_nil _).mono ?_)
  rintro e_ w1 ⟨rfl, hb⟩
  refine cR ?_
  replace hbw := bthen hbw hb
  have hz_w1 := hb.size
  clear hb
  refine sa rfl rfl ?_
  refine Wn ?_
  refine tN ?_
  refine W_rs ?_
  refine sm rfl rfl ?_
  refine st (X.neq rfl rfl) rfl ?_
  refine Wn ?_
  refine tN ?_
  refine W_yes rfl (rfl) ?_
  refine W_rs ?_
  refine sm rfl rfl ?_
  refine sa rfl rfl ?_
  refine Wn ?_
  refine tN ?_
  refine W_ret (tR ?_)
  exact (rT rfl rfl ⟨rfl, hbw⟩).1
/- ---------- Rot ---------- -/
theorem ssR {P : Program} {N : Nat} {ds : List Deferred} {Q : Post} {l : Env} {w : World} {ops : Array Oper} {rest : List Oper} {x y : Operand} {ty t e : TypeId} {pos : String} {aft : Array Edge} {g o j n c : Nat} {v : Value} {xs : List Value} (hx : ev l x = some (.pointer (some ⟨g, o + j, none⟩))) (hy : ev l y = some v) (hR : Row w e 1 (.slice (some ⟨g, o, none⟩) n c) n xs) (hj : j < n) (ht : (P.info? t).map (·.size) = some 1) (h1 : v.oneCell' = true)
    (h : ∀ w', Row w' e 1 (.slice (some ⟨g, o, none⟩) n c) n (xs.set j v) → Chg (fun k => k = g) w w' → WL P N ds ops Q rest l w') : WL P N ds ops Q (⟨none, .store t x y, ty, pos, aft, none⟩ :: rest) l w := by
  obtain ⟨g', o', c', hv, _, hnc, _, hc, hf⟩ := hR.form (by omega)
  injection hv with ea _ ec
  injection ea with ea
  injection ea with eg eo
  subst eg eo ec
  have hlen := hR.1
  exact ss (Xs.st hx hy ht h1 (by rw [hc j _ (List.getElem?_eq_getElem (by omega))]; rfl) (hf j (by omega))) (h _ (hR.store_ j hj v) ((Chg.refl (fun k => k = g) w).setCell (p := ⟨g, o + j, none⟩) (.inl rfl) v))
theorem Rot_any (g : Nat) (D : DiskD) (S : Nat → Prop) (n : Key) (i : Int) (c : UInt8) (w : World) (h : DiskAt w g D S) (hok : DOk D) :
    Calls Tryd.prog 64 #[.pointer (some ⟨g, 0, none⟩), str n, .int .i64 i, .int .u8 c.toNat] w (DPost g S w (rotM D n i c)) := by
  have h0 := h
  obtain ⟨b, rs, h⟩ := h
  cases hr : mget rs n with
  | none =>
    have hf : mget D.files n = none := by rw [h.files, hr]; rfl
    refine W_enter (args := [.pointer (some ⟨g, 0, none⟩), str n, .int .i64 i, .int .u8 c.toNat]) 42 Tryd.func64 rfl rfl rfl ?_
    refine W_sub [(0, .pointer (some ⟨g, 0, none⟩)), (1, str n), (2, .int .i64 i), (3, .int .u8 c.toNat)] ?_ ⟨rfl, rfl, rfl, rfl, trivial⟩
    have hbw := Below.refl w.heap.size w
    refine W_rs ?_
    refine sa rfl rfl ?_
    refine Wn ?_
    refine tN ?_
    refine W_rs ?_
    refine sm rfl rfl ?_
    refine sm rfl rfl ?_
    refine sc _ Tryd.func57 rfl (by kernel_rfl) rfl rfl ((find_none g b D rs S n _ (h.bel hbw) hr).mono ?_)
    rintro e_ w1 ⟨rfl, hb⟩
    refine cR ?_
    replace hbw := bthen hbw hb
    have hz_w1 := hb.size
    clear hb
    refine sm rfl rfl ?_
    refine st (X.ext rfl rfl) rfl ?_
    refine st (X.ext rfl rfl) rfl ?_
    refine sa rfl rfl ?_
    refine sa rfl rfl ?_
    refine Wn ?_
    refine tN ?_
    refine W_seq ?_
    refine W_block ?_
    refine W_rs ?_
    refine sm rfl rfl ?_
    refine st (X.neq rfl rfl) rfl ?_
    refine sa rfl rfl ?_
    refine Wn ?_
    refine tN ?_
    refine W_yes rfl (rfl) ?_
    refine W_rs ?_
    refine sm rfl rfl ?_
    refine sa rfl rfl ?_
    refine Wn ?_
    refine tN ?_
    refine W_ret (bR (tR ?_))
    exact (rT rfl rfl (DPost.same h0 hbw (fileM_none hf _))).1
  | some r =>
    have hf : mget D.files n = some r.f := by rw [h.files, hr]; rfl
    have hlen := (hok.len hf).1
    have hfile := h.at_ n r hr
    have hF := hfile.blk
    have hNo := hfile.now
    obtain ⟨a, ca, hvn, hc1, _⟩ := hfile.now.shape
    rw [hvn] at hF hNo
    refine W_enter (args := [.pointer (some ⟨g, 0, none⟩), str n, .int .i64 i, .int .u8 c.toNat]) 42 Tryd.func64 rfl rfl rfl ?_
    refine W_sub [(0, .pointer (some ⟨g, 0, none⟩)), (1, str n), (2, .int .i64 i), (3, .int .u8 c.toNat)] ?_ ⟨rfl, rfl, rfl, rfl, trivial⟩
    have hbw := Below.refl w.heap.size w
    refine W_rs ?_
    refine sa rfl rfl ?_
    refine Wn ?_
    refine tN ?_
    refine W_rs ?_
    refine sm rfl rfl ?_
    refine sm rfl rfl ?_
    refine sc _ Tryd.func57 rfl (by kernel_rfl) rfl rfl ((find_some g b D rs S n r _ (h.bel hbw) hr).mono ?_)
    rintro e_ w1 ⟨rfl, hb⟩
    refine cR ?_
    replace hbw := bthen hbw hb
    replace hF := hF.bel hb
    replace hNo := hNo.bel hb
    have hz_w1 := hb.size
    clear hb
    refine sm rfl rfl ?_
    refine st (X.ext rfl rfl) rfl ?_
    refine st (X.ext rfl rfl) rfl ?_
    refine sa rfl rfl ?_
    refine sa rfl rfl ?_
    refine Wn ?_
    refine tN ?_
    refine W_seq ?_
    refine W_block ?_
    refine W_rs ?_
    refine sm rfl rfl ?_
    refine st (X.neq rfl rfl) rfl ?_
    refine sa rfl rfl ?_
    refine Wn ?_
    refine tN ?_
    refine W_no rfl (rfl) ?_
    refine W_rs ?_
    refine sm rfl rfl ?_
    refine st (X.lss rfl rfl) rfl ?_
    refine sb rfl rfl (fun h24 => ?_) (fun h24 => ?_)
    · first | replace h24 := of_decide_eq_true h24 | replace h24 := of_decide_eq_false (notT h24) | replace h24 := notT h24 | skip
      refine gN (g := 24) rfl rfl rfl rfl ?_
      refine gN (g := 24) rfl rfl rfl rfl ?_
      refine gN (g := 24) rfl rfl rfl rfl ?_
      refine gN (g := 24) rfl rfl rfl rfl ?_
      refine gN (g := 24) rfl rfl rfl rfl ?_
      refine gN (g := 24) rfl rfl rfl rfl ?_
      refine gN (g := 24) rfl rfl rfl rfl ?_
      refine st (X.pickT rfl rfl) rfl ?_
      refine sa rfl rfl ?_
      refine Wn ?_
      refine tN ?_
      refine W_yes rfl (rfl) ?_
      refine W_rs ?_
      refine sa rfl rfl ?_
      refine Wn ?_
      refine tN ?_
      refine W_ret (bR (tR ?_))
      exact (rT rfl rfl (DPost.same h0 hbw ((fileM_some hf _).trans (if_pos (by omega))))).1
    · first | replace h24 := of_decide_eq_false h24 | replace h24 := of_decide_eq_true (notF h24) | replace h24 := notF h24 | skip
      refine gY (g := 24) rfl rfl rfl ?_
      refine sm rfl rfl ?_
      refine gY (g := 24) rfl rfl rfl ?_
      refine sm rfl rfl ?_
      refine gY (g := 24) rfl rfl rfl ?_
      refine st (X.nilChk rfl) rfl ?_
      refine gY (g := 24) rfl rfl rfl ?_
      refine st (X.fa fa95_1 rfl) rfl ?_
      refine gY (g := 24) rfl rfl rfl ?_
      refine st (X.ldL rfl hF Tryd.underlying92 rfl rfl) rfl ?_
      refine gY (g := 24) rfl rfl rfl ?_
      refine st (X.lenL rfl rfl Tryd.underlying92) rfl ?_
      refine gY (g := 24) rfl rfl rfl ?_
      refine st (X.geq rfl rfl) rfl ?_
      refine st (X.pickF rfl rfl) rfl ?_
      refine sa rfl rfl ?_
      refine Wn ?_
      refine tN ?_
      refine W_if rfl (fun h21 => ?_) (fun h21 => ?_)
      · first | replace h21 := of_decide_eq_true h21 | replace h21 := of_decide_eq_false (notT h21) | replace h21 := notT h21 | skip
        refine W_rs ?_
        refine sa rfl rfl ?_
        refine Wn ?_
        refine tN ?_
        refine W_ret (bR (tR ?_))
        exact (rT rfl rfl (DPost.same h0 hbw ((fileM_some hf _).trans (if_pos (by omega))))).1
      · first | replace h21 := of_decide_eq_false h21 | replace h21 := of_decide_eq_true (notF h21) | replace h21 := notF h21 | skip
        refine W_skip ?_
        refine bN ?_
        refine tN ?_
        refine W_rs ?_
        obtain ⟨j, rfl⟩ : ∃ j : Nat, i = j := ⟨i.toNat, by omega⟩
        obtain ⟨gn, on, cn, hv, _⟩ := hNo.form (by omega)
        injection hv with ea _ ec
        subst ea ec
        refine sm rfl rfl ?_
        refine st (X.nilChk rfl) rfl ?_
        refine st (X.fa fa95_1 rfl) rfl ?_
        refine st (X.ldL rfl hF Tryd.underlying92 rfl rfl) rfl ?_
        refine sm rfl rfl ?_
        refine sm rfl rfl ?_
        refine st (X.idxA (j := j) rfl rfl Tryd.underlying92 siz5 rfl (by omega)) rfl ?_
        refine ssR (j := j) (by rw [Nat.mul_one]; rfl) rfl hNo (by omega) siz5 rfl (fun w2 hN2 hC2 => ?_)
        have hF2 := hF.chg hC2 (fun e => hNo.ne2 hF (by decide) gn rfl e.symm)
        have hN3 : Row w2 5 1 (.slice (some ⟨gn, on, none⟩) r.f.now.length ca) (r.f.now.set j c).length ((r.f.now.set j c).map bv) := by
          rw [List.length_set, List.map_set]
          exact hN2
        have hnl : (r.f.now.set j c).length = r.f.now.length := List.length_set ..
        refine Wn ?_
        refine tN ?_
        refine W_rs ?_
        refine sm rfl rfl ?_
        refine sc _ Tryd.func59 rfl (by kernel_rfl) rfl rfl ((lasts_any r.blk r.vl _ r.vp (r.f.now.set j c) _ hF2 hN3 (by omega)).mono ?_)
        rintro e_ w3 ⟨rfl, vl', hB3, hL3, hN4, hO3, hC3⟩
        refine cR ?_
        refine Wn ?_
        refine tN ?_
        refine W_rs ?_
        refine sa rfl rfl ?_
        refine Wn ?_
        refine tN ?_
        refine W_ret ?_
        have hCw : Chg (fun k => k = g ∨ r.owns k) w w3 := (((Chg.of_below hbw _).next hC2 (fun k hk => .inl (.inr (.inr (.inr (.inl (by rw [hvn]; exact congrArg some hk.symm))))))).next hC3 (fun k hk => .inl (.inr (.inl hk))))
        have hz3 := hbw.size
        have hz4 := hC2.size
        have h5 := h.file (r' := ⟨r.blk, vl', .slice (some ⟨gn, on, none⟩) r.f.now.length ca, .slice none 0 0, ⟨r.f.now.set j c, r.f.now.set j c, []⟩⟩) (D' := { D with files := sput D.files n ⟨r.f.now.set j c, r.f.now.set j c, []⟩ }) hr hCw (((h.blk.belowAll hbw).chg hC2 (fun e => (h.ne hr).1 (.inr (.inr (.inl (by rw [hvn]; exact congrArg some e.symm)))))).chg hC3 (fun e => (h.ne hr).1 (.inl e))) (fun m => mget_sput hok.srt n _ m) ⟨hB3, hL3, hN4, Row.nil _ _ _, fun k hk hk2 => ?_⟩ rfl ?_
        · have e1 : rotM D n j c = (0, { D with files := sput D.files n ⟨r.f.now.set j c, r.f.now.set j c, []⟩ }) := (fileM_some hf _).trans (if_neg (by omega))
          rw [e1]
          exact (rT rfl rfl ⟨rfl, ⟨b, _, h5⟩, hCw.mono (fun k _ hk => hk.elim (fun e => e ▸ h.inS.1) (h.inR n r k hr))⟩).1
        · have := hO3 k hk
          have := hfile.lt (k := k) (.inr (.inr (.inl (by rw [hvn]; exact hk2))))
          omega
        · rintro k (e | e | e | e)
          · exact .inl (.inl e)
          · have := hO3 k e
            exact .inr (by omega)
          · exact .inl (.inr (.inr (.inl (by rw [hvn]; exact e))))
          · simp [Value.ownBlock] at e
end Go.Proofs.YtnijmegalgoipaaDoor
