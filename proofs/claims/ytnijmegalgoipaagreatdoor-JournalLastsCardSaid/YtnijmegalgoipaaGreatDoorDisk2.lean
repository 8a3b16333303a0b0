/- disk: Create, Append, Write, Sync. disk: Create, Rename, Remove, Rot. disk: Rename, Remove, Rot. disk: what stays true of the plain disk behind each call. disk: kept, crash of a file. disk: List (maps.Keys and slices.Sorted at names). disk: Crash. disk: Copy; what nil disks answer. -/
import Derived.Test.YtnijmegalgoipaaGreatDoorDisk1
import Derived.Test.YtnijmegalgoipaaGreatDoorRowsRow
import Derived.Test.YtnijmegalgoipaaGreatDoorFloatW
import Derived.Test.YtnijmegalgoipaaGreatDoorIterG
import Derived.Test.YtnijmegalgoipaaGreatDoorMapsB
import Derived.Shelf.SlIter.Sorted
import Derived.Shelf.SlIter.Keys
import Derived.Shelf.SortM.Plain
import Derived.Shelf.SortM.SortNone
namespace Go.Proofs.YtnijmegalgoipaaGreatDoor
open Go.RowKit
theorem Chg.g {S : Nat → Prop} {w w' : World} {g : Nat} (h : Chg (fun k => k = g) w w') (hg : S g) : Chg S w w' := h.mono (fun k _ hk => by rw [hk]; exact hg)
/- ---------- Append ---------- -/
theorem Append_any (g : Nat) (D : DiskD) (S : Nat → Prop) (n : Key) (d : List UInt8) (w : World) (h : DiskAt w g D S) (hok : DOk D) (hbud : DBud D) (hd : d.length ≤ 1099511627776) :
    Calls Tryz.prog 42 #[.pointer (some ⟨g, 0, none⟩), str n, str d] w (DPost g S w (appendM D n d)) := by
  have h0 := h
  obtain ⟨b, rs, h⟩ := h
  by_cases hl : D.stops = true ∧ D.left = 0
  · skip
    refine W_enter (args := [.pointer (some ⟨g, 0, none⟩), str n, str d]) 33 Tryz.func42 rfl rfl rfl ?_
    refine W_sub [(0, .pointer (some ⟨g, 0, none⟩)), (1, str n), (2, str d)] ?_ ⟨rfl, rfl, rfl, trivial⟩
    have hbw := Below.refl w.heap.size w
    refine W_rs ?_
    refine sa rfl rfl ?_
    refine Wn ?_
    refine tN ?_
    refine W_seq ?_
    refine W_rs ?_
    refine sm rfl rfl ?_
    refine sc _ Tryz.func89 rfl (by kernel_rfl) rfl rfl ((ready_dead g b D _ (h.bel hbw).blk hl).mono ?_)
    rintro e_ w1 ⟨rfl, hb⟩
    refine cR ?_
    replace hbw := bthen hbw hb
    have hz_w1 := hb.size
    clear hb
    refine sa rfl rfl ?_
    refine Wn ?_
    refine tN ?_
    refine W_rs ?_
    refine sm rfl rfl ?_
    refine st (X.neq rfl rfl) rfl ?_
    refine Wn ?_
    refine tN ?_
    refine W_yes rfl (rfl) ?_
    refine W_rs ?_
    refine sm rfl rfl ?_
    refine sa rfl rfl ?_
    refine Wn ?_
    refine tN ?_
    refine W_ret (tR ?_)
    exact (rT rfl rfl (DPost.same h0 hbw (opM_dead hl _))).1
  have hok' := tick_ok hok hl
  have hbud' := tick_bud hbud
  cases hr : mget rs n with
  | none =>
    have hf : mget D.files n = none := by rw [h.files, hr]; rfl
    refine W_enter (args := [.pointer (some ⟨g, 0, none⟩), str n, str d]) 33 Tryz.func42 rfl rfl rfl ?_
    refine W_sub [(0, .pointer (some ⟨g, 0, none⟩)), (1, str n), (2, str d)] ?_ ⟨rfl, rfl, rfl, trivial⟩
    refine W_rs ?_
    refine sa rfl rfl ?_
    refine Wn ?_
    refine tN ?_
    refine W_seq ?_
    refine W_rs ?_
    refine sm rfl rfl ?_
    refine sc _ Tryz.func89 rfl (by kernel_rfl) rfl rfl ((ready_live g b D rs S _ h hok hl).mono ?_)
    rintro e_ w1 ⟨rfl, h1, hC1⟩
    refine cR ?_
    refine sa rfl rfl ?_
    refine Wn ?_
    refine tN ?_
    refine W_rs ?_
    refine sm rfl rfl ?_
    refine st (X.neq rfl rfl) rfl ?_
    refine Wn ?_
    refine tN ?_
    refine W_no rfl (rfl) ?_
    refine W_skip ?_
    refine tN ?_
    refine W_rs ?_
    refine sm rfl rfl ?_
    refine sm rfl rfl ?_
    refine sc _ Tryz.func70 rfl (by kernel_rfl) rfl rfl ((find_none g b _ rs S n _ h1 hr).mono ?_)
    rintro e_ w2 ⟨rfl, hb2⟩
    refine cR ?_
    refine sm rfl rfl ?_
    refine st (X.ext rfl rfl) rfl ?_
    refine st (X.ext rfl rfl) rfl ?_
    refine sa rfl rfl ?_
    refine sa rfl rfl ?_
    refine Wn ?_
    refine tN ?_
    refine W_seq ?_
    refine W_rs ?_
    refine sm rfl rfl ?_
    refine st (X.neq rfl rfl) rfl ?_
    refine Wn ?_
    refine tN ?_
    refine W_yes rfl (rfl) ?_
    refine W_rs ?_
    refine sm rfl rfl ?_
    refine sa rfl rfl ?_
    refine Wn ?_
    refine tN ?_
    refine W_ret (tR ?_)
    exact (rT rfl rfl (DPost.of (h1.bel hb2) ((hC1.g h.inS.1).then_below hb2) ((opM_live hl _).trans (fileM_none (tick_get hf) _)))).1
  | some r =>
    have hf : mget D.files n = some r.f := by rw [h.files, hr]; rfl
    have hp := (hbud'.pend n r.f (tick_get hf)).2
    refine W_enter (args := [.pointer (some ⟨g, 0, none⟩), str n, str d]) 33 Tryz.func42 rfl rfl rfl ?_
    refine W_sub [(0, .pointer (some ⟨g, 0, none⟩)), (1, str n), (2, str d)] ?_ ⟨rfl, rfl, rfl, trivial⟩
    refine W_rs ?_
    refine sa rfl rfl ?_
    refine Wn ?_
    refine tN ?_
    refine W_seq ?_
    refine W_rs ?_
    refine sm rfl rfl ?_
    refine sc _ Tryz.func89 rfl (by kernel_rfl) rfl rfl ((ready_live g b D rs S _ h hok hl).mono ?_)
    rintro e_ w1 ⟨rfl, h1, hC1⟩
    refine cR ?_
    refine sa rfl rfl ?_
    refine Wn ?_
    refine tN ?_
    refine W_rs ?_
    refine sm rfl rfl ?_
    refine st (X.neq rfl rfl) rfl ?_
    refine Wn ?_
    refine tN ?_
    refine W_no rfl (rfl) ?_
    refine W_skip ?_
    refine tN ?_
    refine W_rs ?_
    refine sm rfl rfl ?_
    refine sm rfl rfl ?_
    refine sc _ Tryz.func70 rfl (by kernel_rfl) rfl rfl ((find_some g b _ rs S n r _ h1 hr).mono ?_)
    rintro e_ w2 ⟨rfl, hb2⟩
    refine cR ?_
    have h2 := h1.bel hb2
    have hF := (h2.at_ n r hr).blk
    obtain ⟨a, c, hvn, _⟩ := (h2.at_ n r hr).now.shape
    rw [hvn] at hF
    refine sm rfl rfl ?_
    refine st (X.ext rfl rfl) rfl ?_
    refine st (X.ext rfl rfl) rfl ?_
    refine sa rfl rfl ?_
    refine sa rfl rfl ?_
    refine Wn ?_
    refine tN ?_
    refine W_seq ?_
    refine W_rs ?_
    refine sm rfl rfl ?_
    refine st (X.neq rfl rfl) rfl ?_
    refine Wn ?_
    refine tN ?_
    refine W_no rfl (rfl) ?_
    refine W_skip ?_
    refine tN ?_
    refine W_rs ?_
    refine sm rfl rfl ?_
    refine sm rfl rfl ?_
    refine sm rfl rfl ?_
    refine st (X.nilChk rfl) rfl ?_
    refine st (X.fa fa98_1 rfl) rfl ?_
    refine st (X.ldL rfl hF Tryz.underlying94 rfl rfl) rfl ?_
    refine st (X.lenL rfl rfl Tryz.underlying94) rfl ?_
    refine sm rfl rfl ?_
    refine sc _ Tryz.func91 rfl (by kernel_rfl) rfl rfl ((put_any g b _ rs S n r _ d _ h2 hok' hr (Nat.le_refl _) hd hp hbud'.ref).mono ?_)
    rintro e_ w3 ⟨rfl, hD, hC3⟩
    refine cR ?_
    refine sa rfl rfl ?_
    refine Wn ?_
    refine tN ?_
    refine W_ret ?_
    exact (rT rfl rfl (DPost.up ((hC1.g h.inS.1).then_below hb2) hD hC3 ((opM_live hl _).trans (fileM_some (tick_get hf) _)))).1
theorem Append_nil (n : Key) (d : List UInt8) (w : World) : Calls Tryz.prog 42 #[.pointer none, str n, str d] w fun e w' => e = .returned (.int .i64 2) ∧ Below w.heap.size w w' := by
  refine W_enter (args := [.pointer none, str n, str d]) 33 Tryz.func42 rfl rfl rfl ?_
  refine W_sub [(0, .pointer none), (1, str n), (2, str d)] ?_ ⟨rfl, rfl, rfl, trivial⟩
  have hbw := Below.refl w.heap.size w
  refine W_rs ?_
  refine sa rfl rfl ?_
  refine Wn ?_
  refine tN ?_
  refine W_seq ?_
  refine W_rs ?_
  refine sm rfl rfl ?_
  refine sc _ Tryz.func89 rfl (by kernel_rfl) rfl rfl ((ready_nil _).mono ?_)
  rintro e_ w1 ⟨rfl, hb⟩
  refine cR ?_
  replace hbw := bthen hbw hb
  have hz_w1 := hb.size
  clear hb
  refine sa rfl rfl ?_
  refine Wn ?_
  refine tN ?_
  refine W_rs ?_
  refine sm rfl rfl ?_
  refine st (X.neq rfl rfl) rfl ?_
  refine Wn ?_
  refine tN ?_
  refine W_yes rfl (rfl) ?_
  refine W_rs ?_
  refine sm rfl rfl ?_
  refine sa rfl rfl ?_
  refine Wn ?_
  refine tN ?_
  refine W_ret (tR ?_)
  exact (rT rfl rfl ⟨rfl, hbw⟩).1
/- ---------- Write ---------- -/
theorem Write_any (g : Nat) (D : DiskD) (S : Nat → Prop) (n : Key) (i : Int) (d : List UInt8) (w : World) (h : DiskAt w g D S) (hok : DOk D) (hbud : DBud D) (hd : d.length ≤ 1099511627776) :
    Calls Tryz.prog 44 #[.pointer (some ⟨g, 0, none⟩), str n, .int .i64 i, str d] w (DPost g S w (writeM D n i d)) := by
  have h0 := h
  obtain ⟨b, rs, h⟩ := h
  by_cases hl : D.stops = true ∧ D.left = 0
  · skip
    refine W_enter (args := [.pointer (some ⟨g, 0, none⟩), str n, .int .i64 i, str d]) 44 Tryz.func44 rfl rfl rfl ?_
    refine W_sub [(0, .pointer (some ⟨g, 0, none⟩)), (1, str n), (2, .int .i64 i), (3, str d)] ?_ ⟨rfl, rfl, rfl, rfl, trivial⟩
    have hbw := Below.refl w.heap.size w
    refine W_rs ?_
    refine sa rfl rfl ?_
    refine Wn ?_
    refine tN ?_
    refine W_seq ?_
    refine W_rs ?_
    refine sm rfl rfl ?_
    refine sc _ Tryz.func89 rfl (by kernel_rfl) rfl rfl ((ready_dead g b D _ (h.bel hbw).blk hl).mono ?_)
    rintro e_ w1 ⟨rfl, hb⟩
    refine cR ?_
    replace hbw := bthen hbw hb
    have hz_w1 := hb.size
    clear hb
    refine sa rfl rfl ?_
    refine Wn ?_
    refine tN ?_
    refine W_rs ?_
    refine sm rfl rfl ?_
    refine st (X.neq rfl rfl) rfl ?_
    refine Wn ?_
    refine tN ?_
    refine W_yes rfl (rfl) ?_
    refine W_rs ?_
    refine sm rfl rfl ?_
    refine sa rfl rfl ?_
    refine Wn ?_
    refine tN ?_
    refine W_ret (tR ?_)
    exact (rT rfl rfl (DPost.same h0 hbw (opM_dead hl _))).1
  have hok' := tick_ok hok hl
  have hbud' := tick_bud hbud
  cases hr : mget rs n with
  | none =>
    have hf : mget D.files n = none := by rw [h.files, hr]; rfl
    refine W_enter (args := [.pointer (some ⟨g, 0, none⟩), str n, .int .i64 i, str d]) 44 Tryz.func44 rfl rfl rfl ?_
    refine W_sub [(0, .pointer (some ⟨g, 0, none⟩)), (1, str n), (2, .int .i64 i), (3, str d)] ?_ ⟨rfl, rfl, rfl, rfl, trivial⟩
    refine W_rs ?_
    refine sa rfl rfl ?_
    refine Wn ?_
    refine tN ?_
    refine W_seq ?_
    refine W_rs ?_
    refine sm rfl rfl ?_
    refine sc _ Tryz.func89 rfl (by kernel_rfl) rfl rfl ((ready_live g b D rs S _ h hok hl).mono ?_)
    rintro e_ w1 ⟨rfl, h1, hC1⟩
    refine cR ?_
    refine sa rfl rfl ?_
    refine Wn ?_
    refine tN ?_
    refine W_rs ?_
    refine sm rfl rfl ?_
    refine st (X.neq rfl rfl) rfl ?_
    refine Wn ?_
    refine tN ?_
    refine W_no rfl (rfl) ?_
    refine W_skip ?_
    refine tN ?_
    refine W_rs ?_
    refine sm rfl rfl ?_
    refine sm rfl rfl ?_
    refine sc _ Tryz.func70 rfl (by kernel_rfl) rfl rfl ((find_none g b _ rs S n _ h1 hr).mono ?_)
    rintro e_ w2 ⟨rfl, hb2⟩
    refine cR ?_
    refine sm rfl rfl ?_
    refine st (X.ext rfl rfl) rfl ?_
    refine st (X.ext rfl rfl) rfl ?_
    refine sa rfl rfl ?_
    refine sa rfl rfl ?_
    refine Wn ?_
    refine tN ?_
    refine W_seq ?_
    refine W_block ?_
    refine W_rs ?_
    refine sm rfl rfl ?_
    refine st (X.neq rfl rfl) rfl ?_
    refine sa rfl rfl ?_
    refine Wn ?_
    refine tN ?_
    refine W_yes rfl (rfl) ?_
    refine W_rs ?_
    refine sm rfl rfl ?_
    refine sa rfl rfl ?_
    refine Wn ?_
    refine tN ?_
    refine W_ret (bR (tR ?_))
    exact (rT rfl rfl (DPost.of (h1.bel hb2) ((hC1.g h.inS.1).then_below hb2) ((opM_live hl _).trans (fileM_none (tick_get hf) _)))).1
  | some r =>
    have hf : mget D.files n = some r.f := by rw [h.files, hr]; rfl
    have hp := (hbud'.pend n r.f (tick_get hf)).2
    refine W_enter (args := [.pointer (some ⟨g, 0, none⟩), str n, .int .i64 i, str d]) 44 Tryz.func44 rfl rfl rfl ?_
    refine W_sub [(0, .pointer (some ⟨g, 0, none⟩)), (1, str n), (2, .int .i64 i), (3, str d)] ?_ ⟨rfl, rfl, rfl, rfl, trivial⟩
    refine W_rs ?_
    refine sa rfl rfl ?_
    refine Wn ?_
    refine tN ?_
    refine W_seq ?_
    refine W_rs ?_
    refine sm rfl rfl ?_
    refine sc _ Tryz.func89 rfl (by kernel_rfl) rfl rfl ((ready_live g b D rs S _ h hok hl).mono ?_)
    rintro e_ w1 ⟨rfl, h1, hC1⟩
    refine cR ?_
    refine sa rfl rfl ?_
    refine Wn ?_
    refine tN ?_
    refine W_rs ?_
    refine sm rfl rfl ?_
    refine st (X.neq rfl rfl) rfl ?_
    refine Wn ?_
    refine tN ?_
    refine W_no rfl (rfl) ?_
    refine W_skip ?_
    refine tN ?_
    refine W_rs ?_
    refine sm rfl rfl ?_
    refine sm rfl rfl ?_
    refine sc _ Tryz.func70 rfl (by kernel_rfl) rfl rfl ((find_some g b _ rs S n r _ h1 hr).mono ?_)
    rintro e_ w2 ⟨rfl, hb2⟩
    refine cR ?_
    have h2 := h1.bel hb2
    have hF := (h2.at_ n r hr).blk
    obtain ⟨a, c, hvn, _⟩ := (h2.at_ n r hr).now.shape
    rw [hvn] at hF
    refine sm rfl rfl ?_
    refine st (X.ext rfl rfl) rfl ?_
    refine st (X.ext rfl rfl) rfl ?_
    refine sa rfl rfl ?_
    refine sa rfl rfl ?_
    refine Wn ?_
    refine tN ?_
    refine W_seq ?_
    refine W_block ?_
    refine W_rs ?_
    refine sm rfl rfl ?_
    refine st (X.neq rfl rfl) rfl ?_
    refine sa rfl rfl ?_
    refine Wn ?_
    refine tN ?_
    refine W_no rfl (rfl) ?_
    refine W_rs ?_
    refine sm rfl rfl ?_
    refine st (X.lss rfl rfl) rfl ?_
    refine sb rfl rfl (fun h30 => ?_) (fun h30 => ?_)
    · first | replace h30 := of_decide_eq_true h30 | replace h30 := of_decide_eq_false (notT h30) | replace h30 := notT h30 | skip
      refine gN (g := 30) rfl rfl rfl rfl ?_
      refine gN (g := 30) rfl rfl rfl rfl ?_
      refine gN (g := 30) rfl rfl rfl rfl ?_
      refine gN (g := 30) rfl rfl rfl rfl ?_
      refine gN (g := 30) rfl rfl rfl rfl ?_
      refine gN (g := 30) rfl rfl rfl rfl ?_
      refine gN (g := 30) rfl rfl rfl rfl ?_
      refine st (X.pickT rfl rfl) rfl ?_
      refine sa rfl rfl ?_
      refine Wn ?_
      refine tN ?_
      refine W_yes rfl (rfl) ?_
      refine W_rs ?_
      refine sa rfl rfl ?_
      refine Wn ?_
      refine tN ?_
      refine W_ret (bR (tR ?_))
      refine (rT rfl rfl (DPost.of h2 ((hC1.g h.inS.1).then_below hb2) ((opM_live hl _).trans ((fileM_some (tick_get hf) _).trans ?_)))).1
      exact if_pos (by omega)
    · first | replace h30 := of_decide_eq_false h30 | replace h30 := of_decide_eq_true (notF h30) | replace h30 := notF h30 | skip
      refine gY (g := 30) rfl rfl rfl ?_
      refine sm rfl rfl ?_
      refine gY (g := 30) rfl rfl rfl ?_
      refine sm rfl rfl ?_
      refine gY (g := 30) rfl rfl rfl ?_
      refine st (X.nilChk rfl) rfl ?_
      refine gY (g := 30) rfl rfl rfl ?_
      refine st (X.fa fa98_1 rfl) rfl ?_
      refine gY (g := 30) rfl rfl rfl ?_
      refine st (X.ldL rfl hF Tryz.underlying94 rfl rfl) rfl ?_
      refine gY (g := 30) rfl rfl rfl ?_
      refine st (X.lenL rfl rfl Tryz.underlying94) rfl ?_
      refine gY (g := 30) rfl rfl rfl ?_
      refine st (X.gtr rfl rfl) rfl ?_
      refine st (X.pickF rfl rfl) rfl ?_
      refine sa rfl rfl ?_
      refine Wn ?_
      refine tN ?_
      refine W_if rfl (fun h27 => ?_) (fun h27 => ?_)
      · first | replace h27 := of_decide_eq_true h27 | replace h27 := of_decide_eq_false (notT h27) | replace h27 := notT h27 | skip
        refine W_rs ?_
        refine sa rfl rfl ?_
        refine Wn ?_
        refine tN ?_
        refine W_ret (bR (tR ?_))
        refine (rT rfl rfl (DPost.of h2 ((hC1.g h.inS.1).then_below hb2) ((opM_live hl _).trans ((fileM_some (tick_get hf) _).trans ?_)))).1
        exact if_pos (by omega)
      · first | replace h27 := of_decide_eq_false h27 | replace h27 := of_decide_eq_true (notF h27) | replace h27 := notF h27 | skip
        refine W_skip ?_
        refine bN ?_
        refine tN ?_
        refine W_rs ?_
        obtain ⟨at_, rfl⟩ : ∃ at_ : Nat, i = at_ := ⟨i.toNat, by omega⟩
        refine sm rfl rfl ?_
        refine sm rfl rfl ?_
        refine sm rfl rfl ?_
        refine sm rfl rfl ?_
        refine sc _ Tryz.func91 rfl (by kernel_rfl) rfl rfl ((put_any g b _ rs S n r at_ d _ h2 hok' hr (by omega) hd hp hbud'.ref).mono ?_)
        rintro e_ w3 ⟨rfl, hD, hC3⟩
        refine cR ?_
        refine sa rfl rfl ?_
        refine Wn ?_
        refine tN ?_
        refine W_ret ?_
        refine (rT rfl rfl (DPost.up ((hC1.g h.inS.1).then_below hb2) hD hC3 ((opM_live hl _).trans ((fileM_some (tick_get hf) _).trans ?_)))).1
        exact if_neg (by omega)
theorem Write_nil (n : Key) (i : Int) (d : List UInt8) (w : World) : Calls Tryz.prog 44 #[.pointer none, str n, .int .i64 i, str d] w fun e w' => e = .returned (.int .i64 2) ∧ Below w.heap.size w w' := by
  refine W_enter (args := [.pointer none, str n, .int .i64 i, str d]) 44 Tryz.func44 rfl rfl rfl ?_
  refine W_sub [(0, .pointer none), (1, str n), (2, .int .i64 i), (3, str d)] ?_ ⟨rfl, rfl, rfl, rfl, trivial⟩
  have hbw := Below.refl w.heap.size w
  refine W_rs ?_
  refine sa rfl rfl ?_
  refine Wn ?_
  refine tN ?_
  refine W_seq ?_
  refine W_rs ?_
  refine sm rfl rfl ?_
  refine sc _ Tryz.func89 rfl (by kernel_rfl) rfl rfl ((ready_nil _).mono ?_)
  rintro e_ w1 ⟨rfl, hb⟩
  refine cR ?_
  replace hbw := bthen hbw hb
  have hz_w1 := hb.size
  clear hb
  refine sa rfl rfl ?_
  refine Wn ?_
  refine tN ?_
  refine W_rs ?_
  refine sm rfl rfl ?_
  refine st (X.neq rfl rfl) rfl ?_
  refine Wn ?_
  refine tN ?_
  refine W_yes rfl (rfl) ?_
  refine W_rs ?_
  refine sm rfl rfl ?_
  refine sa rfl rfl ?_
  refine Wn ?_
  refine tN ?_
  refine W_ret (tR ?_)
  exact (rT rfl rfl ⟨rfl, hbw⟩).1
/- ---------- Sync ---------- -/
/-- a file whose bytes last -/
theorem DiskIn.lasts {w w' : World} {g b : Nat} {D : DiskD} {rs : List (Key × FRec)} {S : Nat → Prop} {n : Key} {r : FRec} {vl' : Value} (h : DiskIn w g b D rs S) (hr : mget rs n = some r) (hs : Rising D.files)
    (hB : Blk w' r.blk 98 #[vl', r.vn, .slice none 0 0]) (hL : Row w' 5 1 vl' r.f.now.length (r.f.now.map bv)) (hN : Row w' 5 1 r.vn r.f.now.length (r.f.now.map bv)) (hO : ∀ k, vl'.ownBlock = some k → w.heap.size ≤ k) (hC : Chg (fun k => k = r.blk) w w') :
    DiskIn w' g b { D with files := sput D.files n (lastsM r.f) } (mput rs n ⟨r.blk, vl', r.vn, .slice none 0 0, lastsM r.f⟩) (Ext S w w') := by
  refine h.file hr (hC.mono (fun k _ hk => .inr (.inl hk))) (h.blk.chg hC (fun e => (h.ne hr).1 (.inl e))) (fun m => mget_sput hs n _ m) ⟨hB, hL, hN, Row.nil _ _ _, fun k hk hk2 => ?_⟩ rfl ?_
  · have := (h.at_ n r hr).lt (.inr (.inr (.inl hk2)))
    have := hO k hk
    omega
  · rintro k (e | e | e | e)
    · exact .inl (.inl e)
    · exact .inr (hO k e)
    · exact .inl (.inr (.inr (.inl e)))
    · simp [Value.ownBlock] at e
theorem Sync_any (g : Nat) (D : DiskD) (S : Nat → Prop) (n : Key) (w : World) (h : DiskAt w g D S) (hok : DOk D) :
    Calls Tryz.prog 43 #[.pointer (some ⟨g, 0, none⟩), str n] w (DPost g S w (syncM D n)) := by
  have h0 := h
  obtain ⟨b, rs, h⟩ := h
  by_cases hl : D.stops = true ∧ D.left = 0
  · skip
    refine W_enter (args := [.pointer (some ⟨g, 0, none⟩), str n]) 24 Tryz.func43 rfl rfl rfl ?_
    refine W_sub [(0, .pointer (some ⟨g, 0, none⟩)), (1, str n)] ?_ ⟨rfl, rfl, trivial⟩
    have hbw := Below.refl w.heap.size w
    refine W_rs ?_
    refine sa rfl rfl ?_
    refine Wn ?_
    refine tN ?_
    refine W_seq ?_
    refine W_rs ?_
    refine sm rfl rfl ?_
    refine sc _ Tryz.func89 rfl (by kernel_rfl) rfl rfl ((ready_dead g b D _ (h.bel hbw).blk hl).mono ?_)
    rintro e_ w1 ⟨rfl, hb⟩
    refine cR ?_
    replace hbw := bthen hbw hb
    have hz_w1 := hb.size
    clear hb
    refine sa rfl rfl ?_
    refine Wn ?_
    refine tN ?_
    refine W_rs ?_
    refine sm rfl rfl ?_
    refine st (X.neq rfl rfl) rfl ?_
    refine Wn ?_
    refine tN ?_
    refine W_yes rfl (rfl) ?_
    refine W_rs ?_
    refine sm rfl rfl ?_
    refine sa rfl rfl ?_
    refine Wn ?_
    refine tN ?_
    refine W_ret (tR ?_)
    exact (rT rfl rfl (DPost.same h0 hbw (opM_dead hl _))).1
  have hok' := tick_ok hok hl
  cases hr : mget rs n with
  | none =>
    have hf : mget D.files n = none := by rw [h.files, hr]; rfl
    refine W_enter (args := [.pointer (some ⟨g, 0, none⟩), str n]) 24 Tryz.func43 rfl rfl rfl ?_
    refine W_sub [(0, .pointer (some ⟨g, 0, none⟩)), (1, str n)] ?_ ⟨rfl, rfl, trivial⟩
    refine W_rs ?_
    refine sa rfl rfl ?_
    refine Wn ?_
    refine tN ?_
    refine W_seq ?_
    refine W_rs ?_
    refine sm rfl rfl ?_
    refine sc _ Tryz.func89 rfl (by kernel_rfl) rfl rfl ((ready_live g b D rs S _ h hok hl).mono ?_)
    rintro e_ w1 ⟨rfl, h1, hC1⟩
    refine cR ?_
    refine sa rfl rfl ?_
    refine Wn ?_
    refine tN ?_
    refine W_rs ?_
    refine sm rfl rfl ?_
    refine st (X.neq rfl rfl) rfl ?_
    refine Wn ?_
    refine tN ?_
    refine W_no rfl (rfl) ?_
    refine W_skip ?_
    refine tN ?_
    refine W_rs ?_
    refine sm rfl rfl ?_
    refine sm rfl rfl ?_
    refine sc _ Tryz.func70 rfl (by kernel_rfl) rfl rfl ((find_none g b _ rs S n _ h1 hr).mono ?_)
    rintro e_ w2 ⟨rfl, hb2⟩
    refine cR ?_
    refine sm rfl rfl ?_
    refine st (X.ext rfl rfl) rfl ?_
    refine st (X.ext rfl rfl) rfl ?_
    refine sa rfl rfl ?_
    refine sa rfl rfl ?_
    refine Wn ?_
    refine tN ?_
    refine W_seq ?_
    refine W_rs ?_
    refine sm rfl rfl ?_
    refine st (X.neq rfl rfl) rfl ?_
    refine Wn ?_
    refine tN ?_
    refine W_yes rfl (rfl) ?_
    refine W_rs ?_
    refine sm rfl rfl ?_
    refine sa rfl rfl ?_
    refine Wn ?_
    refine tN ?_
    refine W_ret (tR ?_)
    exact (rT rfl rfl (DPost.of (h1.bel hb2) ((hC1.g h.inS.1).then_below hb2) ((opM_live hl _).trans (fileM_none (tick_get hf) _)))).1
  | some r =>
    have hf : mget D.files n = some r.f := by rw [h.files, hr]; rfl
    have hlen := (hok'.len (tick_get hf)).1
    refine W_enter (args := [.pointer (some ⟨g, 0, none⟩), str n]) 24 Tryz.func43 rfl rfl rfl ?_
    refine W_sub [(0, .pointer (some ⟨g, 0, none⟩)), (1, str n)] ?_ ⟨rfl, rfl, trivial⟩
    refine W_rs ?_
    refine sa rfl rfl ?_
    refine Wn ?_
    refine tN ?_
    refine W_seq ?_
    refine W_rs ?_
    refine sm rfl rfl ?_
    refine sc _ Tryz.func89 rfl (by kernel_rfl) rfl rfl ((ready_live g b D rs S _ h hok hl).mono ?_)
    rintro e_ w1 ⟨rfl, h1, hC1⟩
    refine cR ?_
    refine sa rfl rfl ?_
    refine Wn ?_
    refine tN ?_
    refine W_rs ?_
    refine sm rfl rfl ?_
    refine st (X.neq rfl rfl) rfl ?_
    refine Wn ?_
    refine tN ?_
    refine W_no rfl (rfl) ?_
    refine W_skip ?_
    refine tN ?_
    refine W_rs ?_
    refine sm rfl rfl ?_
    refine sm rfl rfl ?_
    refine sc _ Tryz.func70 rfl (by kernel_rfl) rfl rfl ((find_some g b _ rs S n r _ h1 hr).mono ?_)
    rintro e_ w2 ⟨rfl, hb2⟩
    refine cR ?_
    have h2 := h1.bel hb2
    have hF := h2.at_ n r hr
    refine sm rfl rfl ?_
    refine st (X.ext rfl rfl) rfl ?_
    refine st (X.ext rfl rfl) rfl ?_
    refine sa rfl rfl ?_
    refine sa rfl rfl ?_
    refine Wn ?_
    refine tN ?_
    refine W_seq ?_
    refine W_rs ?_
    refine sm rfl rfl ?_
    refine st (X.neq rfl rfl) rfl ?_
    refine Wn ?_
    refine tN ?_
    refine W_no rfl (rfl) ?_
    refine W_skip ?_
    refine tN ?_
    refine W_rs ?_
    refine sm rfl rfl ?_
    refine sc _ Tryz.func92 rfl (by kernel_rfl) rfl rfl ((lasts_any r.blk r.vl r.vn r.vp r.f.now _ hF.blk hF.now (by omega)).mono ?_)
    rintro e_ w3 ⟨rfl, vl', hB3, hL3, hN3, hO3, hC3⟩
    refine cR ?_
    refine Wn ?_
    refine tN ?_
    refine W_rs ?_
    refine sa rfl rfl ?_
    refine Wn ?_
    refine tN ?_
    refine W_ret ?_
    refine (rT rfl rfl (DPost.up (x := (0, { tickM D with files := sput (tickM D).files n (lastsM r.f) })) ((hC1.g h.inS.1).then_below hb2) ⟨b, _, h2.lasts hr hok'.srt hB3 hL3 hN3 hO3 hC3⟩ (hC3.mono (fun k _ hk => h.inR n r k hr (.inl hk))) ((opM_live hl _).trans (fileM_some (tick_get hf) _)))).1
theorem Sync_nil (n : Key) (w : World) : Calls Tryz.prog 43 #[.pointer none, str n] w fun e w' => e = .returned (.int .i64 2) ∧ Below w.heap.size w w' := by
  refine W_enter (args := [.pointer none, str n]) 24 Tryz.func43 rfl rfl rfl ?_
  refine W_sub [(0, .pointer none), (1, str n)] ?_ ⟨rfl, rfl, trivial⟩
  have hbw := Below.refl w.heap.size w
  refine W_rs ?_
  refine sa rfl rfl ?_
  refine Wn ?_
  refine tN ?_
  refine W_seq ?_
  refine W_rs ?_
  refine sm rfl rfl ?_
  refine sc _ Tryz.func89 rfl (by kernel_rfl) rfl rfl ((ready_nil _).mono ?_)
  rintro e_ w1 ⟨rfl, hb⟩
  refine cR ?_
  replace hbw := bthen hbw hb
  have hz_w1 := hb.size
  clear hb
  refine sa rfl rfl ?_
  refine Wn ?_
  refine tN ?_
  refine W_rs ?_
  refine sm rfl rfl ?_
  refine st (X.neq rfl rfl) rfl ?_
  refine Wn ?_
  refine tN ?_
  refine W_yes rfl (rfl) ?_
  refine W_rs ?_
  refine sm rfl rfl ?_
  refine sa rfl rfl ?_
  refine Wn ?_
  refine tN ?_
  refine W_ret (tR ?_)
  exact (rT rfl rfl ⟨rfl, hbw⟩).1
end Go.Proofs.YtnijmegalgoipaaGreatDoor
namespace Go.Proofs.YtnijmegalgoipaaGreatDoor
open Go.RowKit
theorem Chg.bel {S : Nat → Prop} {w w' w'' : World} (h : Chg S w w') (hb : Below w'.heap.size w' w'') : Chg S w w'' := h.then_below hb
theorem bfile (w : World) : (Instr.build 98 #[]).run Tryz.prog w = .ok (.agg #[.slice none 0 0, .slice none 0 0, .slice none 0 0]) w := by kernel_rfl
theorem look_ptr {rs : List (Key × FRec)} {n : Key} {o : Option Nat} (h : (mget rs n).map FRec.blk = o) : ((mget (rs.map fun p => (p.1, p.2.blk)) n).map encPtr).getD (.pointer none) = .pointer (o.map fun g => ⟨g, 0, none⟩) := by
  rw [mget_map, h]
  cases o <;> rfl
theorem Create_any (g : Nat) (D : DiskD) (S : Nat → Prop) (n : Key) (w : World) (h : DiskAt w g D S) (hok : DOk D) :
    Calls Tryz.prog 41 #[.pointer (some ⟨g, 0, none⟩), str n] w (DPost g S w (createM D n)) := by
  have h0 := h
  obtain ⟨b, rs, h⟩ := h
  by_cases hl : D.stops = true ∧ D.left = 0
  · skip
    refine W_enter (args := [.pointer (some ⟨g, 0, none⟩), str n]) 30 Tryz.func41 rfl rfl rfl ?_
    refine W_sub [(0, .pointer (some ⟨g, 0, none⟩)), (1, str n)] ?_ ⟨rfl, rfl, trivial⟩
    have hbw := Below.refl w.heap.size w
    refine W_rs ?_
    refine sa rfl rfl ?_
    refine Wn ?_
    refine tN ?_
    refine W_seq ?_
    refine W_rs ?_
    refine sm rfl rfl ?_
    refine sc _ Tryz.func89 rfl (by kernel_rfl) rfl rfl ((ready_dead g b D _ (h.bel hbw).blk hl).mono ?_)
    rintro e_ w1 ⟨rfl, hb⟩
    refine cR ?_
    replace hbw := bthen hbw hb
    have hz_w1 := hb.size
    clear hb
    refine sa rfl rfl ?_
    refine Wn ?_
    refine tN ?_
    refine W_rs ?_
    refine sm rfl rfl ?_
    refine st (X.neq rfl rfl) rfl ?_
    refine Wn ?_
    refine tN ?_
    refine W_yes rfl (rfl) ?_
    refine W_rs ?_
    refine sm rfl rfl ?_
    refine sa rfl rfl ?_
    refine Wn ?_
    refine tN ?_
    refine W_ret (tR ?_)
    exact (rT rfl rfl (DPost.same h0 hbw (opM_dead hl _))).1
  have hok' := tick_ok hok hl
  cases hr : mget rs n with
  | some r =>
    have hf : mget D.files n = some r.f := by rw [h.files, hr]; rfl
    have hv := look_ptr (rs := rs) (n := n) (o := some r.blk) (by rw [hr]; rfl)
    refine W_enter (args := [.pointer (some ⟨g, 0, none⟩), str n]) 30 Tryz.func41 rfl rfl rfl ?_
    refine W_sub [(0, .pointer (some ⟨g, 0, none⟩)), (1, str n)] ?_ ⟨rfl, rfl, trivial⟩
    refine W_rs ?_
    refine sa rfl rfl ?_
    refine Wn ?_
    refine tN ?_
    refine W_seq ?_
    refine W_rs ?_
    refine sm rfl rfl ?_
    refine sc _ Tryz.func89 rfl (by kernel_rfl) rfl rfl ((ready_live g b D rs S _ h hok hl).mono ?_)
    rintro e_ w1 ⟨rfl, h1_, hC1_⟩
    refine cR ?_
    have h1 := h1_
    have hC1 := hC1_.g h.inS.1
    have hB : Blk w1 g 80 #[.map (some b), .int .i64 (tickM D).limit, .int .i64 (tickM D).used, .int .i64 (tickM D).refused, .bool (tickM D).stops, .int .i64 (tickM D).left] := h1.blk
    clear h1_ hC1_
    refine sa rfl rfl ?_
    refine Wn ?_
    refine tN ?_
    refine W_rs ?_
    refine sm rfl rfl ?_
    refine st (X.neq rfl rfl) rfl ?_
    refine Wn ?_
    refine tN ?_
    refine W_no rfl (rfl) ?_
    refine W_skip ?_
    refine tN ?_
    refine W_seq ?_
    refine W_block ?_
    refine W_rs ?_
    refine sm rfl rfl ?_
    refine sc _ Tryz.func90 rfl (by kernel_rfl) rfl rfl ((named_any n _).mono ?_)
    rintro e_ w2 ⟨rfl, hb⟩
    refine cR ?_
    replace h1 := h1.bel hb
    replace hB := hB.bel hb
    replace hC1 := hC1.bel hb
    have hz_w2 := hb.size
    clear hb
    refine st (X.not rfl) rfl ?_
    refine sa rfl rfl ?_
    refine Wn ?_
    refine tN ?_
    refine W_if rfl (fun h11 => ?_) (fun h11 => ?_)
    · first | replace h11 := of_decide_eq_true h11 | replace h11 := of_decide_eq_false (notT h11) | replace h11 := notT h11 | skip
      refine W_rs ?_
      refine sa rfl rfl ?_
      refine Wn ?_
      refine tN ?_
      refine W_ret (bR (tR ?_))
      refine (rT rfl rfl (DPost.of h1 hC1 ((opM_live hl _).trans ?_))).1
      exact if_neg (by simp [h11])
    · first | replace h11 := of_decide_eq_false h11 | replace h11 := of_decide_eq_true (notF h11) | replace h11 := notF h11 | skip
      refine W_rs ?_
      refine sm rfl rfl ?_
      refine st (X.nilChk rfl) rfl ?_
      refine st (X.fa fa80_0 rfl) rfl ?_
      refine st (X.ldL rfl hB Tryz.underlying78 rfl rfl) rfl ?_
      refine sm rfl rfl ?_
      refine st (v := .pointer (some ⟨r.blk, 0, none⟩)) (hv ▸ X.look (keyStr Tryz.underlying9) rfl n rfl Tryz.underlying78 (zptr _) h1.map) rfl ?_
      refine st (X.fNe rfl) rfl ?_
      refine sa rfl rfl ?_
      refine Wn ?_
      refine tN ?_
      refine W_yes rfl (rfl) ?_
      refine W_rs ?_
      refine sa rfl rfl ?_
      refine Wn ?_
      refine tN ?_
      refine W_ret (bR (tR ?_))
      refine (rT rfl rfl (DPost.of h1 hC1 ((opM_live hl _).trans ?_))).1
      rw [if_pos (by simpa using h11), if_pos (by rw [tick_get hf]; rfl)]
  | none =>
    have hf : mget D.files n = none := by rw [h.files, hr]; rfl
    have hv := look_ptr (rs := rs) (n := n) (o := none) (by rw [hr]; rfl)
    refine W_enter (args := [.pointer (some ⟨g, 0, none⟩), str n]) 30 Tryz.func41 rfl rfl rfl ?_
    refine W_sub [(0, .pointer (some ⟨g, 0, none⟩)), (1, str n)] ?_ ⟨rfl, rfl, trivial⟩
    refine W_rs ?_
    refine sa rfl rfl ?_
    refine Wn ?_
    refine tN ?_
    refine W_seq ?_
    refine W_rs ?_
    refine sm rfl rfl ?_
    refine sc _ Tryz.func89 rfl (by kernel_rfl) rfl rfl ((ready_live g b D rs S _ h hok hl).mono ?_)
    rintro e_ w1 ⟨rfl, h1_, hC1_⟩
    refine cR ?_
    have h1 := h1_
    have hC1 := hC1_.g h.inS.1
    have hB : Blk w1 g 80 #[.map (some b), .int .i64 (tickM D).limit, .int .i64 (tickM D).used, .int .i64 (tickM D).refused, .bool (tickM D).stops, .int .i64 (tickM D).left] := h1.blk
    clear h1_ hC1_
    refine sa rfl rfl ?_
    refine Wn ?_
    refine tN ?_
    refine W_rs ?_
    refine sm rfl rfl ?_
    refine st (X.neq rfl rfl) rfl ?_
    refine Wn ?_
    refine tN ?_
    refine W_no rfl (rfl) ?_
    refine W_skip ?_
    refine tN ?_
    refine W_seq ?_
    refine W_block ?_
    refine W_rs ?_
    refine sm rfl rfl ?_
    refine sc _ Tryz.func90 rfl (by kernel_rfl) rfl rfl ((named_any n _).mono ?_)
    rintro e_ w2 ⟨rfl, hb⟩
    refine cR ?_
    replace h1 := h1.bel hb
    replace hB := hB.bel hb
    replace hC1 := hC1.bel hb
    have hz_w2 := hb.size
    clear hb
    refine st (X.not rfl) rfl ?_
    refine sa rfl rfl ?_
    refine Wn ?_
    refine tN ?_
    refine W_if rfl (fun h11 => ?_) (fun h11 => ?_)
    · first | replace h11 := of_decide_eq_true h11 | replace h11 := of_decide_eq_false (notT h11) | replace h11 := notT h11 | skip
      refine W_rs ?_
      refine sa rfl rfl ?_
      refine Wn ?_
      refine tN ?_
      refine W_ret (bR (tR ?_))
      refine (rT rfl rfl (DPost.of h1 hC1 ((opM_live hl _).trans ?_))).1
      exact if_neg (by simp [h11])
    · first | replace h11 := of_decide_eq_false h11 | replace h11 := of_decide_eq_true (notF h11) | replace h11 := notF h11 | skip
      refine W_rs ?_
      refine sm rfl rfl ?_
      refine st (X.nilChk rfl) rfl ?_
      refine st (X.fa fa80_0 rfl) rfl ?_
      refine st (X.ldL rfl hB Tryz.underlying78 rfl rfl) rfl ?_
      refine sm rfl rfl ?_
      refine st (v := .pointer none) (hv ▸ X.look (keyStr Tryz.underlying9) rfl n rfl Tryz.underlying78 (zptr _) h1.map) rfl ?_
      refine st (X.fNe rfl) rfl ?_
      refine sa rfl rfl ?_
      refine Wn ?_
      refine tN ?_
      refine W_no rfl (rfl) ?_
      refine W_skip ?_
      refine bN ?_
      refine tN ?_
      refine W_rs ?_
      refine sm rfl rfl ?_
      refine st (X.nilChk rfl) rfl ?_
      refine st (X.fa fa80_0 rfl) rfl ?_
      refine st (X.ldL rfl hB Tryz.underlying78 rfl rfl) rfl ?_
      refine sm rfl rfl ?_
      refine st (X.bld rfl (bfile _)) rfl ?_
      refine sboxA rfl rfl (fun g29 w3 hB29 hg29 hb hl29 => ?_)
      refine smu (keyStr Tryz.underlying9) rfl n g29 rfl rfl Tryz.underlying78 (h1.map.bel hb) (fun w4 hM2 hC2 => ?_)
      refine Wn ?_
      refine tN ?_
      refine W_rs ?_
      refine sa rfl rfl ?_
      refine Wn ?_
      refine tN ?_
      refine W_ret ?_
      have hbl := h1.map.lt
      have hcx := (Chg.of_below hb (fun k => k = g ∨ k = b)).next hC2 (fun i hi => .inl (.inr hi))
      refine (rT rfl rfl (DPost.up (x := (0, { tickM D with files := sput (tickM D).files n newFile })) hC1 ⟨b, _, h1.add (r' := ⟨g29, .slice none 0 0, .slice none 0 0, .slice none 0 0, newFile⟩) hcx ((h1.blk.belowAll hb).chg hC2 h1.gb) hM2 (fun m => mget_sput hok'.srt n _ m) ⟨hB29.chg hC2 (by omega), Row.nil _ _ _, Row.nil _ _ _, Row.nil _ _ _, fun k hk => by simp [Value.ownBlock] at hk⟩ ?_⟩ (hcx.mono (fun k _ hk => hk.elim (fun e => e ▸ h.inS.1) (fun e => e ▸ h.inS.2))) ((opM_live hl _).trans ?_))).1
      · rintro k (e | e | e | e)
        · subst e
          exact hg29
        all_goals simp [Value.ownBlock] at e
      · rw [if_pos (by simpa using h11), if_neg (by rw [tick_get hf]; simp)]
theorem Create_nil (n : Key) (w : World) : Calls Tryz.prog 41 #[.pointer none, str n] w fun e w' => e = .returned (.int .i64 2) ∧ Below w.heap.size w w' := by
  refine W_enter (args := [.pointer none, str n]) 30 Tryz.func41 rfl rfl rfl ?_
  refine W_sub [(0, .pointer none), (1, str n)] ?_ ⟨rfl, rfl, trivial⟩
  have hbw := Below.refl w.heap.size w
  refine W_rs ?_
  refine sa rfl rfl ?_
  refine Wn ?_
  refine tN ?_
  refine W_seq ?_
  refine W_rs ?_
  refine sm rfl rfl ?_
  refine sc _ Tryz.func89 rfl (by kernel_rfl) rfl rfl ((ready_nil _).mono ?_)
  rintro e_ w1 ⟨rfl, hb⟩
  refine cR ?_
  replace hbw := bthen hbw hb
  have hz_w1 := hb.size
  clear hb
  refine sa rfl rfl ?_
  refine Wn ?_
  refine tN ?_
  refine W_rs ?_
  refine sm rfl rfl ?_
  refine st (X.neq rfl rfl) rfl ?_
  refine Wn ?_
  refine tN ?_
  refine W_yes rfl (rfl) ?_
  refine W_rs ?_
  refine sm rfl rfl ?_
  refine sa rfl rfl ?_
  refine Wn ?_
  refine tN ?_
  refine W_ret (tR ?_)
  exact (rT rfl rfl ⟨rfl, hbw⟩).1
end Go.Proofs.YtnijmegalgoipaaGreatDoor
namespace Go.Proofs.YtnijmegalgoipaaGreatDoor
open Go.RowKit
theorem DiskIn.remove {w w' : World} {g b : Nat} {D : DiskD} {rs : List (Key × FRec)} {S : Nat → Prop} {m : Key} (h : DiskIn w g b D rs S) (hs : Rising D.files) (hC : Chg (fun k => k = b) w w') (hM : MapAt w' b str encPtr (mdel (rs.map fun p => (p.1, p.2.blk)) m)) :
    DiskIn w' g b { D with files := mdel D.files m } (mdel rs m) S := by
  refine h.sub id (fun q s hq => ?_) (fun _ _ _ _ _ _ hne => hne) (hC.mono (fun k _ hk => .inr hk)) (h.blk.chg hC h.gb) (by rw [mdel_map]; exact hM) (fun q => ?_)
  · rw [mget_mdel h.keys] at hq
    split at hq
    · cases hq
    · exact hq
  · show mget (mdel D.files m) q = _
    rw [mget_mdel hs.nodup, mget_mdel h.keys]
    split
    · rfl
    · exact h.files q
set_option maxRecDepth 10000 in
theorem Remove_any (g : Nat) (D : DiskD) (S : Nat → Prop) (n : Key) (w : World) (h : DiskAt w g D S) (hok : DOk D) :
    Calls Tryz.prog 47 #[.pointer (some ⟨g, 0, none⟩), str n] w (DPost g S w (removeM D n)) := by
  have h0 := h
  obtain ⟨b, rs, h⟩ := h
  by_cases hl : D.stops = true ∧ D.left = 0
  · skip
    refine W_enter (args := [.pointer (some ⟨g, 0, none⟩), str n]) 39 Tryz.func47 rfl rfl rfl ?_
    refine W_sub [(0, .pointer (some ⟨g, 0, none⟩)), (1, str n)] ?_ ⟨rfl, rfl, trivial⟩
    have hbw := Below.refl w.heap.size w
    refine W_rs ?_
    refine sa rfl rfl ?_
    refine Wn ?_
    refine tN ?_
    refine W_seq ?_
    refine W_rs ?_
    refine sm rfl rfl ?_
    refine sc _ Tryz.func89 rfl (by kernel_rfl) rfl rfl ((ready_dead g b D _ (h.bel hbw).blk hl).mono ?_)
    rintro e_ w1 ⟨rfl, hb⟩
    refine cR ?_
    replace hbw := bthen hbw hb
    have hz_w1 := hb.size
    clear hb
    refine sa rfl rfl ?_
    refine Wn ?_
    refine tN ?_
    refine W_rs ?_
    refine sm rfl rfl ?_
    refine st (X.neq rfl rfl) rfl ?_
    refine Wn ?_
    refine tN ?_
    refine W_yes rfl (rfl) ?_
    refine W_rs ?_
    refine sm rfl rfl ?_
    refine sa rfl rfl ?_
    refine Wn ?_
    refine tN ?_
    refine W_ret (tR ?_)
    exact (rT rfl rfl (DPost.same h0 hbw (opM_dead hl _))).1
  have hok' := tick_ok hok hl
  cases hr : mget rs n with
  | none =>
    have hf : mget D.files n = none := by rw [h.files, hr]; rfl
    refine W_enter (args := [.pointer (some ⟨g, 0, none⟩), str n]) 39 Tryz.func47 rfl rfl rfl ?_
    refine W_sub [(0, .pointer (some ⟨g, 0, none⟩)), (1, str n)] ?_ ⟨rfl, rfl, trivial⟩
    refine W_rs ?_
    refine sa rfl rfl ?_
    refine Wn ?_
    refine tN ?_
    refine W_seq ?_
    refine W_rs ?_
    refine sm rfl rfl ?_
    refine sc _ Tryz.func89 rfl (by kernel_rfl) rfl rfl ((ready_live g b D rs S _ h hok hl).mono ?_)
    rintro e_ w1 ⟨rfl, h1, hC1⟩
    refine cR ?_
    refine sa rfl rfl ?_
    refine Wn ?_
    refine tN ?_
    refine W_rs ?_
    refine sm rfl rfl ?_
    refine st (X.neq rfl rfl) rfl ?_
    refine Wn ?_
    refine tN ?_
    refine W_no rfl (rfl) ?_
    refine W_skip ?_
    refine tN ?_
    refine W_rs ?_
    refine sm rfl rfl ?_
    refine sm rfl rfl ?_
    refine sc _ Tryz.func70 rfl (by kernel_rfl) rfl rfl ((find_none g b _ rs S n _ h1 hr).mono ?_)
    rintro e_ w2 ⟨rfl, hb2⟩
    refine cR ?_
    refine sm rfl rfl ?_
    refine st (X.ext rfl rfl) rfl ?_
    refine st (X.ext rfl rfl) rfl ?_
    refine sa rfl rfl ?_
    refine sa rfl rfl ?_
    refine Wn ?_
    refine tN ?_
    refine W_seq ?_
    refine W_rs ?_
    refine sm rfl rfl ?_
    refine st (X.neq rfl rfl) rfl ?_
    refine Wn ?_
    refine tN ?_
    refine W_yes rfl (rfl) ?_
    refine W_rs ?_
    refine sm rfl rfl ?_
    refine sa rfl rfl ?_
    refine Wn ?_
    refine tN ?_
    refine W_ret (tR ?_)
    exact (rT rfl rfl (DPost.of (h1.bel hb2) ((hC1.g h.inS.1).then_below hb2) ((opM_live hl _).trans (fileM_none (tick_get hf) _)))).1
  | some r =>
    have hf : mget D.files n = some r.f := by rw [h.files, hr]; rfl
    obtain ⟨hlen, _, hlu⟩ := hok'.len (tick_get hf)
    have hlim := hok'.lim
    have hroom := hok'.room
    refine W_enter (args := [.pointer (some ⟨g, 0, none⟩), str n]) 39 Tryz.func47 rfl rfl rfl ?_
    refine W_sub [(0, .pointer (some ⟨g, 0, none⟩)), (1, str n)] ?_ ⟨rfl, rfl, trivial⟩
    refine W_rs ?_
    refine sa rfl rfl ?_
    refine Wn ?_
    refine tN ?_
    refine W_seq ?_
    refine W_rs ?_
    refine sm rfl rfl ?_
    refine sc _ Tryz.func89 rfl (by kernel_rfl) rfl rfl ((ready_live g b D rs S _ h hok hl).mono ?_)
    rintro e_ w1 ⟨rfl, h1, hC1⟩
    refine cR ?_
    refine sa rfl rfl ?_
    refine Wn ?_
    refine tN ?_
    refine W_rs ?_
    refine sm rfl rfl ?_
    refine st (X.neq rfl rfl) rfl ?_
    refine Wn ?_
    refine tN ?_
    refine W_no rfl (rfl) ?_
    refine W_skip ?_
    refine tN ?_
    refine W_rs ?_
    refine sm rfl rfl ?_
    refine sm rfl rfl ?_
    refine sc _ Tryz.func70 rfl (by kernel_rfl) rfl rfl ((find_some g b _ rs S n r _ h1 hr).mono ?_)
    rintro e_ w2 ⟨rfl, hb2⟩
    refine cR ?_
    have h2 := h1.bel hb2
    have hC2 := (hC1.g h.inS.1).then_below hb2
    have hF := (h2.at_ n r hr).blk
    obtain ⟨a, c, hvn, _⟩ := (h2.at_ n r hr).now.shape
    rw [hvn] at hF
    have hB : Blk w2 g 80 #[.map (some b), .int .i64 (tickM D).limit, .int .i64 (tickM D).used, .int .i64 (tickM D).refused, .bool (tickM D).stops, .int .i64 (tickM D).left] := h2.blk
    refine sm rfl rfl ?_
    refine st (X.ext rfl rfl) rfl ?_
    refine st (X.ext rfl rfl) rfl ?_
    refine sa rfl rfl ?_
    refine sa rfl rfl ?_
    refine Wn ?_
    refine tN ?_
    refine W_seq ?_
    refine W_rs ?_
    refine sm rfl rfl ?_
    refine st (X.neq rfl rfl) rfl ?_
    refine Wn ?_
    refine tN ?_
    refine W_no rfl (rfl) ?_
    refine W_skip ?_
    refine tN ?_
    refine W_still_s 12 (by kernel_rfl) (by kernel_rfl) ?_
    obtain ⟨w3, hw_⟩ : ∃ w3 : World, w3 = World.drew w2 := ⟨_, rfl⟩
    rw [← hw_]
    have hb : Below w2.heap.size w2 w3 := by rw [hw_]; exact bdrew (Below.refl _ _)
    clear hw_
    replace hB := hB.bel hb
    replace hF := hF.bel hb
    replace h2 := h2.bel hb
    replace hC2 := hC2.bel hb
    have hz_w3 := hb.size
    clear hb
    refine hY (X.move rfl) rfl ?_
    refine hY (X.nilChk rfl) rfl ?_
    refine hY (X.fa fa80_2 rfl) rfl ?_
    refine hY (X.ldL rfl hB Tryz.underlying3 rfl rfl) rfl ?_
    refine hY (X.move rfl) rfl ?_
    refine hY (X.nilChk rfl) rfl ?_
    refine hY (X.fa fa98_1 rfl) rfl ?_
    refine hY (X.ldL rfl hF Tryz.underlying94 rfl rfl) rfl ?_
    refine hY (X.lenL rfl rfl Tryz.underlying94) rfl ?_
    refine hY (X.sub64 rfl rfl (by omega)) rfl ?_
    refine hY (X.nilChk rfl) rfl ?_
    refine hY (X.fa fa80_2 rfl) rfl ?_
    refine hN ?_
    refine ssB rfl rfl hB siz3 rfl (by simp) (fun w4 hB3 hC3 => ?_)
    have h3 := h2.self (D' := { tickM D with used := (tickM D).used - r.f.now.length }) hC3 hB3 rfl
    replace hB := hB3
    refine Wn ?_
    refine tN ?_
    refine W_rs ?_
    refine sm rfl rfl ?_
    refine st (X.nilChk rfl) rfl ?_
    refine st (X.fa fa80_0 rfl) rfl ?_
    refine st (X.ldL rfl hB Tryz.underlying78 rfl rfl) rfl ?_
    refine sm rfl rfl ?_
    refine sdel (keyStr Tryz.underlying9) rfl n rfl Tryz.underlying78 h3.map (fun w5 hM4 hC4 => ?_)
    refine Wn ?_
    refine tN ?_
    refine W_rs ?_
    refine sa rfl rfl ?_
    refine Wn ?_
    refine tN ?_
    refine W_ret ?_
    exact (rT rfl rfl (DPost.up (x := (0, { tickM D with files := mdel (tickM D).files n, used := (tickM D).used - r.f.now.length })) hC2 ⟨b, _, (h3.remove hok'.srt hC4 hM4).mono Ext.of⟩ ((hC3.g h.inS.1).next (hC4.g h.inS.2) (fun i hi => .inl hi)) ((opM_live hl _).trans (fileM_some (tick_get hf) _)))).1
theorem Remove_nil (n : Key) (w : World) : Calls Tryz.prog 47 #[.pointer none, str n] w fun e w' => e = .returned (.int .i64 2) ∧ Below w.heap.size w w' := by
  refine W_enter (args := [.pointer none, str n]) 39 Tryz.func47 rfl rfl rfl ?_
  refine W_sub [(0, .pointer none), (1, str n)] ?_ ⟨rfl, rfl, trivial⟩
  have hbw := Below.refl w.heap.size w
  refine W_rs ?_
  refine sa rfl rfl ?_
  refine Wn ?_
  refine tN ?_
  refine W_seq ?_
  refine W_rs ?_
  refine sm rfl rfl ?_
  refine sc _ Tryz.func89 rfl (by kernel_rfl) rfl rfl ((ready_nil _).mono ?_)
  rintro e_ w1 ⟨rfl, hb⟩
  refine cR ?_
  replace hbw := bthen hbw hb
  have hz_w1 := hb.size
  clear hb
  refine sa rfl rfl ?_
  refine Wn ?_
  refine tN ?_
  refine W_rs ?_
  refine sm rfl rfl ?_
  refine st (X.neq rfl rfl) rfl ?_
  refine Wn ?_
  refine tN ?_
  refine W_yes rfl (rfl) ?_
  refine W_rs ?_
  refine sm rfl rfl ?_
  refine sa rfl rfl ?_
  refine Wn ?_
  refine tN ?_
  refine W_ret (tR ?_)
  exact (rT rfl rfl ⟨rfl, hbw⟩).1
/- ---------- Rename ---------- -/
theorem ren_get {ν : Type} {m : List (Key × ν)} (hm : (m.map (·.1)).Nodup) (a b q : Key) (v : ν) : mget (mput (mdel m a) b v) q = if q = b then some v else if q = a then none else mget m q := by rw [mget_mput, mget_mdel hm]
theorem DiskIn.rename {w w' : World} {g b : Nat} {D : DiskD} {rs : List (Key × FRec)} {S : Nat → Prop} {m n : Key} {r : FRec} (h : DiskIn w g b D rs S) (hs : Rising D.files) (hr : mget rs m = some r) (hC : Chg (fun k => k = b) w w') (hM : MapAt w' b str encPtr (mput (mdel (rs.map fun p => (p.1, p.2.blk)) m) n r.blk)) :
    DiskIn w' g b { D with files := sput (mdel D.files m) n r.f } (mput (mdel rs m) n r) S := by
  refine h.sub (fun q => if q = n then m else q) (fun q s hq => ?_) (fun q q' s s' hq hq' hne => ?_) (hC.mono (fun k _ hk => .inr hk)) (h.blk.chg hC h.gb) (by rw [mput_map FRec.blk, mdel_map]; exact hM) (fun q => ?_)
  · rw [ren_get h.keys] at hq
    split at hq
    · injection hq with hq
      rename_i e
      rw [if_pos e, hr, hq]
    · rename_i e
      rw [if_neg e]
      split at hq
      · cases hq
      · exact hq
  · rw [ren_get h.keys] at hq hq'
    by_cases e : q = n
    · rw [if_pos e, if_neg (fun e' => hne (e.trans e'.symm))]
      rw [if_neg (fun e' => hne (e.trans e'.symm))] at hq'
      rintro rfl
      rw [if_pos rfl] at hq'
      cases hq'
    · rw [if_neg e]
      rw [if_neg e] at hq
      split
      · rintro rfl
        rw [if_pos rfl] at hq
        cases hq
      · exact hne
  · show mget (sput (mdel D.files m) n r.f) q = _
    rw [mget_sput (hs.del m), ren_get h.keys, mget_mdel hs.nodup]
    split
    · rfl
    · split
      · rfl
      · exact h.files q
set_option maxRecDepth 10000 in
theorem Rename_any (g : Nat) (D : DiskD) (S : Nat → Prop) (m n : Key) (w : World) (h : DiskAt w g D S) (hok : DOk D) :
    Calls Tryz.prog 46 #[.pointer (some ⟨g, 0, none⟩), str m, str n] w (DPost g S w (renameM D m n)) := by
  have h0 := h
  obtain ⟨b, rs, h⟩ := h
  by_cases hl : D.stops = true ∧ D.left = 0
  · skip
    refine W_enter (args := [.pointer (some ⟨g, 0, none⟩), str m, str n]) 62 Tryz.func46 rfl rfl rfl ?_
    refine W_sub [(0, .pointer (some ⟨g, 0, none⟩)), (1, str m), (2, str n)] ?_ ⟨rfl, rfl, rfl, trivial⟩
    have hbw := Below.refl w.heap.size w
    refine W_rs ?_
    refine sa rfl rfl ?_
    refine Wn ?_
    refine tN ?_
    refine W_seq ?_
    refine W_rs ?_
    refine sm rfl rfl ?_
    refine sc _ Tryz.func89 rfl (by kernel_rfl) rfl rfl ((ready_dead g b D _ (h.bel hbw).blk hl).mono ?_)
    rintro e_ w1 ⟨rfl, hb⟩
    refine cR ?_
    replace hbw := bthen hbw hb
    have hz_w1 := hb.size
    clear hb
    refine sa rfl rfl ?_
    refine Wn ?_
    refine tN ?_
    refine W_rs ?_
    refine sm rfl rfl ?_
    refine st (X.neq rfl rfl) rfl ?_
    refine Wn ?_
    refine tN ?_
    refine W_yes rfl (rfl) ?_
    refine W_rs ?_
    refine sm rfl rfl ?_
    refine sa rfl rfl ?_
    refine Wn ?_
    refine tN ?_
    refine W_ret (tR ?_)
    exact (rT rfl rfl (DPost.same h0 hbw (opM_dead hl _))).1
  have hok' := tick_ok hok hl
  by_cases hnm : nameOk n = true
  rotate_left
  · skip
    refine W_enter (args := [.pointer (some ⟨g, 0, none⟩), str m, str n]) 62 Tryz.func46 rfl rfl rfl ?_
    refine W_sub [(0, .pointer (some ⟨g, 0, none⟩)), (1, str m), (2, str n)] ?_ ⟨rfl, rfl, rfl, trivial⟩
    refine W_rs ?_
    refine sa rfl rfl ?_
    refine Wn ?_
    refine tN ?_
    refine W_seq ?_
    refine W_rs ?_
    refine sm rfl rfl ?_
    refine sc _ Tryz.func89 rfl (by kernel_rfl) rfl rfl ((ready_live g b D rs S _ h hok hl).mono ?_)
    rintro e_ w1 ⟨rfl, h1, hC1⟩
    refine cR ?_
    refine sa rfl rfl ?_
    refine Wn ?_
    refine tN ?_
    refine W_rs ?_
    refine sm rfl rfl ?_
    refine st (X.neq rfl rfl) rfl ?_
    refine Wn ?_
    refine tN ?_
    refine W_no rfl (rfl) ?_
    refine W_skip ?_
    refine tN ?_
    refine W_seq ?_
    refine W_rs ?_
    refine sm rfl rfl ?_
    refine sc _ Tryz.func90 rfl (by kernel_rfl) rfl rfl ((named_any n _).mono ?_)
    rintro e_ w2 ⟨rfl, hb2⟩
    refine cR ?_
    refine st (X.not rfl) rfl ?_
    refine Wn ?_
    refine tN ?_
    refine W_yes rfl (by simpa using hnm) ?_
    refine W_rs ?_
    refine sa rfl rfl ?_
    refine Wn ?_
    refine tN ?_
    refine W_ret (tR ?_)
    exact (rT rfl rfl (DPost.of (h1.bel hb2) ((hC1.g h.inS.1).then_below hb2) ((opM_live hl _).trans (if_neg hnm)))).1
  cases hr : mget rs m with
  | none =>
    have hf : mget D.files m = none := by rw [h.files, hr]; rfl
    refine W_enter (args := [.pointer (some ⟨g, 0, none⟩), str m, str n]) 62 Tryz.func46 rfl rfl rfl ?_
    refine W_sub [(0, .pointer (some ⟨g, 0, none⟩)), (1, str m), (2, str n)] ?_ ⟨rfl, rfl, rfl, trivial⟩
    refine W_rs ?_
    refine sa rfl rfl ?_
    refine Wn ?_
    refine tN ?_
    refine W_seq ?_
    refine W_rs ?_
    refine sm rfl rfl ?_
    refine sc _ Tryz.func89 rfl (by kernel_rfl) rfl rfl ((ready_live g b D rs S _ h hok hl).mono ?_)
    rintro e_ w1 ⟨rfl, h1, hC1⟩
    refine cR ?_
    refine sa rfl rfl ?_
    refine Wn ?_
    refine tN ?_
    refine W_rs ?_
    refine sm rfl rfl ?_
    refine st (X.neq rfl rfl) rfl ?_
    refine Wn ?_
    refine tN ?_
    refine W_no rfl (rfl) ?_
    refine W_skip ?_
    refine tN ?_
    refine W_seq ?_
    refine W_rs ?_
    refine sm rfl rfl ?_
    refine sc _ Tryz.func90 rfl (by kernel_rfl) rfl rfl ((named_any n _).mono ?_)
    rintro e_ w2 ⟨rfl, hb2⟩
    refine cR ?_
    refine st (X.not rfl) rfl ?_
    refine Wn ?_
    refine tN ?_
    refine W_no rfl (by simpa using hnm) ?_
    refine W_skip ?_
    refine tN ?_
    refine W_rs ?_
    refine sm rfl rfl ?_
    refine sm rfl rfl ?_
    refine sc _ Tryz.func70 rfl (by kernel_rfl) rfl rfl ((find_none g b _ rs S m _ (h1.bel hb2) hr).mono ?_)
    rintro e_ w3 ⟨rfl, hb3⟩
    refine cR ?_
    refine sm rfl rfl ?_
    refine st (X.ext rfl rfl) rfl ?_
    refine st (X.ext rfl rfl) rfl ?_
    refine sa rfl rfl ?_
    refine sa rfl rfl ?_
    refine Wn ?_
    refine tN ?_
    refine W_seq ?_
    refine W_rs ?_
    refine sm rfl rfl ?_
    refine st (X.neq rfl rfl) rfl ?_
    refine Wn ?_
    refine tN ?_
    refine W_yes rfl (rfl) ?_
    refine W_rs ?_
    refine sm rfl rfl ?_
    refine sa rfl rfl ?_
    refine Wn ?_
    refine tN ?_
    refine W_ret (tR ?_)
    exact (rT rfl rfl (DPost.of ((h1.bel hb2).bel hb3) (((hC1.g h.inS.1).then_below hb2).then_below hb3) ((opM_live hl _).trans ((if_pos hnm).trans (fileM_none (tick_get hf) _))))).1
  | some r =>
    have hf : mget D.files m = some r.f := by rw [h.files, hr]; rfl
    have hlim := hok'.lim
    have hroom := hok'.room
    cases hr2 : mget rs n with
    | none =>
      have hf2 : mget D.files n = none := by rw [h.files, hr2]; rfl
      have hv := look_ptr (rs := rs) (n := n) (o := none) (by rw [hr2]; rfl)
      refine W_enter (args := [.pointer (some ⟨g, 0, none⟩), str m, str n]) 62 Tryz.func46 rfl rfl rfl ?_
      refine W_sub [(0, .pointer (some ⟨g, 0, none⟩)), (1, str m), (2, str n)] ?_ ⟨rfl, rfl, rfl, trivial⟩
      refine W_rs ?_
      refine sa rfl rfl ?_
      refine Wn ?_
      refine tN ?_
      refine W_seq ?_
      refine W_rs ?_
      refine sm rfl rfl ?_
      refine sc _ Tryz.func89 rfl (by kernel_rfl) rfl rfl ((ready_live g b D rs S _ h hok hl).mono ?_)
      rintro e_ w1 ⟨rfl, h1, hC1⟩
      refine cR ?_
      refine sa rfl rfl ?_
      refine Wn ?_
      refine tN ?_
      refine W_rs ?_
      refine sm rfl rfl ?_
      refine st (X.neq rfl rfl) rfl ?_
      refine Wn ?_
      refine tN ?_
      refine W_no rfl (rfl) ?_
      refine W_skip ?_
      refine tN ?_
      refine W_seq ?_
      refine W_rs ?_
      refine sm rfl rfl ?_
      refine sc _ Tryz.func90 rfl (by kernel_rfl) rfl rfl ((named_any n _).mono ?_)
      rintro e_ w2 ⟨rfl, hb2⟩
      refine cR ?_
      refine st (X.not rfl) rfl ?_
      refine Wn ?_
      refine tN ?_
      refine W_no rfl (by simpa using hnm) ?_
      refine W_skip ?_
      refine tN ?_
      refine W_rs ?_
      refine sm rfl rfl ?_
      refine sm rfl rfl ?_
      refine sc _ Tryz.func70 rfl (by kernel_rfl) rfl rfl ((find_some g b _ rs S m r _ (h1.bel hb2) hr).mono ?_)
      rintro e_ w3 ⟨rfl, hb3⟩
      refine cR ?_
      have h2 := (h1.bel hb2).bel hb3
      have hC2 := ((hC1.g h.inS.1).then_below hb2).then_below hb3
      have hB : Blk w3 g 80 #[.map (some b), .int .i64 (tickM D).limit, .int .i64 (tickM D).used, .int .i64 (tickM D).refused, .bool (tickM D).stops, .int .i64 (tickM D).left] := h2.blk
      refine sm rfl rfl ?_
      refine st (X.ext rfl rfl) rfl ?_
      refine st (X.ext rfl rfl) rfl ?_
      refine sa rfl rfl ?_
      refine sa rfl rfl ?_
      refine Wn ?_
      refine tN ?_
      refine W_seq ?_
      refine W_rs ?_
      refine sm rfl rfl ?_
      refine st (X.neq rfl rfl) rfl ?_
      refine Wn ?_
      refine tN ?_
      refine W_no rfl (rfl) ?_
      refine W_skip ?_
      refine tN ?_
      refine W_seq ?_
      refine W_rs ?_
      refine sm rfl rfl ?_
      refine sm rfl rfl ?_
      refine st (X.eqS rfl rfl) rfl ?_
      refine Wn ?_
      refine tN ?_
      refine W_if rfl (fun h30 => ?_) (fun h30 => ?_)
      · first | replace h30 := of_decide_eq_true h30 | replace h30 := of_decide_eq_false (notT h30) | replace h30 := notT h30 | skip
        refine W_rs ?_
        refine sa rfl rfl ?_
        refine Wn ?_
        refine tN ?_
        refine W_ret (tR ?_)
        exact (rT rfl rfl (DPost.of h2 hC2 ((opM_live hl _).trans ((if_pos hnm).trans ((fileM_some (tick_get hf) _).trans (if_pos h30)))))).1
      · first | replace h30 := of_decide_eq_false h30 | replace h30 := of_decide_eq_true (notF h30) | replace h30 := notF h30 | skip
        refine W_skip ?_
        refine tN ?_
        refine W_seq ?_
        refine W_rs ?_
        refine sm rfl rfl ?_
        refine st (X.nilChk rfl) rfl ?_
        refine st (X.fa fa80_0 rfl) rfl ?_
        refine st (X.ldL rfl hB Tryz.underlying78 rfl rfl) rfl ?_
        refine sm rfl rfl ?_
        refine st (v := .pointer none) (hv ▸ X.look (keyStr Tryz.underlying9) rfl n rfl Tryz.underlying78 (zptr _) h2.map) rfl ?_
        refine sa rfl rfl ?_
        refine Wn ?_
        refine tN ?_
        refine W_rs ?_
        refine sm rfl rfl ?_
        refine st (X.fNe rfl) rfl ?_
        refine Wn ?_
        refine tN ?_
        refine W_no rfl (rfl) ?_
        refine W_skip ?_
        refine tN ?_
        refine W_rs ?_
        refine sm rfl rfl ?_
        refine st (X.nilChk rfl) rfl ?_
        refine st (X.fa fa80_0 rfl) rfl ?_
        refine st (X.ldL rfl hB Tryz.underlying78 rfl rfl) rfl ?_
        refine sm rfl rfl ?_
        refine sdel (keyStr Tryz.underlying9) rfl m rfl Tryz.underlying78 h2.map (fun w4 hM4 hC4 => ?_)
        replace hB := hB.chg hC4 h2.gb
        refine Wn ?_
        refine tN ?_
        refine W_rs ?_
        refine sm rfl rfl ?_
        refine st (X.nilChk rfl) rfl ?_
        refine st (X.fa fa80_0 rfl) rfl ?_
        refine st (X.ldL rfl hB Tryz.underlying78 rfl rfl) rfl ?_
        refine sm rfl rfl ?_
        refine sm rfl rfl ?_
        refine smu (keyStr Tryz.underlying9) rfl n r.blk rfl rfl Tryz.underlying78 hM4 (fun w5 hM5 hC5 => ?_)
        refine Wn ?_
        refine tN ?_
        refine W_rs ?_
        refine sa rfl rfl ?_
        refine Wn ?_
        refine tN ?_
        refine W_ret ?_
        have hC45 := hC4.next hC5 (fun i hi => .inl hi)
        have h5 := h2.rename hok'.srt hr hC45 hM5
        refine (rT rfl rfl (DPost.up (x := (0, { tickM D with files := sput (mdel (tickM D).files m) n r.f })) hC2 ⟨b, _, h5.mono Ext.of⟩ (hC45.g h.inS.2) ((opM_live hl _).trans ((if_pos hnm).trans ((fileM_some (tick_get hf) _).trans ((if_neg h30).trans ?_)))))).1
        unfold lenAt
        rw [tick_get hf2]
        simp
    | some r2 =>
      have hf2 : mget D.files n = some r2.f := by rw [h.files, hr2]; rfl
      have hv := look_ptr (rs := rs) (n := n) (o := some r2.blk) (by rw [hr2]; rfl)
      obtain ⟨hlen, _, hlu⟩ := hok'.len (tick_get hf2)
      refine W_enter (args := [.pointer (some ⟨g, 0, none⟩), str m, str n]) 62 Tryz.func46 rfl rfl rfl ?_
      refine W_sub [(0, .pointer (some ⟨g, 0, none⟩)), (1, str m), (2, str n)] ?_ ⟨rfl, rfl, rfl, trivial⟩
      refine W_rs ?_
      refine sa rfl rfl ?_
      refine Wn ?_
      refine tN ?_
      refine W_seq ?_
      refine W_rs ?_
      refine sm rfl rfl ?_
      refine sc _ Tryz.func89 rfl (by kernel_rfl) rfl rfl ((ready_live g b D rs S _ h hok hl).mono ?_)
      rintro e_ w1 ⟨rfl, h1, hC1⟩
      refine cR ?_
      refine sa rfl rfl ?_
      refine Wn ?_
      refine tN ?_
      refine W_rs ?_
      refine sm rfl rfl ?_
      refine st (X.neq rfl rfl) rfl ?_
      refine Wn ?_
      refine tN ?_
      refine W_no rfl (rfl) ?_
      refine W_skip ?_
      refine tN ?_
      refine W_seq ?_
      refine W_rs ?_
      refine sm rfl rfl ?_
      refine sc _ Tryz.func90 rfl (by kernel_rfl) rfl rfl ((named_any n _).mono ?_)
      rintro e_ w2 ⟨rfl, hb2⟩
      refine cR ?_
      refine st (X.not rfl) rfl ?_
      refine Wn ?_
      refine tN ?_
      refine W_no rfl (by simpa using hnm) ?_
      refine W_skip ?_
      refine tN ?_
      refine W_rs ?_
      refine sm rfl rfl ?_
      refine sm rfl rfl ?_
      refine sc _ Tryz.func70 rfl (by kernel_rfl) rfl rfl ((find_some g b _ rs S m r _ (h1.bel hb2) hr).mono ?_)
      rintro e_ w3 ⟨rfl, hb3⟩
      refine cR ?_
      have h2 := (h1.bel hb2).bel hb3
      have hC2 := ((hC1.g h.inS.1).then_below hb2).then_below hb3
      have hF := (h2.at_ n r2 hr2).blk
      obtain ⟨a, c, hvn, _⟩ := (h2.at_ n r2 hr2).now.shape
      rw [hvn] at hF
      have hB : Blk w3 g 80 #[.map (some b), .int .i64 (tickM D).limit, .int .i64 (tickM D).used, .int .i64 (tickM D).refused, .bool (tickM D).stops, .int .i64 (tickM D).left] := h2.blk
      refine sm rfl rfl ?_
      refine st (X.ext rfl rfl) rfl ?_
      refine st (X.ext rfl rfl) rfl ?_
      refine sa rfl rfl ?_
      refine sa rfl rfl ?_
      refine Wn ?_
      refine tN ?_
      refine W_seq ?_
      refine W_rs ?_
      refine sm rfl rfl ?_
      refine st (X.neq rfl rfl) rfl ?_
      refine Wn ?_
      refine tN ?_
      refine W_no rfl (rfl) ?_
      refine W_skip ?_
      refine tN ?_
      refine W_seq ?_
      refine W_rs ?_
      refine sm rfl rfl ?_
      refine sm rfl rfl ?_
      refine st (X.eqS rfl rfl) rfl ?_
      refine Wn ?_
      refine tN ?_
      refine W_if rfl (fun h30 => ?_) (fun h30 => ?_)
      · first | replace h30 := of_decide_eq_true h30 | replace h30 := of_decide_eq_false (notT h30) | replace h30 := notT h30 | skip
        refine W_rs ?_
        refine sa rfl rfl ?_
        refine Wn ?_
        refine tN ?_
        refine W_ret (tR ?_)
        exact (rT rfl rfl (DPost.of h2 hC2 ((opM_live hl _).trans ((if_pos hnm).trans ((fileM_some (tick_get hf) _).trans (if_pos h30)))))).1
      · first | replace h30 := of_decide_eq_false h30 | replace h30 := of_decide_eq_true (notF h30) | replace h30 := notF h30 | skip
        refine W_skip ?_
        refine tN ?_
        refine W_seq ?_
        refine W_rs ?_
        refine sm rfl rfl ?_
        refine st (X.nilChk rfl) rfl ?_
        refine st (X.fa fa80_0 rfl) rfl ?_
        refine st (X.ldL rfl hB Tryz.underlying78 rfl rfl) rfl ?_
        refine sm rfl rfl ?_
        refine st (v := .pointer (some ⟨r2.blk, 0, none⟩)) (hv ▸ X.look (keyStr Tryz.underlying9) rfl n rfl Tryz.underlying78 (zptr _) h2.map) rfl ?_
        refine sa rfl rfl ?_
        refine Wn ?_
        refine tN ?_
        refine W_rs ?_
        refine sm rfl rfl ?_
        refine st (X.fNe rfl) rfl ?_
        refine Wn ?_
        refine tN ?_
        refine W_yes rfl (rfl) ?_
        refine W_still 12 (by kernel_rfl) (by kernel_rfl) ?_
        obtain ⟨w4, hw_⟩ : ∃ w4 : World, w4 = World.drew w3 := ⟨_, rfl⟩
        rw [← hw_]
        have hb : Below w3.heap.size w3 w4 := by rw [hw_]; exact bdrew (Below.refl _ _)
        clear hw_
        replace hB := hB.bel hb
        replace hF := hF.bel hb
        replace h2 := h2.bel hb
        replace hC2 := hC2.bel hb
        have hz_w4 := hb.size
        clear hb
        refine hY (X.move rfl) rfl ?_
        refine hY (X.nilChk rfl) rfl ?_
        refine hY (X.fa fa80_2 rfl) rfl ?_
        refine hY (X.ldL rfl hB Tryz.underlying3 rfl rfl) rfl ?_
        refine hY (X.move rfl) rfl ?_
        refine hY (X.nilChk rfl) rfl ?_
        refine hY (X.fa fa98_1 rfl) rfl ?_
        refine hY (X.ldL rfl hF Tryz.underlying94 rfl rfl) rfl ?_
        refine hY (X.lenL rfl rfl Tryz.underlying94) rfl ?_
        refine hY (X.sub64 rfl rfl (by omega)) rfl ?_
        refine hY (X.nilChk rfl) rfl ?_
        refine hY (X.fa fa80_2 rfl) rfl ?_
        refine hN ?_
        refine ssB rfl rfl hB siz3 rfl (by simp) (fun w5 hB3 hC3 => ?_)
        have h3 := h2.self (D' := { tickM D with used := (tickM D).used - r2.f.now.length }) hC3 hB3 rfl
        replace hB := hB3
        refine Wn ?_
        refine tN ?_
        refine W_rs ?_
        refine sm rfl rfl ?_
        refine st (X.nilChk rfl) rfl ?_
        refine st (X.fa fa80_0 rfl) rfl ?_
        refine st (X.ldL rfl hB Tryz.underlying78 rfl rfl) rfl ?_
        refine sm rfl rfl ?_
        refine sdel (keyStr Tryz.underlying9) rfl m rfl Tryz.underlying78 h3.map (fun w6 hM4 hC4 => ?_)
        replace hB := hB.chg hC4 h2.gb
        refine Wn ?_
        refine tN ?_
        refine W_rs ?_
        refine sm rfl rfl ?_
        refine st (X.nilChk rfl) rfl ?_
        refine st (X.fa fa80_0 rfl) rfl ?_
        refine st (X.ldL rfl hB Tryz.underlying78 rfl rfl) rfl ?_
        refine sm rfl rfl ?_
        refine sm rfl rfl ?_
        refine smu (keyStr Tryz.underlying9) rfl n r.blk rfl rfl Tryz.underlying78 hM4 (fun w7 hM5 hC5 => ?_)
        refine Wn ?_
        refine tN ?_
        refine W_rs ?_
        refine sa rfl rfl ?_
        refine Wn ?_
        refine tN ?_
        refine W_ret ?_
        have hC45 := hC4.next hC5 (fun i hi => .inl hi)
        have h5 := h3.rename hok'.srt hr hC45 hM5
        refine (rT rfl rfl (DPost.up (x := (0, { tickM D with files := sput (mdel (tickM D).files m) n r.f, used := (tickM D).used - r2.f.now.length })) hC2 ⟨b, _, h5.mono Ext.of⟩ ((hC3.g h.inS.1).next (hC45.g h.inS.2) (fun i hi => .inl hi)) ((opM_live hl _).trans ((if_pos hnm).trans ((fileM_some (tick_get hf) _).trans ((if_neg h30).trans ?_)))))).1
        unfold lenAt
        rw [tick_get hf2]
        rfl
theorem Rename_nil (m n : Key) (w : World) : Calls Tryz.prog 46 #[.pointer none, str m, str n] w fun e w' => e = .returned (.int .i64 2) ∧ Below w.heap.size w w' := by
  refine W_enter (args := [.pointer none, str m, str n]) 62 Tryz.func46 rfl rfl rfl ?_
  refine W_sub [(0, .pointer none), (1, str m), (2, str n)] ?_ ⟨rfl, rfl, rfl, trivial⟩
  have hbw := Below.refl w.heap.size w
  refine W_rs ?_
  refine sa rfl rfl ?_
  refine Wn ?_
  refine tN ?_
  refine W_seq ?_
  refine W_rs ?_
  refine sm rfl rfl ?_
  refine sc _ Tryz.func89 rfl (by kernel_rfl) rfl rfl ((ready_nil _).mono ?_)
  rintro e_ w1 ⟨rfl, hb⟩
  refine cR ?_
  replace hbw := bthen hbw hb
  have hz_w1 := hb.size
  clear hb
  refine sa rfl rfl ?_
  refine Wn ?_
  refine tN ?_
  refine W_rs ?_
  refine sm rfl rfl ?_
  refine st (X.neq rfl rfl) rfl ?_
  refine Wn ?_
  refine tN ?_
  refine W_yes rfl (rfl) ?_
  refine W_rs ?_
  refine sm rfl rfl ?_
  refine sa rfl rfl ?_
  refine Wn ?_
  refine tN ?_
  refine W_ret (tR ?_)
  exact (rT rfl rfl ⟨rfl, hbw⟩).1
/- ---------- Rot ---------- -/
theorem ssR {P : Program} {N : Nat} {ds : List Deferred} {Q : Post} {l : Env} {w : World} {ops : Array Oper} {rest : List Oper} {x y : Operand} {ty t e : TypeId} {pos : String} {aft : Array Edge} {g o j n c : Nat} {v : Value} {xs : List Value} (hx : ev l x = some (.pointer (some ⟨g, o + j, none⟩))) (hy : ev l y = some v) (hR : Row w e 1 (.slice (some ⟨g, o, none⟩) n c) n xs) (hj : j < n) (ht : (P.info? t).map (·.size) = some 1) (h1 : v.oneCell' = true)
    (h : ∀ w', Row w' e 1 (.slice (some ⟨g, o, none⟩) n c) n (xs.set j v) → Chg (fun k => k = g) w w' → WL P N ds ops Q rest l w') : WL P N ds ops Q (⟨none, .store t x y, ty, pos, aft, none⟩ :: rest) l w := by
  obtain ⟨g', o', c', hv, _, hnc, _, hc, hf⟩ := hR.form (by omega)
  injection hv with ea _ ec
  injection ea with ea
  injection ea with eg eo
  subst eg eo ec
  have hlen := hR.1
  exact ss (Xs.st hx hy ht h1 (by rw [hc j _ (List.getElem?_eq_getElem (by omega))]; rfl) (hf j (by omega))) (h _ (hR.store_ j hj v) ((Chg.refl (fun k => k = g) w).setCell (p := ⟨g, o + j, none⟩) (.inl rfl) v))
theorem Rot_any (g : Nat) (D : DiskD) (S : Nat → Prop) (n : Key) (i : Int) (c : UInt8) (w : World) (h : DiskAt w g D S) (hok : DOk D) :
    Calls Tryz.prog 48 #[.pointer (some ⟨g, 0, none⟩), str n, .int .i64 i, .int .u8 c.toNat] w (DPost g S w (rotM D n i c)) := by
  have h0 := h
  obtain ⟨b, rs, h⟩ := h
  cases hr : mget rs n with
  | none =>
    have hf : mget D.files n = none := by rw [h.files, hr]; rfl
    refine W_enter (args := [.pointer (some ⟨g, 0, none⟩), str n, .int .i64 i, .int .u8 c.toNat]) 42 Tryz.func48 rfl rfl rfl ?_
    refine W_sub [(0, .pointer (some ⟨g, 0, none⟩)), (1, str n), (2, .int .i64 i), (3, .int .u8 c.toNat)] ?_ ⟨rfl, rfl, rfl, rfl, trivial⟩
    have hbw := Below.refl w.heap.size w
    refine W_rs ?_
    refine sa rfl rfl ?_
    refine Wn ?_
    refine tN ?_
    refine W_rs ?_
    refine sm rfl rfl ?_
    refine sm rfl rfl ?_
    refine sc _ Tryz.func70 rfl (by kernel_rfl) rfl rfl ((find_none g b D rs S n _ (h.bel hbw) hr).mono ?_)
    rintro e_ w1 ⟨rfl, hb⟩
    refine cR ?_
    replace hbw := bthen hbw hb
    have hz_w1 := hb.size
    clear hb
    refine sm rfl rfl ?_
    refine st (X.ext rfl rfl) rfl ?_
    refine st (X.ext rfl rfl) rfl ?_
    refine sa rfl rfl ?_
    refine sa rfl rfl ?_
    refine Wn ?_
    refine tN ?_
    refine W_seq ?_
    refine W_block ?_
    refine W_rs ?_
    refine sm rfl rfl ?_
    refine st (X.neq rfl rfl) rfl ?_
    refine sa rfl rfl ?_
    refine Wn ?_
    refine tN ?_
    refine W_yes rfl (rfl) ?_
    refine W_rs ?_
    refine sm rfl rfl ?_
    refine sa rfl rfl ?_
    refine Wn ?_
    refine tN ?_
    refine W_ret (bR (tR ?_))
    exact (rT rfl rfl (DPost.same h0 hbw (fileM_none hf _))).1
  | some r =>
    have hf : mget D.files n = some r.f := by rw [h.files, hr]; rfl
    have hlen := (hok.len hf).1
    have hfile := h.at_ n r hr
    have hF := hfile.blk
    have hNo := hfile.now
    obtain ⟨a, ca, hvn, hc1, _⟩ := hfile.now.shape
    rw [hvn] at hF hNo
    refine W_enter (args := [.pointer (some ⟨g, 0, none⟩), str n, .int .i64 i, .int .u8 c.toNat]) 42 Tryz.func48 rfl rfl rfl ?_
    refine W_sub [(0, .pointer (some ⟨g, 0, none⟩)), (1, str n), (2, .int .i64 i), (3, .int .u8 c.toNat)] ?_ ⟨rfl, rfl, rfl, rfl, trivial⟩
    have hbw := Below.refl w.heap.size w
    refine W_rs ?_
    refine sa rfl rfl ?_
    refine Wn ?_
    refine tN ?_
    refine W_rs ?_
    refine sm rfl rfl ?_
    refine sm rfl rfl ?_
    refine sc _ Tryz.func70 rfl (by kernel_rfl) rfl rfl ((find_some g b D rs S n r _ (h.bel hbw) hr).mono ?_)
    rintro e_ w1 ⟨rfl, hb⟩
    refine cR ?_
    replace hbw := bthen hbw hb
    replace hF := hF.bel hb
    replace hNo := hNo.bel hb
    have hz_w1 := hb.size
    clear hb
    refine sm rfl rfl ?_
    refine st (X.ext rfl rfl) rfl ?_
    refine st (X.ext rfl rfl) rfl ?_
    refine sa rfl rfl ?_
    refine sa rfl rfl ?_
    refine Wn ?_
    refine tN ?_
    refine W_seq ?_
    refine W_block ?_
    refine W_rs ?_
    refine sm rfl rfl ?_
    refine st (X.neq rfl rfl) rfl ?_
    refine sa rfl rfl ?_
    refine Wn ?_
    refine tN ?_
    refine W_no rfl (rfl) ?_
    refine W_rs ?_
    refine sm rfl rfl ?_
    refine st (X.lss rfl rfl) rfl ?_
    refine sb rfl rfl (fun h24 => ?_) (fun h24 => ?_)
    · first | replace h24 := of_decide_eq_true h24 | replace h24 := of_decide_eq_false (notT h24) | replace h24 := notT h24 | skip
      refine gN (g := 24) rfl rfl rfl rfl ?_
      refine gN (g := 24) rfl rfl rfl rfl ?_
      refine gN (g := 24) rfl rfl rfl rfl ?_
      refine gN (g := 24) rfl rfl rfl rfl ?_
      refine gN (g := 24) rfl rfl rfl rfl ?_
      refine gN (g := 24) rfl rfl rfl rfl ?_
      refine gN (g := 24) rfl rfl rfl rfl ?_
      refine st (X.pickT rfl rfl) rfl ?_
      refine sa rfl rfl ?_
      refine Wn ?_
      refine tN ?_
      refine W_yes rfl (rfl) ?_
      refine W_rs ?_
      refine sa rfl rfl ?_
      refine Wn ?_
      refine tN ?_
      refine W_ret (bR (tR ?_))
      exact (rT rfl rfl (DPost.same h0 hbw ((fileM_some hf _).trans (if_pos (by omega))))).1
    · first | replace h24 := of_decide_eq_false h24 | replace h24 := of_decide_eq_true (notF h24) | replace h24 := notF h24 | skip
      refine gY (g := 24) rfl rfl rfl ?_
      refine sm rfl rfl ?_
      refine gY (g := 24) rfl rfl rfl ?_
      refine sm rfl rfl ?_
      refine gY (g := 24) rfl rfl rfl ?_
      refine st (X.nilChk rfl) rfl ?_
      refine gY (g := 24) rfl rfl rfl ?_
      refine st (X.fa fa98_1 rfl) rfl ?_
      refine gY (g := 24) rfl rfl rfl ?_
      refine st (X.ldL rfl hF Tryz.underlying94 rfl rfl) rfl ?_
      refine gY (g := 24) rfl rfl rfl ?_
      refine st (X.lenL rfl rfl Tryz.underlying94) rfl ?_
      refine gY (g := 24) rfl rfl rfl ?_
      refine st (X.geq rfl rfl) rfl ?_
      refine st (X.pickF rfl rfl) rfl ?_
      refine sa rfl rfl ?_
      refine Wn ?_
      refine tN ?_
      refine W_if rfl (fun h21 => ?_) (fun h21 => ?_)
      · first | replace h21 := of_decide_eq_true h21 | replace h21 := of_decide_eq_false (notT h21) | replace h21 := notT h21 | skip
        refine W_rs ?_
        refine sa rfl rfl ?_
        refine Wn ?_
        refine tN ?_
        refine W_ret (bR (tR ?_))
        exact (rT rfl rfl (DPost.same h0 hbw ((fileM_some hf _).trans (if_pos (by omega))))).1
      · first | replace h21 := of_decide_eq_false h21 | replace h21 := of_decide_eq_true (notF h21) | replace h21 := notF h21 | skip
        refine W_skip ?_
        refine bN ?_
        refine tN ?_
        refine W_rs ?_
        obtain ⟨j, rfl⟩ : ∃ j : Nat, i = j := ⟨i.toNat, by omega⟩
        obtain ⟨gn, on, cn, hv, _⟩ := hNo.form (by omega)
        injection hv with ea _ ec
        subst ea ec
        refine sm rfl rfl ?_
        refine st (X.nilChk rfl) rfl ?_
        refine st (X.fa fa98_1 rfl) rfl ?_
        refine st (X.ldL rfl hF Tryz.underlying94 rfl rfl) rfl ?_
        refine sm rfl rfl ?_
        refine sm rfl rfl ?_
        refine st (X.idxA (j := j) rfl rfl Tryz.underlying94 siz5 rfl (by omega)) rfl ?_
        refine ssR (j := j) (by rw [Nat.mul_one]; rfl) rfl hNo (by omega) siz5 rfl (fun w2 hN2 hC2 => ?_)
        have hF2 := hF.chg hC2 (fun e => hNo.ne2 hF (by decide) gn rfl e.symm)
        have hN3 : Row w2 5 1 (.slice (some ⟨gn, on, none⟩) r.f.now.length ca) (r.f.now.set j c).length ((r.f.now.set j c).map bv) := by
          rw [List.length_set, List.map_set]
          exact hN2
        have hnl : (r.f.now.set j c).length = r.f.now.length := List.length_set ..
        refine Wn ?_
        refine tN ?_
        refine W_rs ?_
        refine sm rfl rfl ?_
        refine sc _ Tryz.func92 rfl (by kernel_rfl) rfl rfl ((lasts_any r.blk r.vl _ r.vp (r.f.now.set j c) _ hF2 hN3 (by omega)).mono ?_)
        rintro e_ w3 ⟨rfl, vl', hB3, hL3, hN4, hO3, hC3⟩
        refine cR ?_
        refine Wn ?_
        refine tN ?_
        refine W_rs ?_
        refine sa rfl rfl ?_
        refine Wn ?_
        refine tN ?_
        refine W_ret ?_
        have hCw : Chg (fun k => k = g ∨ r.owns k) w w3 := (((Chg.of_below hbw _).next hC2 (fun k hk => .inl (.inr (.inr (.inr (.inl (by rw [hvn]; exact congrArg some hk.symm))))))).next hC3 (fun k hk => .inl (.inr (.inl hk))))
        have hz3 := hbw.size
        have hz4 := hC2.size
        have h5 := h.file (r' := ⟨r.blk, vl', .slice (some ⟨gn, on, none⟩) r.f.now.length ca, .slice none 0 0, ⟨r.f.now.set j c, r.f.now.set j c, []⟩⟩) (D' := { D with files := sput D.files n ⟨r.f.now.set j c, r.f.now.set j c, []⟩ }) hr hCw (((h.blk.belowAll hbw).chg hC2 (fun e => (h.ne hr).1 (.inr (.inr (.inl (by rw [hvn]; exact congrArg some e.symm)))))).chg hC3 (fun e => (h.ne hr).1 (.inl e))) (fun m => mget_sput hok.srt n _ m) ⟨hB3, hL3, hN4, Row.nil _ _ _, fun k hk hk2 => ?_⟩ rfl ?_
        · have e1 : rotM D n j c = (0, { D with files := sput D.files n ⟨r.f.now.set j c, r.f.now.set j c, []⟩ }) := (fileM_some hf _).trans (if_neg (by omega))
          rw [e1]
          exact (rT rfl rfl ⟨rfl, ⟨b, _, h5⟩, hCw.mono (fun k _ hk => hk.elim (fun e => e ▸ h.inS.1) (h.inR n r k hr))⟩).1
        · have := hO3 k hk
          have := hfile.lt (k := k) (.inr (.inr (.inl (by rw [hvn]; exact hk2))))
          omega
        · rintro k (e | e | e | e)
          · exact .inl (.inl e)
          · have := hO3 k e
            exact .inr (by omega)
          · exact .inl (.inr (.inr (.inl (by rw [hvn]; exact e))))
          · simp [Value.ownBlock] at e
end Go.Proofs.YtnijmegalgoipaaGreatDoor
namespace Go.Proofs.YtnijmegalgoipaaGreatDoor
open Go.RowKit
/-- a disk that is sound, and how much was written to it -/
structure Good (n : Nat) (D : DiskD) : Prop where
  ok : DOk D
  pend : ∀ k f, mget D.files k = some f → pendLen f.pend ≤ n ∧ f.pend.length ≤ n
  ref : D.refused ≤ n
  few : D.files.length ≤ n
section
variable {n m : Nat} {D : DiskD} {k : Key} {f : FileD}
theorem Good.bud (h : Good n D) (hn : n ≤ 1099511627776) : DBud D := ⟨fun k f hf => by have := h.pend k f hf; omega, by have := h.ref; omega⟩
theorem Good.mono (h : Good n D) (hn : n ≤ m) : Good m D := ⟨h.ok, fun k f hf => by have := h.pend k f hf; omega, by have := h.ref; omega, by have := h.few; omega⟩
theorem Good.new {l : Int} (hl : 0 ≤ l ∧ l ≤ 16777216) : Good n (newM l) :=
  ⟨⟨List.Pairwise.nil, hl, rfl, hl.1, Int.le_refl _, (fun h => by cases h), (fun k f h => by cases h)⟩, (fun k f h => by cases h), (by show (0 : Int) ≤ n; omega), Nat.zero_le _⟩
theorem Good.tick (h : Good n D) (hl : ¬ (D.stops = true ∧ D.left = 0)) : Good n (tickM D) := by
  refine ⟨tick_ok h.ok hl, ?_, ?_, by rw [tick_files]; exact h.few⟩
  · rw [tick_files]
    exact h.pend
  · have := h.ref
    unfold tickM
    split <;> exact this
theorem sput_length (l : List (Key × FileD)) (k : Key) (f : FileD) : (sput l k f).length ≤ l.length + 1 := by
  induction l with
  | nil => simp [sput]
  | cons p l ih =>
    obtain ⟨a, u⟩ := p
    unfold sput
    split
    · simp
    · split
      · simp
      · simp only [List.length_cons]
        omega
theorem sput_length_old {l : List (Key × FileD)} (hl : Rising l) {k : Key} {f g : FileD} (h : mget l k = some g) : (sput l k f).length = l.length := by
  have h1 := keys_perm (m := sput l k f) (m' := l) (hl.sput k f).nodup hl.nodup (fun q => by
    rw [mget_sput hl]
    split
    · rename_i e
      rw [e, h]
      rfl
    · rfl)
  simpa using h1.length_eq
theorem mdel_length_le (l : List (Key × FileD)) (k : Key) : (mdel l k).length ≤ l.length := by
  induction l with
  | nil => simp [mdel]
  | cons p l ih =>
    obtain ⟨a, u⟩ := p
    unfold mdel
    split
    · simp
    · simp only [List.length_cons]
      omega
theorem mdel_length_old {l : List (Key × FileD)} {k : Key} {f : FileD} (h : mget l k = some f) : (mdel l k).length + 1 = l.length := by
  induction l with
  | nil => cases h
  | cons p l ih =>
    obtain ⟨a, u⟩ := p
    unfold mget at h
    unfold mdel
    split at h
    · rename_i e
      rw [if_pos e]
      simp
    · rename_i e
      rw [if_neg e]
      simp only [List.length_cons, ih h]
theorem Good.put (h : Good n D) (hn : n ≤ m) (hf : FOk f) (hp : pendLen f.pend ≤ m ∧ f.pend.length ≤ m) {u : Int} (hu : u = usedM (sput D.files k f)) (hr : u ≤ D.limit) (hw : (sput D.files k f).length ≤ m) : Good m { D with files := sput D.files k f, used := u } := by
  have hs := h.ok.srt
  refine ⟨⟨hs.sput k f, h.ok.lim, hu, hr, h.ok.ref, h.ok.stp, fun q g hg => ?_⟩, fun q g hg => ?_, by have := h.ref; show D.refused ≤ m; omega, hw⟩
  · replace hg : mget (sput D.files k f) q = some g := hg
    rw [mget_sput hs] at hg
    split at hg
    · injection hg with hg
      rw [← hg]
      exact hf
    · exact h.ok.fok q g hg
  · replace hg : mget (sput D.files k f) q = some g := hg
    rw [mget_sput hs] at hg
    split at hg
    · injection hg with hg
      rw [← hg]
      exact hp
    · have := h.pend q g hg
      omega
theorem Good.del (h : Good n D) {u : Int} (hu : u = usedM (mdel D.files k)) : Good n { D with files := mdel D.files k, used := u } := by
  have hs := h.ok.srt
  have hle : u ≤ D.limit := by
    have h1 := usedM_del (m := D.files) k
    have h2 := h.ok.used
    have h3 := h.ok.room
    omega
  refine ⟨⟨hs.del k, h.ok.lim, hu, hle, h.ok.ref, h.ok.stp, fun q g hg => ?_⟩, fun q g hg => ?_, h.ref, Nat.le_trans (mdel_length_le _ _) h.few⟩
  · replace hg : mget (mdel D.files k) q = some g := hg
    rw [mget_mdel hs.nodup] at hg
    split at hg
    · cases hg
    · exact h.ok.fok q g hg
  · replace hg : mget (mdel D.files k) q = some g := hg
    rw [mget_mdel hs.nodup] at hg
    split at hg
    · cases hg
    · exact h.pend q g hg
theorem usedM_new (hs : Rising D.files) (hf : mget D.files k = none) (hn : f.now = []) : usedM (sput D.files k f) = usedM D.files := by
  have := usedM_sput hs k f
  rw [hf, hn] at this
  simpa using this
theorem usedM_old (hs : Rising D.files) {g : FileD} (hf : mget D.files k = some g) : usedM (sput D.files k f) + g.now.length = usedM D.files + f.now.length := by
  have := usedM_sput hs k f
  rw [hf] at this
  simpa using this
/-- a property that a call keeps -/
theorem opM_good {c : DiskD → Int × DiskD} (h : Good n D) (hn : n ≤ m) (hc : ∀ D', Good n D' → D'.files = D.files → D'.limit = D.limit → Good m (c D').2) : Good m (opM D c).2 := by
  by_cases hl : D.stops = true ∧ D.left = 0
  · rw [opM_dead hl]
    exact h.mono hn
  · rw [opM_live hl]
    refine hc _ (h.tick hl) (tick_files D) ?_
    unfold tickM
    split <;> rfl
theorem fileM_good {c : FileD → Int × DiskD} (h : Good n D) (hn : n ≤ m) (hc : ∀ f, mget D.files k = some f → Good m (c f).2) : Good m (fileM D k c).2 := by
  cases hg : mget D.files k with
  | none => rw [fileM_none hg]; exact h.mono hn
  | some f => rw [fileM_some hg]; exact hc f hg
theorem create_good (h : Good n D) (k : Key) : Good (n + 1) (createM D k).2 := by
  refine opM_good h (by omega) fun D' h' _ _ => ?_
  split
  · split
    · exact h'.mono (by omega)
    · rename_i hn
      have hg : mget D'.files k = none := by
        cases hg : mget D'.files k with
        | none => rfl
        | some f => rw [hg] at hn; exact absurd rfl hn
      exact h'.put (by omega) FOk.new ⟨by simp [newFile, pendLen], by simp [newFile]⟩ (by rw [usedM_new h'.ok.srt hg rfl]; exact h'.ok.used) h'.ok.room (by have := sput_length D'.files k newFile; have := h'.few; omega)
  · exact h'.mono (by omega)
theorem put_good (h : Good n D) (hf : mget D.files k = some f) {at_ : Nat} {d : List UInt8} (ha : at_ ≤ f.now.length) : Good (n + d.length + 1) (putM D k f at_ d).2 := by
  unfold putM
  split
  · exact h.mono (by omega)
  · rename_i hd
    split
    · exact ⟨⟨h.ok.srt, h.ok.lim, h.ok.used, h.ok.room, by have := h.ok.ref; show 0 ≤ D.refused + 1; omega, h.ok.stp, h.ok.fok⟩, fun q g hg => by have := h.pend q g hg; omega, by have := h.ref; show D.refused + 1 ≤ _; omega, by have := h.few; show D.files.length ≤ _; omega⟩
    · rename_i hr
      have h1 := usedM_old (f := laidM f at_ d) h.ok.srt hf
      have h2 : (laidM f at_ d).now.length = max f.now.length (at_ + d.length) := overM_length ha
      have h3 := h.ok.used
      have h4 := h.pend k f hf
      refine h.put (by omega) ((h.ok.fok k f hf).laid ha hd) ?_ ?_ (by omega) (by rw [sput_length_old h.ok.srt hf]; have := h.few; omega)
      · show pendLen (f.pend ++ [(at_, d)]) ≤ _ ∧ (f.pend ++ [(at_, d)]).length ≤ _
        rw [pendLen_append, List.length_append]
        simp only [pendLen, List.length_singleton]
        omega
      · unfold moreM
        omega
theorem append_good (h : Good n D) (k : Key) (d : List UInt8) : Good (n + d.length + 1) (appendM D k d).2 :=
  opM_good h (by omega) fun _ h' _ _ => fileM_good h' (by omega) fun _ hf => put_good h' hf (Nat.le_refl _)
theorem write_good (h : Good n D) (k : Key) (i : Int) (d : List UInt8) : Good (n + d.length + 1) (writeM D k i d).2 :=
  opM_good h (by omega) fun D' h' _ _ => fileM_good h' (by omega) fun f hf => by
    split
    · exact h'.mono (by omega)
    · exact put_good h' hf (by omega)
theorem sync_good (h : Good n D) (k : Key) : Good n (syncM D k).2 :=
  opM_good h (Nat.le_refl _) fun D' h' _ _ => fileM_good h' (Nat.le_refl _) fun f hf =>
    h'.put (u := D'.used) (Nat.le_refl _) (FOk.lasts f) ⟨by simp [lastsM, pendLen], by simp [lastsM]⟩ (by
      have h1 := usedM_old (f := lastsM f) h'.ok.srt hf
      have h2 := h'.ok.used
      have h3 : (lastsM f).now.length = f.now.length := rfl
      omega) h'.ok.room (by rw [sput_length_old h'.ok.srt hf]; exact h'.few)
theorem remove_good (h : Good n D) (k : Key) : Good n (removeM D k).2 :=
  opM_good h (Nat.le_refl _) fun D' h' _ _ => fileM_good h' (Nat.le_refl _) fun f hf => h'.del (by
    have h1 := usedM_del (m := D'.files) k
    rw [hf] at h1
    have h2 := h'.ok.used
    simp only [Option.map_some, Option.getD_some] at h1
    omega)
theorem rename_good (h : Good n D) (a b : Key) : Good n (renameM D a b).2 := by
  refine opM_good h (Nat.le_refl _) fun D' h' _ _ => ?_
  split
  · refine fileM_good h' (Nat.le_refl _) fun f hf => ?_
    split
    · exact h'
    · rename_i hab
      have h1 := usedM_del (m := D'.files) a
      rw [hf] at h1
      simp only [Option.map_some, Option.getD_some] at h1
      have hd := h'.del (k := a) (u := usedM (mdel D'.files a)) rfl
      have h2 := usedM_sput (hd.ok.srt) b f
      have h3 : mget (mdel D'.files a) b = mget D'.files b := by
        rw [mget_mdel h'.ok.srt.nodup, if_neg (fun e => hab e.symm)]
      replace h2 : usedM (sput (mdel D'.files a) b f) + lenAt D' b = usedM (mdel D'.files a) + f.now.length := by
        rw [← h2]
        unfold lenAt
        show _ = _ + ((mget (mdel D'.files a) b).map _).getD 0
        rw [h3]
      have h4 := h'.ok.used
      have h5 := h'.ok.room
      have h6 := h'.pend a f hf
      exact hd.put (u := D'.used - lenAt D' b) (Nat.le_refl _) (h'.ok.fok a f hf) h6 (by show _ = ((usedM (sput (mdel D'.files a) b f) : Nat) : Int); omega) (by show _ ≤ D'.limit; omega) (by have h7 := sput_length (mdel D'.files a) b f; have h8 := mdel_length_old hf; have h9 := h'.few; show (sput (mdel D'.files a) b f).length ≤ n; omega)
  · exact h'
theorem rot_good (h : Good n D) (k : Key) (i : Int) (c : UInt8) : Good n (rotM D k i c).2 :=
  fileM_good h (Nat.le_refl _) fun f hf => by
    split
    · exact h
    · exact h.put (u := D.used) (f := ⟨f.now.set i.toNat c, f.now.set i.toNat c, []⟩) (Nat.le_refl _) ⟨rfl, trivial⟩ ⟨by simp [pendLen], by simp⟩ (by
        have h1 := usedM_old (f := ⟨f.now.set i.toNat c, f.now.set i.toNat c, []⟩) h.ok.srt hf
        have h2 := h.ok.used
        simp only [List.length_set] at h1
        omega) h.ok.room (by rw [sput_length_old h.ok.srt hf]; exact h.few)
theorem stop_good (h : Good n D) {i : Int} (hi : i ≤ 9223372036854775807) : Good n (stopM D i) :=
  ⟨⟨h.ok.srt, h.ok.lim, h.ok.used, h.ok.room, h.ok.ref, fun hs => ⟨of_decide_eq_true hs, hi⟩, h.ok.fok⟩, h.pend, h.ref, h.few⟩
theorem crashAll_keys : ∀ (l : List (Key × FileD)) (ks : List Int), (crashAll l ks).map (·.1) = l.map (·.1)
  | [], _ => rfl
  | p :: l, ks => by rw [crashAll, List.map_cons, List.map_cons, crashAll_keys l]
theorem crashAll_get : ∀ (l : List (Key × FileD)) (ks : List Int) (k : Key) (g : FileD), mget (crashAll l ks) k = some g → ∃ f i, mget l k = some f ∧ g = crashM f i
  | [], _, _, _, h => by cases h
  | p :: l, ks, k, g, h => by
    unfold crashAll at h
    unfold mget at h ⊢
    split at h
    · rename_i hk
      injection h with h
      rw [if_pos hk]
      exact ⟨_, _, rfl, h.symm⟩
    · rename_i hk
      rw [if_neg hk]
      exact crashAll_get l _ k g h
theorem crashAll_used : ∀ (l : List (Key × FileD)) (ks : List Int), (∀ p ∈ l, FOk p.2) → usedM (crashAll l ks) ≤ usedM l
  | [], _, _ => Nat.le_refl _
  | p :: l, ks, h => by
    unfold crashAll usedM
    have h1 := crashAll_used l ks.tail (fun q hq => h q (by simp [hq]))
    have h2 := (h p (by simp)).crash_len (keptM p.2 (ks.head?.getD 0))
    simp only
    omega
theorem rising_keys {m m' : List (Key × FileD)} (h : Rising m) (he : m'.map (·.1) = m.map (·.1)) : Rising m' := by
  have h1 : (m.map (·.1)).Pairwise (· < ·) := by rw [List.pairwise_map]; exact h
  rw [← he, List.pairwise_map] at h1
  exact h1
theorem crash_good (h : Good n D) (ks : List Int) : Good n (crashD D ks) := by
  have hs := rising_keys h.ok.srt (crashAll_keys D.files ks)
  refine ⟨⟨hs, h.ok.lim, rfl, ?_, h.ok.ref, (fun e => by cases e), fun q g hg => ?_⟩, fun q g hg => ?_, h.ref, by have h4 := congrArg List.length (crashAll_keys D.files ks); simp only [List.length_map] at h4; show (crashAll D.files ks).length ≤ n; rw [h4]; exact h.few⟩
  · have h1 := crashAll_used D.files ks (fun p hp => h.ok.fok p.1 p.2 (mget_of_mem h.ok.srt.nodup hp))
    have h2 := h.ok.used
    have h3 := h.ok.room
    show ((usedM (crashAll D.files ks) : Nat) : Int) ≤ D.limit
    omega
  · obtain ⟨f, i, _, rfl⟩ := crashAll_get _ _ _ _ hg
    exact FOk.crash f i
  · obtain ⟨f, i, _, rfl⟩ := crashAll_get _ _ _ _ hg
    exact ⟨by simp [crashM, pendLen], by simp [crashM]⟩
end
end Go.Proofs.YtnijmegalgoipaaGreatDoor
namespace Go.Proofs.YtnijmegalgoipaaGreatDoor
open Go.RowKit
theorem pend_take {l : List (Nat × List UInt8)} {j : Nat} {x : Nat × List UInt8} (h : l[j]? = some x) : pendLen (l.take (j + 1)) = pendLen (l.take j) + x.2.length := by
  rw [take_next' h, pendLen_append]
  simp [pendLen]
theorem pend_drop {l : List (Nat × List UInt8)} {j : Nat} {x : Nat × List UInt8} (h : l[j]? = some x) : l.drop j = x :: l.drop (j + 1) := by
  obtain ⟨hj, rfl⟩ := List.getElem?_eq_some_iff.1 h
  exact List.drop_eq_getElem_cons hj
theorem pendLen_le_take (l : List (Nat × List UInt8)) (j : Nat) : pendLen (l.take j) ≤ pendLen l := by
  conv => rhs; rw [← List.take_append_drop j l, pendLen_append]
  omega
theorem mod_twice (p n : Int) : (p.tmod n + n) % n = p % n := by
  rw [Int.tmod_def, Int.add_emod_right]
  rw [Int.sub_eq_add_neg, ← Int.mul_neg, Int.add_mul_emod_self_left]
theorem kept_any (g : Nat) (vl vn vp : Value) (f : FileD) (pick : Int) (w : World) (hB : Blk w g 98 #[vl, vn, vp]) (hP : Row w 101 2 vp f.pend.length (f.pend.flatMap putCells)) (hl : pendLen f.pend ≤ 1099511627776) :
    Calls Tryz.prog 72 #[.pointer (some ⟨g, 0, none⟩), .int .i64 pick] w fun e w' => e = .returned (.int .i64 (keptM f pick)) ∧ Below w.heap.size w w' := by
  obtain ⟨a, c, rfl, hc1, hc2⟩ := hP.shape
  have hnn := hP.nle
  obtain ⟨l, hfl⟩ : ∃ l, f.pend = l := ⟨_, rfl⟩
  unfold keptM
  rw [hfl] at hP hB hl hc1 hnn ⊢
  refine W_enter (args := [.pointer (some ⟨g, 0, none⟩), .int .i64 pick]) 30 Tryz.func72 rfl rfl rfl ?_
  refine W_sub [(0, .pointer (some ⟨g, 0, none⟩)), (1, .int .i64 pick)] ?_ ⟨rfl, rfl, trivial⟩
  have hbw := Below.refl w.heap.size w
  refine W_rs ?_
  refine sa rfl rfl ?_
  refine Wn ?_
  refine tN ?_
  refine W_rs ?_
  refine sa rfl rfl ?_
  refine Wn ?_
  refine tN ?_
  refine W_seq ?_
  refine W_rs ?_
  refine sm rfl rfl ?_
  refine st (X.nilChk rfl) rfl ?_
  refine st (X.fa fa98_2 rfl) rfl ?_
  refine st (X.ldL rfl hB Tryz.underlying96 rfl rfl) rfl ?_
  refine st (X.lenL rfl rfl Tryz.underlying96) rfl ?_
  refine sm rfl rfl ?_
  refine Wn ?_
  refine tN ?_
  refine W_block ?_
  refine W_lp (fun nw1_ lw1_ w1 => ∃ j : Nat, nw1_ = l.length - j ∧ lw1_ = ([(1, .int .i64 pick), (5, .int .i64 (1 + (pendLen (l.take j) : Nat))), (11, .slice a l.length c), (12, .int .i64 l.length), (13, .int .i64 j)] : Env) ∧ (j ≤ l.length) ∧ (Below w.heap.size w w1) ∧ (Row w1 101 2 (.slice a l.length c) l.length (l.flatMap putCells))) _ ⟨_, ⟨0, rfl, rfl, by omega, hbw, hP.bel hbw⟩, ⟨rfl, rfl, rfl, rfl, rfl, trivial⟩⟩ ?_
  clear hbw
  rintro nw1_ lw1_ w1 ⟨j, rfl, rfl, hj, hbw, hP⟩
  have hz_w1 := hbw.size
  refine W_rs ?_
  refine st (X.lss rfl rfl) rfl ?_
  refine Wn ?_
  refine tN ?_
  refine W_seq ?_
  refine W_if rfl (fun h14 => ?_) (fun h14 => ?_)
  · first | replace h14 := of_decide_eq_true h14 | replace h14 := of_decide_eq_false (notT h14) | replace h14 := notT h14 | skip
    obtain ⟨x, hx⟩ : ∃ x, l[j]? = some x := ⟨_, List.getElem?_eq_getElem (by omega)⟩
    obtain ⟨g1, o1, c', hv, hg1⟩ := hP.reads.some_ (by omega)
    injection hv with e1 _ e3
    subst e1 e3
    have hle := pendLen_le_take l (j + 1)
    rw [pend_take hx] at hle
    refine W_skip ?_
    refine tN ?_
    refine W_seq ?_
    refine W_block ?_
    refine W_rs ?_
    refine st (X.idxA rfl rfl Tryz.underlying96 siz101 rfl (by omega)) rfl ?_
    refine st (X.ldN (cs := putCells x) rfl Tryz.underlying101 rfl siz101 (hP.reads.rec_ (fun p _ => putCells_length p) hx)) rfl ?_
    refine salA inf101 rfl (fun g7 w2 hB7 hg7 hb hl7 => ?_)
    have hpend := hb
    replace hbw := bthen hbw hb
    have hz_w2 := hb.size
    clear hb
    refine ssBN rfl rfl hB7 siz101 rfl rfl (fun w3 hB_ hc_ => ?_)
    replace hB7 := hB_
    clear hB_
    replace hpend := bset hpend hc_ (by omega)
    replace hbw := bset hbw hc_ (by omega)
    have hz_w3 := hc_.size
    clear hc_
    refine Wn ?_
    refine tN ?_
    refine W_reg ?_
    refine sm rfl rfl ?_
    refine st (X.fa fa101_1 rfl) rfl ?_
    refine st (X.ldL rfl hB7 Tryz.underlying9 rfl rfl) rfl ?_
    refine st (X.lenS (s := x.2) rfl rfl Tryz.underlying9) rfl ?_
    refine st (X.add64 rfl rfl (by omega)) rfl ?_
    refine sa rfl rfl ?_
    refine Wn ?_
    refine bN ?_
    refine tN ?_
    refine W_reg ?_
    refine st (X.add64 rfl rfl (by omega)) rfl ?_
    refine sm rfl rfl ?_
    refine Wn ?_
    replace hP := hP.bel hpend
    clear hpend
    refine tN ⟨_, _, ?_, ⟨j + 1, rfl, rfl, by omega, hbw, hP⟩, ⟨rfl, by rw [pend_take hx, Int.natCast_add, Int.add_assoc]; rfl, rfl, rfl, rfl, trivial⟩⟩
    omega
  · first | replace h14 := of_decide_eq_false h14 | replace h14 := of_decide_eq_true (notF h14) | replace h14 := notF h14 | skip
    obtain rfl : j = l.length := by omega
    rw [List.take_length]
    have ht1 := Int.tmod_lt_of_pos pick (b := 1 + (pendLen l : Nat)) (by omega)
    have ht2 := Int.lt_tmod_of_pos pick (b := 1 + (pendLen l : Nat)) (by omega)
    obtain ⟨q, hq⟩ : ∃ q, pick.tmod (1 + (pendLen l : Nat)) = q := ⟨_, rfl⟩
    rw [hq] at ht1 ht2
    refine W_exit (tE (tE (bH ?_)))
    refine tN ?_
    refine W_rs ?_
    refine sm rfl rfl ?_
    refine sm rfl rfl ?_
    refine st (X.rem rfl rfl (by omega) hq) rfl ?_
    refine sm rfl rfl ?_
    refine st (X.add64 rfl rfl (by omega)) rfl ?_
    refine sm rfl rfl ?_
    refine st (X.rem64 rfl rfl (by omega) (by omega)) rfl ?_
    refine sa rfl rfl ?_
    refine Wn ?_
    refine tN ?_
    refine W_ret ?_
    refine (rT rfl rfl ⟨?_, hbw⟩).1
    have h5 := Int.emod_nonneg pick (b := 1 + (pendLen l : Nat)) (by omega)
    rw [← hq, mod_twice, show ((pendLen l + 1 : Nat) : Int) = 1 + (pendLen l : Nat) by omega, Int.toNat_of_nonneg h5]
theorem take_min' {α : Type} (l : List α) (k : Nat) : l.take (min k l.length) = l.take k := by
  rcases Nat.le_total k l.length with h | h
  · rw [Nat.min_eq_left h]
  · rw [Nat.min_eq_right h, List.take_length, List.take_of_length_le h]
set_option maxRecDepth 10000 in
theorem crash_any (r : FRec) (keep : Nat) (w : World) (h : FileAt w r) (hpl : pendLen r.f.pend ≤ 1099511627776) (hll : r.f.last.length ≤ 1099511627776) (hkp : keep ≤ 4398046511104) :
    Calls Tryz.prog 71 #[.pointer (some ⟨r.blk, 0, none⟩), .int .i64 keep] w fun e w' => e = .returned (.tuple #[]) ∧ ∃ r', FileAt w' r' ∧ r'.blk = r.blk ∧ r'.f = crashM r.f keep ∧ (∀ k, r'.owns k → r.owns k ∨ w.heap.size ≤ k) ∧ Chg r.owns w w' := by
  have hF := h.blk
  have hLa := h.last
  have hPe := h.pend
  have hflt := hF.lt
  obtain ⟨ap, cp, hvp, hcp, hcp2⟩ := hPe.shape
  obtain ⟨al, cl, hvl, hcl, hcl2⟩ := hLa.shape
  have hnn := hPe.nle
  obtain ⟨l, hfl⟩ : ∃ l, r.f.pend = l := ⟨_, rfl⟩
  rw [hfl] at hPe hpl hcp hnn hvp
  rw [hvl] at hF hLa
  rw [hvp] at hF hPe
  refine W_enter (args := [.pointer (some ⟨r.blk, 0, none⟩), .int .i64 keep]) 55 Tryz.func71 rfl rfl rfl ?_
  refine W_sub [(0, .pointer (some ⟨r.blk, 0, none⟩)), (1, .int .i64 keep)] ?_ ⟨rfl, rfl, trivial⟩
  have hcw := Chg.refl (r.owns) w
  refine W_seq ?_
  refine W_rs ?_
  refine sm rfl rfl ?_
  refine st (X.nilChk rfl) rfl ?_
  refine st (X.fa fa98_2 rfl) rfl ?_
  refine st (X.ldL rfl hF Tryz.underlying96 rfl rfl) rfl ?_
  refine st (X.lenL rfl rfl Tryz.underlying96) rfl ?_
  refine sm rfl rfl ?_
  refine Wn ?_
  refine tN ?_
  refine W_block ?_
  refine W_lp (fun nw1_ lw1_ w1 => ∃ j : Nat, ∃ a1 : Option Addr, ∃ c1 : Nat, ∃ s : List UInt8, ∃ kp : Nat, nw1_ = l.length - j ∧ lw1_ = ([(0, .pointer (some ⟨r.blk, 0, none⟩)), (1, .int .i64 kp), (10, .slice ap l.length cp), (11, .int .i64 l.length), (12, .int .i64 j)] : Env) ∧ (j ≤ l.length) ∧ (kp ≤ 4398046511104) ∧ (s.length + pendLen (l.drop j) ≤ 4398046511104) ∧ (crashBytes r.f.last l keep = crashBytes s (l.drop j) kp) ∧ (Chg r.owns w w1) ∧ (Blk w1 r.blk 98 #[.slice a1 s.length c1, r.vn, .slice ap l.length cp]) ∧ (Row w1 5 1 (.slice a1 s.length c1) s.length (s.map bv)) ∧ (Row w1 101 2 (.slice ap l.length cp) l.length (l.flatMap putCells)) ∧ (∀ k, (Value.slice a1 s.length c1).ownBlock = some k → r.vl.ownBlock = some k ∨ w.heap.size ≤ k)) _ ⟨_, ⟨0, al, cl, r.f.last, keep, rfl, rfl, by omega, hkp, by rw [List.drop_zero]; omega, by rw [List.drop_zero], hcw, hF, hLa, hPe, fun k hk => .inl (by rw [hvl]; exact hk)⟩, ⟨rfl, rfl, rfl, rfl, rfl, trivial⟩⟩ ?_
  clear hcw hF hLa hPe
  rintro nw1_ lw1_ w1 ⟨j, a1, c1, s, kp, rfl, rfl, hj, hkb, hsl, heq, hcw, hF, hLa, hPe, hO⟩
  have hlt_hF_w1 := hF.lt
  have hzc := hcw.size
  refine W_rs ?_
  refine st (X.lss rfl rfl) rfl ?_
  refine Wn ?_
  refine tN ?_
  refine W_seq ?_
  refine W_if rfl (fun h13 => ?_) (fun h13 => ?_)
  · first | replace h13 := of_decide_eq_true h13 | replace h13 := of_decide_eq_false (notT h13) | replace h13 := notT h13 | skip
    obtain ⟨x, hx⟩ : ∃ x, l[j]? = some x := ⟨_, List.getElem?_eq_getElem (by omega)⟩
    obtain ⟨g1, o1, c', hv, hg1⟩ := hPe.reads.some_ (by omega)
    injection hv with e1 _ e3
    subst e1 e3
    have hdj := pend_drop hx
    rw [hdj] at heq hsl
    have hptl : (x.2.take (min kp x.2.length)).length = min kp x.2.length := by rw [List.length_take]; omega
    have hsl3 : s.length + (x.2.length + pendLen (l.drop (j + 1))) ≤ 4398046511104 := hsl
    refine W_skip ?_
    refine tN ?_
    refine W_seq ?_
    refine W_block ?_
    refine W_rs ?_
    refine st (X.idxA rfl rfl Tryz.underlying96 siz101 rfl (by omega)) rfl ?_
    refine st (X.ldN (cs := putCells x) rfl Tryz.underlying101 rfl siz101 (hPe.reads.rec_ (fun p _ => putCells_length p) hx)) rfl ?_
    refine salA inf101 rfl (fun g5 w2 hB5 hg5 hb hl5 => ?_)
    have hpend := hb
    replace hcw := hcw.then_below hb
    replace hF := hF.bel hb
    have hz_w2 := hb.size
    clear hb
    refine ssBN rfl rfl hB5 siz101 rfl rfl (fun w3 hB_ hc_ => ?_)
    replace hB5 := hB_
    clear hB_
    replace hpend := bset hpend hc_ (by omega)
    replace hF := hF.chg hc_ (by first | (show ¬ _ = _; omega) | (intro k_ hk_; simp [Value.ownBlock] at hk_; subst hk_; show ¬ _ = _; omega) | assumption | trivial)
    replace hcw := hcw.next hc_ (fun i_ hi_ => by first | exact .inl hi_ | exact .inl (.inl hi_) | (right; subst hi_; omega) | (left; subst hi_; show _ ≤ _; omega) | (left; subst hi_; assumption))
    have hz_w3 := hc_.size
    clear hc_
    refine Wn ?_
    refine tN ?_
    refine W_rs ?_
    refine st (X.fa fa101_1 rfl) rfl ?_
    refine st (X.ldL rfl hB5 Tryz.underlying9 rfl rfl) rfl ?_
    refine sm rfl rfl ?_
    refine st (X.fa fa101_1 rfl) rfl ?_
    refine st (X.ldL rfl hB5 Tryz.underlying9 rfl rfl) rfl ?_
    refine st (X.lenS (s := x.2) rfl rfl Tryz.underlying9) rfl ?_
    refine st (X.min2 (r := (min kp x.2.length : Nat)) rfl rfl (by split <;> omega)) rfl ?_
    refine st (X.toS (s := x.2) rfl rfl Tryz.underlying9 rfl (by omega)) rfl ?_
    refine sa rfl rfl ?_
    refine Wn ?_
    refine tN ?_
    refine W_rs ?_
    refine sm rfl rfl ?_
    refine sm rfl rfl ?_
    refine st (X.lenS rfl rfl Tryz.underlying9) rfl ?_
    refine st (X.sub64 rfl rfl (by omega)) rfl ?_
    refine sa rfl rfl ?_
    refine Wn ?_
    refine tN ?_
    refine W_float 14 (by kernel_rfl) (by kernel_rfl) ?_
    obtain ⟨w4, hw_⟩ : ∃ w4 : World, w4 = World.drew w3 := ⟨_, rfl⟩
    rw [← hw_]
    have hb : Below w3.heap.size w3 w4 := by rw [hw_]; exact bdrew (Below.refl _ _)
    clear hw_
    replace hpend := bthen hpend hb
    replace hcw := hcw.then_below hb
    replace hF := hF.bel hb
    replace hB5 := hB5.bel hb
    have hz_w4 := hb.size
    clear hb
    refine fY (X.move rfl) rfl ?_
    refine fY (X.move rfl) rfl ?_
    refine fY (X.nilChk rfl) rfl ?_
    refine fY (X.fa fa98_0 rfl) rfl ?_
    refine fY (X.ldL rfl hF Tryz.underlying94 rfl rfl) rfl ?_
    refine fY (X.fa fa101_0 rfl) rfl ?_
    refine fY (X.ldL rfl hB5 Tryz.underlying3 rfl rfl) rfl ?_
    refine fY (X.move rfl) rfl ?_
    refine fY (X.nilChk rfl) rfl ?_
    refine fY (X.fa fa98_0 rfl) rfl ?_
    refine fY (X.ldL rfl hF Tryz.underlying94 rfl rfl) rfl ?_
    refine fY (X.lenL rfl rfl Tryz.underlying94) rfl ?_
    refine fY (X.min2 (r := (min x.1 s.length : Nat)) rfl rfl (by split <;> omega)) rfl ?_
    refine fY (X.move rfl) rfl ?_
    refine fN ?_
    replace hPe := hPe.bel hpend
    replace hLa := hLa.bel hpend
    clear hpend
    refine sc _ Tryz.func102 rfl (by kernel_rfl) rfl rfl ((over_any _ s (min x.1 s.length) (x.2.take (min kp x.2.length)) _ hLa (by omega) (by omega) (by omega)).mono ?_)
    rintro e_ w5 ⟨v', rfl, hR4, hC4, hO4⟩
    refine cR ?_
    obtain ⟨a2, c2, rfl, hc4, _⟩ := hR4.shape
    have hzc4 := hcw.size
    have hF4 := hF.chg hC4 (fun e => hLa.ne2 hF (by decide) _ e rfl)
    have hPe4 := hPe.chg hC4 (fun k hk => hPe.apart_ hLa (by decide) k hk)
    have hcw4 := hcw.next hC4 (fun i hi => (hO i hi).imp (fun e => .inr (.inl e)) id)
    have hO5 : ∀ k, (Value.slice a2 (overM s (min x.1 s.length) (x.2.take (min kp x.2.length))).length c2).ownBlock = some k → r.vl.ownBlock = some k ∨ w.heap.size ≤ k := fun k hk => (hO4 k hk).elim (hO k) (fun e => .inr (by omega))
    clear hF hPe hLa hcw hO
    refine st (X.nilChk rfl) rfl ?_
    refine st (X.fa fa98_0 rfl) rfl ?_
    refine ssB rfl rfl hF4 siz94 rfl (by simp) (fun w6 hF hC5 => ?_)
    have hcw := hcw4.next hC5 (fun i hi => .inl (.inl hi))
    have hLa := hR4.chg hC5 (hR4.ne2 hF4 (by decide))
    have hPe := hPe4.chg hC5 (hPe4.ne2 hF4 (by decide))
    have hO := hO5
    clear hcw4 hF4 hPe4 hR4 hO5
    have hol := overM_length (l := s) (at_ := min x.1 s.length) (d := x.2.take (min kp x.2.length)) (by omega)
    have hsl2 : (overM s (min x.1 s.length) (x.2.take (min kp x.2.length))).length + pendLen (l.drop (j + 1)) ≤ 4398046511104 := by omega
    have heq2 : crashBytes r.f.last l keep = crashBytes (overM s (min x.1 s.length) (x.2.take (min kp x.2.length))) (l.drop (j + 1)) (kp - min kp x.2.length) := by
      rw [heq, take_min']
      rfl
    refine Wn ?_
    refine nN ?_
    refine bN ?_
    refine tN ?_
    refine W_reg ?_
    refine st (X.add64 rfl rfl (by omega)) rfl ?_
    refine sm rfl rfl ?_
    refine Wn ?_
    refine tN ⟨_, _, ?_, ⟨j + 1, a2, c2, overM s (min x.1 s.length) (x.2.take (min kp x.2.length)), kp - min kp x.2.length, rfl, rfl, by omega, by omega, hsl2, heq2, hcw, hF, hLa, hPe, hO⟩, ⟨rfl, by rw [show ((kp - min kp x.2.length : Nat) : Int) = (kp : Int) - ((x.2.take (min kp x.2.length)).length : Nat) by omega]; rfl, rfl, rfl, rfl, trivial⟩⟩
    omega
  · first | replace h13 := of_decide_eq_false h13 | replace h13 := of_decide_eq_true (notF h13) | replace h13 := notF h13 | skip
    obtain rfl : j = l.length := by omega
    have heq' : s = crashBytes r.f.last l keep := by
      rw [heq, List.drop_length]
      rfl
    refine W_exit (tE (tE (bH ?_)))
    refine tN ?_
    refine W_rs ?_
    refine sm rfl rfl ?_
    refine sm rfl rfl ?_
    refine st (X.nilChk rfl) rfl ?_
    refine st (X.fa fa98_0 rfl) rfl ?_
    refine st (X.ldL rfl hF Tryz.underlying94 rfl rfl) rfl ?_
    refine st (X.nilChk rfl) rfl ?_
    refine st (X.fa fa98_1 rfl) rfl ?_
    refine ssB rfl rfl hF siz94 hLa.one1 (by simp) (fun w7 hF6 hC6 => ?_)
    have hcw6 := hcw.next hC6 (fun i hi => .inl (.inl hi))
    have hLa6 := hLa.chg hC6 (hLa.ne2 hF (by decide))
    have hzc6 := hcw6.size
    clear hF hLa hPe hcw
    have hcw := hcw6
    have hF := hF6
    refine Wn ?_
    refine tN ?_
    refine W_reg ?_
    refine sm rfl rfl ?_
    refine sc _ Tryz.func92 rfl (by kernel_rfl) rfl rfl ((lasts_any r.blk _ _ _ s _ hF6 hLa6 (by have := hsl; omega)).mono ?_)
    rintro e_ w8 ⟨rfl, vl', hF7, hV7, hN7, hO7, hC7⟩
    refine cR ?_
    clear hcw hF
    have hcw := hcw6.next hC7 (fun i hi => .inl (.inl hi))
    have hF := hF7
    have hcr : crashM r.f keep = ⟨s, s, []⟩ := by rw [crashM, hfl, ← heq']
    have hap : ∀ k, vl'.ownBlock = some k → (Value.slice a1 s.length c1).ownBlock ≠ some k := fun k hk hk2 => by
      obtain ⟨cs, fz, e⟩ := hLa6.heap_cells hk2
      have := (Array.getElem?_eq_some_iff.1 e).1
      have := hO7 k hk
      omega
    have how : ∀ k, FRec.owns ⟨r.blk, vl', .slice a1 s.length c1, .slice none 0 0, ⟨s, s, []⟩⟩ k → r.owns k ∨ w.heap.size ≤ k := by
      rintro k (hk | hk | hk | hk)
      · exact .inl (.inl hk)
      · exact .inr (by have := hO7 k hk; omega)
      · exact (hO k hk).imp (fun e => .inr (.inl e)) id
      · simp [Value.ownBlock] at hk
    refine Wn ?_
    exact (r0 rfl ⟨rfl, ⟨r.blk, vl', .slice a1 s.length c1, .slice none 0 0, ⟨s, s, []⟩⟩, ⟨hF7, hV7, hN7, Row.nil _ _ _, hap⟩, rfl, hcr.symm, how, hcw⟩).2
end Go.Proofs.YtnijmegalgoipaaGreatDoor
namespace Go.Proofs.YtnijmegalgoipaaGreatDoor
open Go.RowKit Go.Shelf
theorem wideT : Wide Fence.wide := fun _ => trivial
set_option maxRecDepth 10000 in
theorem keys_gives (n : Nat) (w : World) (gB b : Nat) (m : List (Key × Nat)) (hB : Blk w gB 78 #[.map (some b)]) (hM : MapAt w b str encPtr m) :
    SeqGives Fence.wide n Tryz.prog 110 #[.pointer (some ⟨gB, 0, none⟩)] encStr (fun xs => xs.Perm (m.map (·.1))) m.length w := by
  intro lp J W hW hJ hY h0
  replace hB : Blk W gB 78 #[.map (some b)] := hB.bel hW
  replace hM : MapAt W b str encPtr m := hM.bel hW
  have hgB := hB.lt
  refine callsIn_wide.2 ?_
  refine W_enter (args := [.func (.yield lp) #[] #[], .pointer (some ⟨gB, 0, none⟩)]) 14 Tryz.func110 rfl rfl rfl ?_
  refine W_sub [(0, .func (.yield lp) #[] #[]), (1, .pointer (some ⟨gB, 0, none⟩))] ?_ ⟨rfl, rfl, trivial⟩
  refine W_rs ?_
  refine st (X.ldL rfl hB Tryz.underlying78 rfl rfl) rfl ?_
  obtain ⟨w1, hr1, hI1, hb1⟩ := hM.iter (P := Tryz.prog) 78 Tryz.underlying78
  refine st (w' := w1) (v := .pointer (some ⟨W.heap.size, 0, none⟩)) (fun ρ hρ => by unfold execOp; simp only [hρ (.tmp 4) _ rfl, Sem.run_bind, hr1, Result.andThen_ok, Sem.run_pure]) rfl ?_
  refine Wn (tN ?_)
  have hJ1 : J [] w1 := hJ [] W w1 none h0 (grown_of_bel hb1) (fun r e => by cases e)
  refine W_block ?_
  have hz := hb1.size
  clear h0 hB hM hr1
  refine W_lp (fun n' l' w' => ∃ pre : List Key, n' = m.length - pre.length ∧ l' = ([(0, .func (.yield lp) #[] #[]), (5, .pointer (some ⟨W.heap.size, 0, none⟩))] : Env) ∧ IterAt w' W.heap.size b str encPtr m pre ∧ J pre w') _ ⟨_, ⟨[], rfl, rfl, hI1, hJ1⟩, ⟨rfl, rfl, trivial⟩⟩ ?_
  clear hI1 hJ1 hb1 hz w1
  rintro n' l' w1 ⟨pre, rfl, rfl, hI, hJ1⟩
  refine W_rs ?_
  rcases hI.next (P := Tryz.prog) 0 with ⟨hperm, hr⟩ | ⟨k, v, w2, hk, hkv, hr, hent, hI2, hC⟩
  · refine st (w' := w1) (v := .tuple #[.bool false]) (fun ρ hρ => by unfold execOp; simp only [hρ (.tmp 5) _ rfl, Sem.run_bind, hr, Result.andThen_ok, Sem.run_pure]) rfl ?_
    refine st (X.ext rfl rfl) rfl ?_
    refine Wn (tN ?_)
    refine W_seq ?_
    refine W_no rfl rfl ?_
    refine W_exit (tE (tE (bH ?_)))
    exact (r0 rfl ⟨⟨_, rfl⟩, ⟨pre, hperm, hJ1⟩⟩).2
  · refine st (w' := w2) (v := .tuple #[.bool true, str k, encPtr v]) (fun ρ hρ => by unfold execOp; simp only [hρ (.tmp 5) _ rfl, Sem.run_bind, hr, Result.andThen_ok, Sem.run_pure]) rfl ?_
    refine st (X.ext rfl rfl) rfl ?_
    refine Wn (tN ?_)
    refine W_seq ?_
    refine W_yes rfl rfl ?_
    refine W_skip (tN ?_)
    refine W_block ?_
    refine W_seq ?_
    refine W_reg ?_
    have hJ2 : J pre w2 := hJ pre w1 w2 (some W.heap.size) hJ1 (grown_of_chg hC) (fun r e => by cases e; exact ⟨Nat.le_refl _, hI.walk⟩)
    refine st (w' := w2) (v := .tuple #[str k, encPtr v]) (fun ρ hρ => by unfold execOp; simp only [hρ (.tmp 5) _ rfl, Sem.run_bind, hent, Result.andThen_ok, Sem.run_pure]) rfl ?_
    refine st (X.ext rfl rfl) rfl ?_
    refine sa rfl rfl ?_
    refine Wn (tN ?_)
    refine W_seq ?_
    refine W_regI (n := n) ?_
    refine stI wideT (fun c h => by cases h) (X.move rfl) rfl ?_
    refine stI wideT (fun c h => by cases h) (X.move rfl) rfl ?_
    refine syield [str k] wideT rfl rfl rfl rfl ?_
    obtain ⟨fn, tmps, assign, body, hy, hR⟩ := hY pre k w2 hJ2 hI2.more
    refine ⟨fn, tmps, assign, body, hy, RoundIn.mono hR (fun e w5 h => ?_)⟩
    obtain ⟨rfl, hJ5, hk5⟩ := h
    refine stI wideT (fun c h => by cases h) (X.not rfl) rfl ?_
    refine WIn (tN ?_)
    refine W_no rfl rfl ?_
    refine W_skip (bN ?_)
    refine tN ⟨_, _, ?_, ⟨pre ++ [k], rfl, rfl, hI2.of_walks hk5, hJ5⟩, ⟨rfl, rfl, trivial⟩⟩
    have := hI2.more
    rw [List.length_append, List.length_singleton]
    omega
def sortRenStr : Ren :=
  { f := fun x => match x with | 6 => 109 | 8 => 129 | 9 => 128 | 19 => 156 | 20 => 157 | 21 => 147 | 22 => 148 | 23 => 149 | 24 => 150 | 25 => 151 | 26 => 152 | 27 => 153 | 28 => 154 | 29 => 155 | 31 => 165 | 32 => 166 | 36 => 164 | 37 => 167 | 38 => 168 | 39 => 169 | 41 => 173 | n => n
    t := fun x => match x with | 0 => 0 | 3 => 3 | 4 => 4 | 5 => 5 | 9 => 9 | 26 => 42 | 27 => 42 | 29 => 9 | 32 => 152 | 35 => 191 | 36 => 192 | 41 => 75 | 44 => 118 | 46 => 157 | 53 => 207 | 57 => 210 | 63 => 213 | 64 => 214 | n => n
    g := fun x => x }
def iterRenStr : Ren :=
  { f := fun x => match x with | 6 => 79 | 7 => 80 | 8 => 108 | 9 => 109 | 10 => 110 | 11 => 127 | n => n
    t := fun x => match x with | 0 => 0 | 3 => 93 | 4 => 4 | 23 => 78 | 24 => 42 | 26 => 9 | 27 => 122 | 28 => 123 | 33 => 137 | n => n
    g := fun x => x }
def nameOf (P : Program) (f : FuncId) : String := ((P.funcs[f]?).map (·.name)).getD ""
theorem bears_of {P : Program} {f : FuncId} {B : Func} (h1 : (nameOf P f == "runtime.NumGoroutine") = false) (h2 : P.funcs[f]? = some { B with name := nameOf P f }) : Bears P f B := ⟨_, h1, h2⟩
set_option maxRecDepth 100000 in
theorem sortLaysStr : SlLaysM.n6 Tryz.prog sortRenStr := by
  constructor
  all_goals first | exact bears_of (by kernel_rfl) (by kernel_rfl) | kernel_rfl | exact fun _ => by kernel_rfl
set_option maxRecDepth 100000 in
theorem sortedLaysStr : SlLaysZ.n6 Tryz.prog iterRenStr := by
  constructor
  all_goals first | exact bears_of (by kernel_rfl) (by kernel_rfl) | kernel_rfl | exact fun _ => by kernel_rfl
set_option maxRecDepth 100000 in
theorem keysLaysStr : SlLaysZ.n7 Tryz.prog iterRenStr := by
  constructor
  all_goals first | exact bears_of (by kernel_rfl) (by kernel_rfl) | kernel_rfl | exact fun _ => by kernel_rfl
theorem sortsStr (m : Nat) : AnyZ.SortsIn Tryz.prog iterRenStr Fence.wide m :=
  ⟨fun blk off cap ss W hH hblk hsz => callsIn_wide.2 (AnyM.slices_Sort_string sortLaysStr blk off cap ss W hH hblk hsz),
   fun p cap W => callsIn_wide.2 (AnyM.slices_Sort_string_none sortLaysStr p cap W)⟩
theorem Keys_any (mb : Option Nat) (w : World) : Calls Tryz.prog 80 #[.map mb] w fun e w' =>
    ∃ gB, e = .returned (.func (.func 110) #[] #[.pointer (some ⟨gB, 0, none⟩)]) ∧ Blk w' gB 78 #[.map mb] ∧ Below w.heap.size w w' := by
  refine ((callsIn_wide (n := 5)).1 (AnyZ.keys_in keysLaysStr Fence.wide 5 trivial rfl mb w)).mono ?_
  rintro e w' ⟨rfl, rfl⟩
  exact ⟨_, rfl, World.alloc_heap_new w _, (Below.refl _ _).alloc (Nat.le_refl _) _⟩
theorem sorted_names {l xs : List Key} (hl : l.Pairwise (· < ·)) (hp : xs.Perm l) : xs.mergeSort (fun x y => decide (x ≤ y)) = l := by
  have tr : ∀ a b c : List UInt8, decide (a ≤ b) = true → decide (b ≤ c) = true → decide (a ≤ c) = true := fun a b c h1 h2 => by
    simp only [decide_eq_true_eq] at *
    exact List.le_trans h1 h2
  have to : ∀ a b : List UInt8, (decide (a ≤ b) || decide (b ≤ a)) = true := fun a b => by
    simp only [Bool.or_eq_true, decide_eq_true_eq]
    exact List.le_total a b
  refine List.Perm.eq_of_pairwise (le := fun a b => decide (a ≤ b) = true) (fun a b _ _ h1 h2 => ?_) (List.pairwise_mergeSort tr to xs) (hl.imp (fun h => decide_eq_true (List.le_of_lt h))) ((List.mergeSort_perm xs _).trans hp)
  simp only [decide_eq_true_eq] at h1 h2
  exact List.le_antisymm h1 h2
theorem SortedKeys_any (gB b : Nat) (m : List (Key × Nat)) (l : List Key) (w : World) (hB : Blk w gB 78 #[.map (some b)]) (hM : MapAt w b str encPtr m) (hm : m.length ≤ 1000000) (hl : l.Pairwise (· < ·)) (hp : (m.map (·.1)).Perm l) :
    Calls Tryz.prog 79 #[.func (.func 110) #[] #[.pointer (some ⟨gB, 0, none⟩)]] w fun e w' =>
      ∃ v, e = .returned v ∧ Row w' 9 1 v l.length (l.map str) ∧ (∀ k, v.ownBlock = some k → w.heap.size ≤ k) ∧ Below w.heap.size w w' := by
  refine ((callsIn_wide (n := 5)).1 (AnyZ.sorted_in sortedLaysStr Fence.wide 5 trivial trivial trivial trivial rfl (by omega) (sortsStr _) (enters_of Tryz.func109 (by kernel_rfl) rfl)
    110 #[.pointer (some ⟨gB, 0, none⟩)] trivial (enters_of Tryz.func110 (by kernel_rfl) rfl) _ m.length (by simp only [maxLen]; omega) (by omega) w (keys_gives _ w gB b m hB hM))).mono ?_
  rintro e w' ⟨v, ss, rfl, hS, hrow, hnil, hb⟩
  have e1 := sorted_names hl (hS.trans hp)
  have e2 : ss.length = l.length := (hS.trans hp).length_eq
  rw [e1, e2] at hrow
  refine ⟨v, rfl, Row.of_own hrow, fun k hk => ?_, hb⟩
  rcases hrow.2 with ⟨rfl, _⟩ | ⟨g, cap, cur, rfl, hg, _⟩
  · simp [Value.ownBlock] at hk
  · simp [Value.ownBlock] at hk
    omega
theorem DiskIn.perm {w : World} {g b : Nat} {D : DiskD} {rs : List (Key × FRec)} {S : Nat → Prop} (h : DiskIn w g b D rs S) (hok : Rising D.files) : ((rs.map fun p => (p.1, p.2.blk)).map (·.1)).Perm (namesM D) := by
  have := keys_perm (m := rs) (m' := D.files) h.keys hok.nodup (fun k => by rw [h.files]; cases mget rs k <;> rfl)
  rw [List.map_map]
  exact this
theorem List_any (g : Nat) (D : DiskD) (S : Nat → Prop) (w : World) (h : DiskAt w g D S) (hok : Rising D.files) (hlen : D.files.length ≤ 1000000) :
    Calls Tryz.prog 28 #[.pointer (some ⟨g, 0, none⟩)] w fun e w' => ∃ v, e = .returned v ∧ Row w' 9 1 v (namesM D).length ((namesM D).map str) ∧ (∀ k, v.ownBlock = some k → w.heap.size ≤ k) ∧ Below w.heap.size w w' := by
  obtain ⟨b, rs, h⟩ := h
  have hB : Blk w g 80 #[.map (some b), .int .i64 D.limit, .int .i64 D.used, .int .i64 D.refused, .bool D.stops, .int .i64 D.left] := h.blk
  have hM := h.map
  have hp := h.perm hok
  have hz0 : (rs.map fun p => (p.1, p.2.blk)).length ≤ 1000000 := by
    have := hp.length_eq
    simp only [List.length_map, namesM] at this ⊢
    omega
  have hr : (namesM D).Pairwise (· < ·) := by
    unfold namesM
    rw [List.pairwise_map]
    exact hok
  refine W_enter (args := [.pointer (some ⟨g, 0, none⟩)]) 11 Tryz.func28 rfl rfl rfl ?_
  refine W_sub [(0, .pointer (some ⟨g, 0, none⟩))] ?_ ⟨rfl, trivial⟩
  have hbw := Below.refl w.heap.size w
  refine W_rs ?_
  refine sa rfl rfl ?_
  refine Wn ?_
  refine tN ?_
  refine W_seq ?_
  refine W_rs ?_
  refine sm rfl rfl ?_
  refine st (X.dEq rfl) rfl ?_
  refine Wn ?_
  refine tN ?_
  refine W_no rfl (rfl) ?_
  refine W_skip ?_
  refine tN ?_
  refine W_rs ?_
  refine sm rfl rfl ?_
  refine st (X.nilChk rfl) rfl ?_
  refine st (X.fa fa80_0 rfl) rfl ?_
  refine st (X.ldL rfl hB Tryz.underlying78 rfl rfl) rfl ?_
  refine sc _ Tryz.func80 rfl (by kernel_rfl) rfl rfl ((Keys_any (some b) _).mono ?_)
  rintro e_ w1 ⟨gB, rfl, hK, hb⟩
  refine cR ?_
  replace hbw := bthen hbw hb
  replace hM := hM.bel hb
  have hz_w1 := hb.size
  clear hb
  refine sc _ Tryz.func79 rfl (by kernel_rfl) rfl rfl ((SortedKeys_any gB b _ (namesM D) _ hK hM hz0 hr hp).mono ?_)
  rintro e_ w2 ⟨v, rfl, hR, hO, hb⟩
  refine cR ?_
  replace hbw := bthen hbw hb
  replace hM := hM.bel hb
  have hz_w2 := hb.size
  clear hb
  refine sa rfl rfl ?_
  refine Wn ?_
  refine tN ?_
  refine W_ret ?_
  exact (rT rfl rfl ⟨v, rfl, hR, fun k hk => by have := hO k hk; omega, hbw⟩).1
theorem List_nil (w : World) : Calls Tryz.prog 28 #[.pointer none] w fun e w' => e = .returned (.slice none 0 0) ∧ Below w.heap.size w w' := by
  refine W_enter (args := [.pointer none]) 11 Tryz.func28 rfl rfl rfl ?_
  refine W_sub [(0, .pointer none)] ?_ ⟨rfl, trivial⟩
  have hbw := Below.refl w.heap.size w
  refine W_rs ?_
  refine sa rfl rfl ?_
  refine Wn ?_
  refine tN ?_
  refine W_seq ?_
  refine W_rs ?_
  refine sm rfl rfl ?_
  refine st (X.dEq rfl) rfl ?_
  refine Wn ?_
  refine tN ?_
  refine W_yes rfl (rfl) ?_
  refine W_rs ?_
  refine sa rfl rfl ?_
  refine Wn ?_
  refine tN ?_
  refine W_ret (tR ?_)
  exact (rT rfl rfl ⟨rfl, hbw⟩).1
end Go.Proofs.YtnijmegalgoipaaGreatDoor
namespace Go.Proofs.YtnijmegalgoipaaGreatDoor
open Go.RowKit
theorem Reads.chgS {w w' : World} {size n : Nat} {v : Value} {xs : List Value} {T : Nat → Prop} (h : Reads w size v n xs) (hc : Chg T w w') (hn : 0 < n → ∀ k, v.ownBlock = some k → ¬ T k) : Reads w' size v n xs := by
  obtain ⟨h1, a, cap, rfl, h3, h4, h5⟩ := h
  refine ⟨h1, a, cap, rfl, h3, h4, fun h0 => ?_⟩
  obtain ⟨g', off, rfl, hg, hcl⟩ := h5 h0
  have := hc.size
  exact ⟨g', off, rfl, by omega, fun j u hu => (hc.cell (p := ⟨g', off + j, none⟩) hg (hn h0 g' (by simp [Value.ownBlock]))).trans (hcl j u hu)⟩
theorem Reads.ownLt {w : World} {size n : Nat} {v : Value} {xs : List Value} (h : Reads w size v n xs) (hn : 0 < n) {k : Nat} (hk : v.ownBlock = some k) : k < w.heap.size := by
  obtain ⟨h1, a, cap, rfl, h3, h4, h5⟩ := h
  obtain ⟨g', off, rfl, hg, hcl⟩ := h5 hn
  simp [Value.ownBlock] at hk
  omega
theorem FileAt.ne_row {w : World} {r : FRec} (h : FileAt w r) {e : TypeId} {size n : Nat} {v : Value} {xs : List Value} (hR : Row w e size v n xs) (h1 : e ≠ 98) (h2 : e ≠ 5) (h3 : e ≠ 101) : ∀ k, v.ownBlock = some k → ¬ r.owns k := fun k hk ho => by
  obtain ⟨cs', t', fz, e', ht⟩ := h.cells ho
  obtain ⟨cs, fz2, e2⟩ := hR.heap_cells hk
  rw [e2] at e'
  injection e' with e'
  injection e' with _ e'
  subst e'
  exact ht.elim h1 (fun h => h.elim h2 h3)
/- ---------- plain ---------- -/
theorem crashAll_at : ∀ (l : List (Key × FileD)) (ks : List Int) (i : Nat) (p : Key × FileD), l[i]? = some p → (crashAll l ks)[i]? = some (p.1, crashM p.2 (keptM p.2 (ks[i]?.getD 0)))
  | [], _, _, _, h => by simp at h
  | q :: l, ks, 0, p, h => by
    simp only [List.getElem?_cons_zero, Option.some.injEq] at h
    subst h
    cases ks <;> rfl
  | q :: l, ks, i + 1, p, h => by
    simp only [List.getElem?_cons_succ] at h
    have := crashAll_at l ks.tail i p h
    simp only [crashAll, List.getElem?_cons_succ, this]
    cases ks <;> rfl
theorem mget_append {ν : Type} (a b : List (Key × ν)) (k : Key) : mget (a ++ b) k = (mget a k).or (mget b k) := by
  induction a with
  | nil => rfl
  | cons p a ih =>
    obtain ⟨x, u⟩ := p
    simp only [List.cons_append, mget]
    split
    · rfl
    · exact ih
/-- the files while the disk crashes -/
def midM (D : DiskD) (ks : List Int) (i : Nat) : DiskD := { D with files := (crashAll D.files ks).take i ++ D.files.drop i, used := usedM ((crashAll D.files ks).take i), stops := false }
theorem usedM_append (a b : List (Key × FileD)) : usedM (a ++ b) = usedM a + usedM b := by
  induction a with
  | nil => simp [usedM]
  | cons p a ih => simp only [List.cons_append, usedM, ih]; omega
section
variable {D : DiskD} {ks : List Int} {i : Nat} {p : Key × FileD}
theorem mid_zero : midM D ks 0 = { D with used := 0, stops := false } := by simp [midM, usedM]
theorem mid_all : midM D ks D.files.length = crashD D ks := by
  have h : (crashAll D.files ks).length = D.files.length := by simpa using congrArg List.length (crashAll_keys D.files ks)
  unfold midM crashD
  rw [List.take_of_length_le (by omega), List.drop_length, List.append_nil]
theorem mid_get (hs : Rising D.files) (hp : D.files[i]? = some p) : mget (midM D ks i).files p.1 = some p.2 ∧
    (∀ m, mget (midM D ks (i + 1)).files m = if m = p.1 then some (crashM p.2 (keptM p.2 (ks[i]?.getD 0))) else mget (midM D ks i).files m) ∧
    (midM D ks (i + 1)).used = (midM D ks i).used + ((crashM p.2 (keptM p.2 (ks[i]?.getD 0))).now.length : Nat) := by
  have hc := crashAll_at D.files ks i p hp
  have hd : D.files.drop i = p :: D.files.drop (i + 1) := by
    obtain ⟨hj, rfl⟩ := List.getElem?_eq_some_iff.1 hp
    exact List.drop_eq_getElem_cons hj
  have ht := take_next' hc
  have hnone : mget ((crashAll D.files ks).take i) p.1 = none := by
    rw [mget_none, List.map_take, crashAll_keys, ← List.map_take]
    have h1 := hs.nodup
    rw [← List.take_append_drop i D.files, hd, List.map_append, List.map_cons, List.nodup_append] at h1
    intro h2
    exact h1.2.2 _ h2 _ (List.mem_cons_self ..) rfl
  refine ⟨?_, fun m => ?_, ?_⟩
  · show mget (_ ++ _) _ = _
    rw [mget_append, hnone, hd]
    obtain ⟨a, u⟩ := p
    simp [mget]
  · show mget (_ ++ _) _ = if _ then _ else mget (_ ++ _) _
    rw [ht, mget_append, mget_append, mget_append, hd]
    obtain ⟨a, u⟩ := p
    simp only [mget]
    split
    · rename_i e
      subst e
      rw [hnone]
      simp
    · simp
  · show ((usedM _ : Nat) : Int) = ((usedM _ : Nat) : Int) + _
    rw [ht, usedM_append]
    simp only [usedM]
    omega
theorem mid_used (hok : DOk D) : 0 ≤ (midM D ks i).used ∧ (midM D ks i).used ≤ 16777216 := by
  have h1 := crashAll_used D.files ks (fun p hp => hok.fok p.1 p.2 (mget_of_mem hok.srt.nodup hp))
  have h2 := hok.used
  have h3 := hok.room
  have h4 := hok.lim
  have h5 : usedM ((crashAll D.files ks).take i) ≤ usedM (crashAll D.files ks) := by
    conv => rhs; rw [← List.take_append_drop i (crashAll D.files ks), usedM_append]
    omega
  show 0 ≤ ((usedM _ : Nat) : Int) ∧ ((usedM _ : Nat) : Int) ≤ _
  omega
end
theorem keptM_le {f : FileD} (pk : Int) (h : pendLen f.pend ≤ 1099511627776) : keptM f pk ≤ 4398046511104 := by
  have h1 := Int.emod_lt_of_pos pk (b := ((pendLen f.pend + 1 : Nat) : Int)) (by omega)
  unfold keptM
  omega
theorem midCells (b : Nat) (D : DiskD) (ks : List Int) (i : Nat) : diskCells b (midM D ks i) = #[.map (some b), .int .i64 D.limit, .int .i64 (midM D ks i).used, .int .i64 D.refused, .bool false, .int .i64 D.left] := rfl
set_option maxRecDepth 10000 in
theorem Crash_any (g : Nat) (D : DiskD) (S : Nat → Prop) (vk : Value) (ks : List Int) (w : World) (h : DiskAt w g D S) (hok : DOk D) (hbud : DBud D) (hlen : D.files.length ≤ 1000000) (hK : Reads w 1 vk ks.length (ks.map fun k => .int .i64 k)) (hKS : 0 < ks.length → ∀ k, vk.ownBlock = some k → ¬ S k) :
    Calls Tryz.prog 23 #[.pointer (some ⟨g, 0, none⟩), vk] w fun e w' => e = .returned (.tuple #[]) ∧ DiskAt w' g (crashD D ks) (Ext S w w') ∧ Chg S w w' := by
  obtain ⟨b, rs, h⟩ := h
  have hlt := h.blk.lt
  have hKlt : 0 < ks.length → ∀ k, vk.ownBlock = some k → k < w.heap.size := fun h0 k hk => hK.ownLt h0 hk
  obtain ⟨ak, ck, hvk, hck, hck2⟩ := hK.shape
  subst hvk
  have hB : Blk w g 80 #[.map (some b), .int .i64 D.limit, .int .i64 D.used, .int .i64 D.refused, .bool D.stops, .int .i64 D.left] := h.blk
  have hD := h
  have hnl : (namesM D).length = D.files.length := by simp [namesM]
  refine W_enter (args := [.pointer (some ⟨g, 0, none⟩), .slice ak ks.length ck]) 56 Tryz.func23 rfl rfl rfl ?_
  refine W_sub [(0, .pointer (some ⟨g, 0, none⟩)), (1, .slice ak ks.length ck)] ?_ ⟨rfl, rfl, trivial⟩
  have hcw := Chg.refl (S) w
  refine W_seq ?_
  refine W_rs ?_
  refine sm rfl rfl ?_
  refine st (X.dEq rfl) rfl ?_
  refine Wn ?_
  refine tN ?_
  refine W_no rfl (rfl) ?_
  refine W_skip ?_
  refine tN ?_
  refine W_rs ?_
  refine sm rfl rfl ?_
  refine sm rfl rfl ?_
  refine st (X.nilChk rfl) rfl ?_
  refine st (X.fa fa80_2 rfl) rfl ?_
  refine ssB rfl rfl hB siz3 rfl (by simp) (fun w1 hB1 hC1 => ?_)
  have hD1 := hD.self (D' := { D with used := 0 }) hC1 hB1 rfl
  have hK1 := hK.chgS hC1 (fun h0 k hk e => hKS h0 k hk (by rw [e]; exact h.inS.1))
  have hcw1 := hcw.next hC1 (fun k hk => .inl (by rw [hk]; exact h.inS.1))
  clear hD hK hcw hB
  have hD := hD1
  have hK := hK1
  have hcw := hcw1
  have hB := hB1
  clear hD1 hK1 hcw1
  refine st (X.nilChk rfl) rfl ?_
  refine st (X.fa fa80_4 rfl) rfl ?_
  refine ssB rfl rfl hB siz4 rfl (by simp) (fun w2 hB2 hC2 => ?_)
  have hD2 := hD.self (D' := midM D ks 0) hC2 (by rw [mid_zero]; exact hB2) (by rw [mid_zero])
  have hK2 := hK.chgS hC2 (fun h0 k hk e => hKS h0 k hk (by rw [e]; exact h.inS.1))
  have hcw2 := hcw.next hC2 (fun k hk => .inl (by rw [hk]; exact h.inS.1))
  clear hD hK hcw hB hB1
  have hD := hD2
  have hK := hK2
  have hcw := hcw2
  have hB := hB2
  clear hD2 hK2 hcw2
  refine Wn ?_
  refine tN ?_
  refine W_rs ?_
  refine sm rfl rfl ?_
  refine sc _ Tryz.func28 rfl (by kernel_rfl) rfl rfl ((List_any g (midM D ks 0) S _ ⟨b, rs, hD⟩ (by rw [mid_zero]; exact hok.srt) (by rw [mid_zero]; exact hlen)).mono ?_)
  rintro e_ w3 ⟨v, rfl, hL, hO, hb⟩
  refine cR ?_
  replace hcw := hcw.then_below hb
  replace hK := hK.bel hb
  replace hD := hD.bel hb
  have hz_w3 := hb.size
  clear hb
  have hLn : namesM (midM D ks 0) = namesM D := by rw [mid_zero]; rfl
  rw [hLn, hnl] at hL
  clear hLn hO
  obtain ⟨a, c, rfl, hc1, hc2⟩ := hL.shape
  refine st (X.lenL rfl rfl Tryz.underlying42) rfl ?_
  refine sm rfl rfl ?_
  refine Wn ?_
  refine tN ?_
  refine W_block ?_
  refine W_lp (fun nw4_ lw4_ w4 => ∃ i : Nat, ∃ rsx : List (Key × FRec), nw4_ = D.files.length - i ∧ lw4_ = ([(0, .pointer (some ⟨g, 0, none⟩)), (1, .slice ak ks.length ck), (17, .slice a D.files.length c), (18, .int .i64 D.files.length), (19, .int .i64 i)] : Env) ∧ (i ≤ D.files.length) ∧ (Chg S w w4) ∧ (DiskIn w4 g b (midM D ks i) rsx (Ext S w w4)) ∧ (Reads w4 1 (.slice ak ks.length ck) ks.length (ks.map fun k => .int .i64 k)) ∧ (Row w4 9 1 (.slice a D.files.length c) D.files.length ((namesM D).map str)) ∧ (Blk w4 g 80 #[.map (some b), .int .i64 D.limit, .int .i64 (midM D ks i).used, .int .i64 D.refused, .bool false, .int .i64 D.left])) _ ⟨_, ⟨0, rs, rfl, rfl, Nat.zero_le _, hcw, hD.mono Ext.of, hK, hL, hD.blk⟩, ⟨rfl, rfl, rfl, rfl, rfl, trivial⟩⟩ ?_
  clear hcw hK hL
  rintro nw4_ lw4_ w4 ⟨i, rsx, rfl, rfl, hi, hcw, hD, hK, hL, hB⟩
  have hlt_hB_w4 := hB.lt
  have hu := mid_used (ks := ks) (i := i) hok
  have hzc := hcw.size
  refine W_rs ?_
  refine st (X.lss rfl rfl) rfl ?_
  refine Wn ?_
  refine tN ?_
  refine W_seq ?_
  refine W_if rfl (fun h20 => ?_) (fun h20 => ?_)
  · first | replace h20 := of_decide_eq_true h20 | replace h20 := of_decide_eq_false (notT h20) | replace h20 := notT h20 | skip
    obtain ⟨p, hp⟩ : ∃ p, D.files[i]? = some p := ⟨_, List.getElem?_eq_getElem (by omega)⟩
    obtain ⟨hm1, hm2, hm3⟩ := mid_get (ks := ks) hok.srt hp
    obtain ⟨g1, o1, c', hv, hg1⟩ := hL.reads.some_ (by omega)
    injection hv with e1 _ e3
    subst e1 e3
    have hux : ((namesM D).map str)[i]? = some (str p.1) := by simp [namesM, hp]
    obtain ⟨r, hr, hrf⟩ : ∃ r, mget rsx p.1 = some r ∧ r.f = p.2 := by
      have := hD.files p.1
      rw [hm1] at this
      cases hr : mget rsx p.1 with
      | none => rw [hr] at this; cases this
      | some r => rw [hr] at this; injection this with this; exact ⟨r, rfl, this.symm⟩
    have hv : ((mget (rsx.map fun p => (p.1, p.2.blk)) p.1).map encPtr).getD (.pointer none) = .pointer (some ⟨r.blk, 0, none⟩) := look_ptr (o := some r.blk) (by rw [hr]; rfl)
    obtain ⟨pk, hpk⟩ : ∃ pk, ks[i]?.getD 0 = pk := ⟨_, rfl⟩
    rw [hpk] at hm2 hm3
    rw [← hrf] at hm2 hm3
    have hfo : mget D.files p.1 = some r.f := by rw [hrf]; exact mget_of_mem hok.srt.nodup (List.mem_of_getElem? hp)
    have hfb := hbud.pend _ _ hfo
    obtain ⟨hln1, hln2, _⟩ := hok.len hfo
    have hKr : 0 < ks.length → ∀ k, (Value.slice ak ks.length ck).ownBlock = some k → ¬ r.owns k := fun h0 k hk ho => by
      rcases hD.inR _ _ k hr ho with e | e
      · exact hKS h0 k hk e
      · have := hKlt h0 k hk; omega
    refine W_skip ?_
    refine tN ?_
    refine W_seq ?_
    refine W_block ?_
    refine W_rs ?_
    refine sm rfl rfl ?_
    refine st (X.idxA rfl rfl Tryz.underlying42 siz9 rfl (by omega)) rfl ?_
    refine st (X.ld rfl Tryz.underlying9 rfl (by rw [Nat.mul_one]; exact hL.reads.cellAt (by omega) hux)) rfl ?_
    refine sa rfl rfl ?_
    refine sa rfl rfl ?_
    refine Wn ?_
    refine tN ?_
    refine W_rs ?_
    refine sm rfl rfl ?_
    refine st (X.nilChk rfl) rfl ?_
    refine st (X.fa fa80_0 rfl) rfl ?_
    refine st (X.ldL rfl hB Tryz.underlying78 rfl rfl) rfl ?_
    refine sm rfl rfl ?_
    refine st (v := .pointer (some ⟨r.blk, 0, none⟩)) (hv ▸ X.look (keyStr Tryz.underlying9) rfl p.1 rfl Tryz.underlying78 (zptr _) hD.map) rfl ?_
    refine sa rfl rfl ?_
    refine sa rfl rfl ?_
    refine Wn ?_
    refine tN ?_
    refine W_seq ?_
    refine W_rs ?_
    refine sm rfl rfl ?_
    refine sm rfl rfl ?_
    refine st (X.lenL rfl rfl Tryz.underlying34) rfl ?_
    refine st (X.lss rfl rfl) rfl ?_
    refine Wn ?_
    refine tN ?_
    refine W_if rfl (fun h33 => ?_) (fun h33 => ?_)
    · first | replace h33 := of_decide_eq_true h33 | replace h33 := of_decide_eq_false (notT h33) | replace h33 := notT h33 | skip
      obtain ⟨gk, ok_, ck', hvk, hgk⟩ := hK.some_ (by omega)
      injection hvk with e1 _ e3
      subst e1 e3
      have hkx : ks[i]? = some pk := by
        rw [← hpk, List.getElem?_eq_getElem (by omega)]
        rfl
      have hkx2 : (ks.map fun k => Value.int .i64 k)[i]? = some (.int .i64 pk) := by rw [List.getElem?_map, hkx]; rfl
      refine W_reg ?_
      refine sm rfl rfl ?_
      refine sm rfl rfl ?_
      refine st (X.idxA rfl rfl Tryz.underlying34 siz3 rfl (by omega)) rfl ?_
      refine st (X.ld rfl Tryz.underlying3 rfl (by rw [Nat.mul_one]; exact hK.cellAt (by omega) hkx2)) rfl ?_
      refine sa rfl rfl ?_
      refine Wn ?_
      refine tN ?_
      refine W_rs ?_
      refine sm rfl rfl ?_
      refine sm rfl rfl ?_
      refine sm rfl rfl ?_
      refine sc _ Tryz.func72 rfl (by kernel_rfl) rfl rfl ((kept_any r.blk r.vl r.vn r.vp r.f _ _ (hD.at_ _ _ hr).blk (hD.at_ _ _ hr).pend hfb.1).mono ?_)
      rintro e_ w5 ⟨rfl, hb⟩
      refine cR ?_
      replace hcw := hcw.then_below hb
      replace hD := hD.bel hb
      replace hK := hK.bel hb
      replace hL := hL.bel hb
      replace hB := hB.bel hb
      have hz_w5 := hb.size
      clear hb
      refine sc _ Tryz.func71 rfl (by kernel_rfl) rfl rfl ((crash_any r (keptM r.f _) _ (hD.at_ _ _ hr) hfb.1 (by omega) (keptM_le _ hfb.1)).mono ?_)
      rintro e_ w6 ⟨rfl, r', hF', hbl, hff, how, hCr⟩
      refine cR ?_
      have hB1 := hB.chg hCr (hD.ne hr).1
      have hL1 := hL.chg hCr ((hD.at_ _ _ hr).ne_row hL (by decide) (by decide) (by decide))
      have hK1 := hK.chgS hCr hKr
      have hcw1 := hcw.next hCr (fun k hk => (hD.inR _ _ k hr hk).imp id (fun e => e.1))
      have hzr := hCr.size
      have hCc := hCr.mono (T := fun k => k = g ∨ r.owns k) (fun k _ hk => .inr hk)
      clear hB hL hK hcw hCr
      have hB := hB1
      have hL := hL1
      have hK := hK1
      have hcw := hcw1
      clear hB1 hL1 hK1 hcw1
      obtain ⟨an, cn, hvn, _⟩ := hF'.now.shape
      have hF6 : Blk w6 r.blk 98 #[r'.vl, .slice an r'.f.now.length cn, r'.vp] := by rw [← hbl, ← hvn]; exact hF'.blk
      have hrl : r'.f.now.length ≤ 16777216 := by
        rw [hff]
        exact Nat.le_trans ((hok.fok _ _ hfo).crash_len _) hln1
      refine Wn ?_
      refine tN ?_
      refine W_still 12 (by kernel_rfl) (by kernel_rfl) ?_
      obtain ⟨w7, hw_⟩ : ∃ w7 : World, w7 = World.drew w6 := ⟨_, rfl⟩
      rw [← hw_]
      have hb : Below w6.heap.size w6 w7 := by rw [hw_]; exact bdrew (Below.refl _ _)
      clear hw_
      replace hcw := hcw.then_below hb
      replace hK := hK.bel hb
      replace hL := hL.bel hb
      replace hB := hB.bel hb
      replace hCc := hCc.bel hb
      replace hF6 := hF6.bel hb
      replace hF' := hF'.bel hb
      have hz_w7 := hb.size
      clear hb
      refine hY (X.move rfl) rfl ?_
      refine hY (X.nilChk rfl) rfl ?_
      refine hY (X.fa fa80_2 rfl) rfl ?_
      refine hY (X.ldL rfl hB Tryz.underlying3 rfl rfl) rfl ?_
      refine hY (X.move rfl) rfl ?_
      refine hY (X.nilChk rfl) rfl ?_
      refine hY (X.fa fa98_1 rfl) rfl ?_
      refine hY (X.ldL rfl hF6 Tryz.underlying94 rfl rfl) rfl ?_
      refine hY (X.lenL rfl rfl Tryz.underlying94) rfl ?_
      refine hY (X.add64 rfl rfl (by omega)) rfl ?_
      refine hY (X.nilChk rfl) rfl ?_
      refine hY (X.fa fa80_2 rfl) rfl ?_
      refine hN ?_
      refine ssB rfl rfl hB siz3 rfl (by simp) (fun w8 hB1 hC1 => ?_)
      have hg' : ¬ r'.owns g := fun e => (how g e).elim (hD.ne hr).1 (fun e => by have := hD.blk.lt; omega)
      have hD' : DiskIn w8 g b (midM D ks (i + 1)) (mput rsx p.1 r') (Ext S w w8) := by
        refine (hD.file hr (hCc.next hC1 (fun k hk => .inl (.inl hk))) (D' := midM D ks (i + 1)) (r' := r') (by rw [midCells, hm3, ← hff]; exact hB1) (by rw [hff]; exact hm2) (hF'.chg hC1 (fun k hk e => hg' (by rw [← e]; exact hk))) hbl how).mono (fun k hk => ?_)
        rcases hk with hk | hk
        · rcases hk with hk | hk
          · exact .inl hk
          · exact .inr ⟨hk.1, by have := hC1.size; have := hCc.size; omega⟩
        · exact .inr ⟨by have := hzc; omega, hk.2⟩
      have hL1 := hL.chg hC1 (hL.ne2 hB (by decide))
      have hK1 := hK.chgS hC1 (fun h0 k hk e => hKS h0 k hk (by rw [e]; exact h.inS.1))
      have hcw1 := hcw.next hC1 (fun k hk => .inl (by rw [hk]; exact h.inS.1))
      clear hL hK hcw hB
      have hL := hL1
      have hK := hK1
      have hcw := hcw1
      have hB := hB1
      refine Wn ?_
      refine bN ?_
      refine tN ?_
      refine W_reg ?_
      refine st (X.add64 rfl rfl (by omega)) rfl ?_
      refine sm rfl rfl ?_
      refine Wn ?_
      refine tN ⟨_, _, ?_, ⟨i + 1, mput rsx p.1 r', rfl, rfl, by omega, hcw, hD', hK, hL, hD'.blk⟩, ⟨rfl, rfl, rfl, rfl, rfl, trivial⟩⟩
      omega
    · first | replace h33 := of_decide_eq_false h33 | replace h33 := of_decide_eq_true (notF h33) | replace h33 := notF h33 | skip
      obtain rfl : pk = 0 := by rw [← hpk, List.getElem?_eq_none (by omega)]; rfl
      refine W_skip ?_
      refine tN ?_
      refine W_rs ?_
      refine sm rfl rfl ?_
      refine sm rfl rfl ?_
      refine sm rfl rfl ?_
      refine sc _ Tryz.func72 rfl (by kernel_rfl) rfl rfl ((kept_any r.blk r.vl r.vn r.vp r.f _ _ (hD.at_ _ _ hr).blk (hD.at_ _ _ hr).pend hfb.1).mono ?_)
      rintro e_ w9 ⟨rfl, hb⟩
      refine cR ?_
      replace hcw := hcw.then_below hb
      replace hD := hD.bel hb
      replace hK := hK.bel hb
      replace hL := hL.bel hb
      replace hB := hB.bel hb
      have hz_w9 := hb.size
      clear hb
      refine sc _ Tryz.func71 rfl (by kernel_rfl) rfl rfl ((crash_any r (keptM r.f _) _ (hD.at_ _ _ hr) hfb.1 (by omega) (keptM_le _ hfb.1)).mono ?_)
      rintro e_ w10 ⟨rfl, r', hF', hbl, hff, how, hCr⟩
      refine cR ?_
      have hB1 := hB.chg hCr (hD.ne hr).1
      have hL1 := hL.chg hCr ((hD.at_ _ _ hr).ne_row hL (by decide) (by decide) (by decide))
      have hK1 := hK.chgS hCr hKr
      have hcw1 := hcw.next hCr (fun k hk => (hD.inR _ _ k hr hk).imp id (fun e => e.1))
      have hzr := hCr.size
      have hCc := hCr.mono (T := fun k => k = g ∨ r.owns k) (fun k _ hk => .inr hk)
      clear hB hL hK hcw hCr
      have hB := hB1
      have hL := hL1
      have hK := hK1
      have hcw := hcw1
      clear hB1 hL1 hK1 hcw1
      obtain ⟨an, cn, hvn, _⟩ := hF'.now.shape
      have hF6 : Blk w10 r.blk 98 #[r'.vl, .slice an r'.f.now.length cn, r'.vp] := by rw [← hbl, ← hvn]; exact hF'.blk
      have hrl : r'.f.now.length ≤ 16777216 := by
        rw [hff]
        exact Nat.le_trans ((hok.fok _ _ hfo).crash_len _) hln1
      refine Wn ?_
      refine tN ?_
      refine W_still 12 (by kernel_rfl) (by kernel_rfl) ?_
      obtain ⟨w11, hw_⟩ : ∃ w11 : World, w11 = World.drew w10 := ⟨_, rfl⟩
      rw [← hw_]
      have hb : Below w10.heap.size w10 w11 := by rw [hw_]; exact bdrew (Below.refl _ _)
      clear hw_
      replace hcw := hcw.then_below hb
      replace hK := hK.bel hb
      replace hL := hL.bel hb
      replace hB := hB.bel hb
      replace hCc := hCc.bel hb
      replace hF6 := hF6.bel hb
      replace hF' := hF'.bel hb
      have hz_w11 := hb.size
      clear hb
      refine hY (X.move rfl) rfl ?_
      refine hY (X.nilChk rfl) rfl ?_
      refine hY (X.fa fa80_2 rfl) rfl ?_
      refine hY (X.ldL rfl hB Tryz.underlying3 rfl rfl) rfl ?_
      refine hY (X.move rfl) rfl ?_
      refine hY (X.nilChk rfl) rfl ?_
      refine hY (X.fa fa98_1 rfl) rfl ?_
      refine hY (X.ldL rfl hF6 Tryz.underlying94 rfl rfl) rfl ?_
      refine hY (X.lenL rfl rfl Tryz.underlying94) rfl ?_
      refine hY (X.add64 rfl rfl (by omega)) rfl ?_
      refine hY (X.nilChk rfl) rfl ?_
      refine hY (X.fa fa80_2 rfl) rfl ?_
      refine hN ?_
      refine ssB rfl rfl hB siz3 rfl (by simp) (fun w12 hB1 hC1 => ?_)
      have hg' : ¬ r'.owns g := fun e => (how g e).elim (hD.ne hr).1 (fun e => by have := hD.blk.lt; omega)
      have hD' : DiskIn w12 g b (midM D ks (i + 1)) (mput rsx p.1 r') (Ext S w w12) := by
        refine (hD.file hr (hCc.next hC1 (fun k hk => .inl (.inl hk))) (D' := midM D ks (i + 1)) (r' := r') (by rw [midCells, hm3, ← hff]; exact hB1) (by rw [hff]; exact hm2) (hF'.chg hC1 (fun k hk e => hg' (by rw [← e]; exact hk))) hbl how).mono (fun k hk => ?_)
        rcases hk with hk | hk
        · rcases hk with hk | hk
          · exact .inl hk
          · exact .inr ⟨hk.1, by have := hC1.size; have := hCc.size; omega⟩
        · exact .inr ⟨by have := hzc; omega, hk.2⟩
      have hL1 := hL.chg hC1 (hL.ne2 hB (by decide))
      have hK1 := hK.chgS hC1 (fun h0 k hk e => hKS h0 k hk (by rw [e]; exact h.inS.1))
      have hcw1 := hcw.next hC1 (fun k hk => .inl (by rw [hk]; exact h.inS.1))
      clear hL hK hcw hB
      have hL := hL1
      have hK := hK1
      have hcw := hcw1
      have hB := hB1
      refine Wn ?_
      refine bN ?_
      refine tN ?_
      refine W_reg ?_
      refine st (X.add64 rfl rfl (by omega)) rfl ?_
      refine sm rfl rfl ?_
      refine Wn ?_
      refine tN ⟨_, _, ?_, ⟨i + 1, mput rsx p.1 r', rfl, rfl, by omega, hcw, hD', hK, hL, hD'.blk⟩, ⟨rfl, rfl, rfl, rfl, rfl, trivial⟩⟩
      omega
  · first | replace h20 := of_decide_eq_false h20 | replace h20 := of_decide_eq_true (notF h20) | replace h20 := notF h20 | skip
    obtain rfl : i = D.files.length := by omega
    rw [mid_all] at hD
    refine W_exit (tE (tE (bH ?_)))
    exact (r0 rfl ⟨rfl, ⟨b, _, hD⟩, hcw⟩).2
end Go.Proofs.YtnijmegalgoipaaGreatDoor
namespace Go.Proofs.YtnijmegalgoipaaGreatDoor
open Go.RowKit
section
variable {κ ν : Type} [DecidableEq κ] {w : World} {r b : Nat} {enc : κ → Value} {encv : ν → Value} {m : List (κ × ν)} {pre : List κ} {P : Program}
/-- a step of the iterator, told at once -/
theorem IterAt.next1 (h : IterAt w r b enc encv m pre) (ty : TypeId) : ∃ (c : Bool) (arr : Array Value) (w' : World), (Instr.next (.pointer (some ⟨r, 0, none⟩)) false ty).run P w = .ok (.tuple arr) w' ∧ arr.toList[0]? = some (.bool c) ∧ Chg (fun q => q = r) w w' ∧
    (c = false → pre.Perm (m.map (·.1)) ∧ w' = w) ∧ (c = true → ∃ k v, k ∉ pre ∧ (k, v) ∈ m ∧ (Instr.entry (.pointer (some ⟨r, 0, none⟩))).run P w' = .ok (.tuple #[enc k, encv v]) w' ∧ IterAt w' r b enc encv m (pre ++ [k])) := by
  rcases h.next (P := P) ty with ⟨hp, hr⟩ | ⟨k, v, w2, hk, hkv, hr, hent, hI2, hC⟩
  · exact ⟨false, _, w, hr, rfl, Chg.refl _ _, (fun _ => ⟨hp, rfl⟩), (fun h => by cases h)⟩
  · exact ⟨true, _, w2, hr, rfl, hC, (fun h => by cases h), (fun _ => ⟨k, v, hk, hkv, hent, hI2⟩)⟩
end
theorem IterAt.chg {κ ν : Type} [DecidableEq κ] {w w' : World} {r b : Nat} {enc : κ → Value} {encv : ν → Value} {m : List (κ × ν)} {pre : List κ} {T : Nat → Prop} (h : IterAt w r b enc encv m pre) (hC : Chg T w w') (h1 : ¬ T r) (h2 : ¬ T b) : IterAt w' r b enc encv m pre := by
  obtain ⟨ts, clock, seen, a1, a2, a3, a4, a5, a6⟩ := h.obj
  exact ⟨h.nodup, h.mem, h.pnod, ts, clock, seen, a1, a2, a3, (hC.block _ (Array.getElem?_eq_some_iff.1 a4).1 h2).trans a4, (hC.block _ (Array.getElem?_eq_some_iff.1 a5).1 h1).trans a5, a6⟩
theorem DiskIn.apartI {w w' : World} {g b gi bb : Nat} {D : DiskD} {rs : List (Key × FRec)} {S : Nat → Prop} {ν : Type} {encv : ν → Value} {m : List (Key × ν)} {pre : List Key} (h : DiskIn w g b D rs S) (hI : IterAt w gi bb str encv m pre) (hC : Chg (fun q => q = gi) w w') : DiskIn w' g b D rs S := by
  obtain ⟨ts, clock, seen, h1, h2, h3, h4, h5, h6⟩ := hI.obj
  obtain ⟨ts', clock', _, _, _, h7⟩ := h.map.obj
  have hB : w.heap[g]? = some (.cells (diskCells b D) 80 (0, 0)) := h.blk
  refine ⟨h.blk.chg hC (fun e => ?_), h.map.chg hC (fun e => ?_), h.files, fun n r hr => (h.at_ n r hr).chg hC (fun k hk e => ?_), h.apart, h.inS, h.inR⟩
  · rw [e, h5] at hB; cases hB
  · rw [e, h5] at h7; cases h7
  · obtain ⟨cs', t', fz, e', ht⟩ := (h.at_ n r hr).cells hk
    rw [e, h5] at e'
    cases e'
theorem DiskIn.tight {w : World} {g b : Nat} {D : DiskD} {rs : List (Key × FRec)} {S : Nat → Prop} (h : DiskIn w g b D rs S) : DiskIn w g b D rs (fun k => S k ∧ k < w.heap.size) :=
  ⟨h.blk, h.map, h.files, h.at_, h.apart, ⟨⟨h.inS.1, h.blk.lt⟩, h.inS.2, h.map.lt⟩, fun n r k hr hk => ⟨h.inR n r k hr hk, (h.at_ n r hr).lt hk⟩⟩
theorem bdiskC (b : Nat) (l u r f : Int) (s : Bool) (w : World) : (Instr.build 80 #[(0, .map (some b)), (1, .int .i64 l), (2, .int .i64 u), (3, .int .i64 r), (4, .bool s), (5, .int .i64 f)]).run Tryz.prog w = .ok (.agg #[.map (some b), .int .i64 l, .int .i64 u, .int .i64 r, .bool s, .int .i64 f]) w := by kernel_rfl
theorem bfile3 (a1 a2 a3 : Option Addr) (n1 n2 n3 c1 c2 c3 : Nat) (w : World) : (Instr.build 98 #[(0, .slice a1 n1 c1), (1, .slice a2 n2 c2), (2, .slice a3 n3 c3)]).run Tryz.prog w = .ok (.agg #[.slice a1 n1 c1, .slice a2 n2 c2, .slice a3 n3 c3]) w := by kernel_rfl
theorem Rot_nil (n : Key) (i : Int) (c : UInt8) (w : World) : Calls Tryz.prog 48 #[.pointer none, str n, .int .i64 i, .int .u8 c.toNat] w fun e w' => e = .returned (.int .i64 2) ∧ Below w.heap.size w w' := by
  refine W_enter (args := [.pointer none, str n, .int .i64 i, .int .u8 c.toNat]) 42 Tryz.func48 rfl rfl rfl ?_
  refine W_sub [(0, .pointer none), (1, str n), (2, .int .i64 i), (3, .int .u8 c.toNat)] ?_ ⟨rfl, rfl, rfl, rfl, trivial⟩
  have hbw := Below.refl w.heap.size w
  refine W_rs ?_
  refine sa rfl rfl ?_
  refine Wn ?_
  refine tN ?_
  refine W_rs ?_
  refine sm rfl rfl ?_
  refine sm rfl rfl ?_
  refine sc _ Tryz.func70 rfl (by kernel_rfl) rfl rfl ((find_nil n _).mono ?_)
  rintro e_ w1 ⟨rfl, hb⟩
  refine cR ?_
  replace hbw := bthen hbw hb
  have hz_w1 := hb.size
  clear hb
  refine sm rfl rfl ?_
  refine st (X.ext rfl rfl) rfl ?_
  refine st (X.ext rfl rfl) rfl ?_
  refine sa rfl rfl ?_
  refine sa rfl rfl ?_
  refine Wn ?_
  refine tN ?_
  refine W_seq ?_
  refine W_block ?_
  refine W_rs ?_
  refine sm rfl rfl ?_
  refine st (X.neq rfl rfl) rfl ?_
  refine sa rfl rfl ?_
  refine Wn ?_
  refine tN ?_
  refine W_yes rfl (rfl) ?_
  refine W_rs ?_
  refine sm rfl rfl ?_
  refine sa rfl rfl ?_
  refine Wn ?_
  refine tN ?_
  refine W_ret (bR (tR ?_))
  exact (rT rfl rfl ⟨rfl, hbw⟩).1
theorem Crash_nil (v : Value) (w : World) : Calls Tryz.prog 23 #[.pointer none, v] w fun e w' => e = .returned (.tuple #[]) ∧ Below w.heap.size w w' := by
  refine W_enter (args := [.pointer none, v]) 56 Tryz.func23 rfl rfl rfl ?_
  refine W_sub [(0, .pointer none), (1, v)] ?_ ⟨rfl, rfl, trivial⟩
  have hbw := Below.refl w.heap.size w
  refine W_seq ?_
  refine W_rs ?_
  refine sm rfl rfl ?_
  refine st (X.dEq rfl) rfl ?_
  refine Wn ?_
  refine tN ?_
  refine W_yes rfl (rfl) ?_
  refine W_ret (tR ?_)
  exact (r0 rfl ⟨rfl, hbw⟩).1
theorem Copy_nil (w : World) : Calls Tryz.prog 16 #[.pointer none] w fun e w' => e = .returned (.pointer none) ∧ Below w.heap.size w w' := by
  refine W_enter (args := [.pointer none]) 64 Tryz.func16 rfl rfl rfl ?_
  refine W_sub [(0, .pointer none)] ?_ ⟨rfl, trivial⟩
  have hbw := Below.refl w.heap.size w
  refine W_rs ?_
  refine sa rfl rfl ?_
  refine Wn ?_
  refine tN ?_
  refine W_seq ?_
  refine W_rs ?_
  refine sm rfl rfl ?_
  refine st (X.dEq rfl) rfl ?_
  refine Wn ?_
  refine tN ?_
  refine W_yes rfl (rfl) ?_
  refine W_rs ?_
  refine sa rfl rfl ?_
  refine Wn ?_
  refine tN ?_
  refine W_ret (tR ?_)
  exact (rT rfl rfl ⟨rfl, hbw⟩).1
set_option maxRecDepth 10000 in
theorem Copy_any (g : Nat) (D : DiskD) (S : Nat → Prop) (w : World) (h : DiskAt w g D S) (hok : DOk D) (hbud : DBud D) :
    Calls Tryz.prog 16 #[.pointer (some ⟨g, 0, none⟩)] w fun e w' => ∃ g' S', e = .returned (.pointer (some ⟨g', 0, none⟩)) ∧ DiskAt w' g' D S' ∧ (∀ k, S' k → w.heap.size ≤ k ∧ k < w'.heap.size) ∧ Below w.heap.size w w' := by
  obtain ⟨b, rs, h⟩ := h
  have hlt := h.blk.lt
  have hB : Blk w g 80 #[.map (some b), .int .i64 D.limit, .int .i64 D.used, .int .i64 D.refused, .bool D.stops, .int .i64 D.left] := h.blk
  refine W_enter (args := [.pointer (some ⟨g, 0, none⟩)]) 64 Tryz.func16 rfl rfl rfl ?_
  refine W_sub [(0, .pointer (some ⟨g, 0, none⟩))] ?_ ⟨rfl, trivial⟩
  have hbw := Below.refl w.heap.size w
  refine W_rs ?_
  refine sa rfl rfl ?_
  refine Wn ?_
  refine tN ?_
  refine W_seq ?_
  refine W_rs ?_
  refine sm rfl rfl ?_
  refine st (X.dEq rfl) rfl ?_
  refine Wn ?_
  refine tN ?_
  refine W_no rfl (rfl) ?_
  refine W_skip ?_
  refine tN ?_
  refine W_drsN (fun W_ => Blk W_ g 80 #[.map (some b), .int .i64 D.limit, .int .i64 D.used, .int .i64 D.refused, .bool D.stops, .int .i64 D.left]) [1, 2, 3, 4, 5, 6, 7, 8, 9, 10, 11, 12, 13, 14, 15, 16, 17, 18, 19, 20, 0, 21, 22, 23] [true, true, true, true, true, true, true, true, true, true, true, true, true, true, true, true, true, true, true, true, false, true, false, true] (by kernel_rfl) (by kernel_rfl) (hB.drew) ?_
  obtain ⟨w1, hw_⟩ : ∃ w1 : World, w1 = World.drew w := ⟨_, rfl⟩
  rw [← hw_]
  have hb : Below w.heap.size w w1 := by rw [hw_]; exact bdrew (Below.refl _ _)
  clear hw_
  have hS := hb
  replace hbw := bthen hbw hb
  replace hB := hB.bel hb
  have hz_w1 := hb.size
  clear hb
  refine oY rfl (fun W_ hW_ => (X.move rfl)) rfl ?_
  refine oY rfl (fun W_ hW_ => (X.nilChk rfl)) rfl ?_
  refine oY rfl (fun W_ hW_ => (X.fa fa80_1 rfl)) rfl ?_
  refine oY rfl (fun W_ hW_ => (X.ldL rfl hW_ Tryz.underlying3 rfl rfl)) rfl ?_
  refine oY rfl (fun W_ hW_ => (X.move rfl)) rfl ?_
  refine oY rfl (fun W_ hW_ => (X.nilChk rfl)) rfl ?_
  refine oY rfl (fun W_ hW_ => (X.fa fa80_2 rfl)) rfl ?_
  refine oY rfl (fun W_ hW_ => (X.ldL rfl hW_ Tryz.underlying3 rfl rfl)) rfl ?_
  refine oY rfl (fun W_ hW_ => (X.move rfl)) rfl ?_
  refine oY rfl (fun W_ hW_ => (X.nilChk rfl)) rfl ?_
  refine oY rfl (fun W_ hW_ => (X.fa fa80_3 rfl)) rfl ?_
  refine oY rfl (fun W_ hW_ => (X.ldL rfl hW_ Tryz.underlying3 rfl rfl)) rfl ?_
  refine oY rfl (fun W_ hW_ => (X.move rfl)) rfl ?_
  refine oY rfl (fun W_ hW_ => (X.nilChk rfl)) rfl ?_
  refine oY rfl (fun W_ hW_ => (X.fa fa80_4 rfl)) rfl ?_
  refine oY rfl (fun W_ hW_ => (X.ldL rfl hW_ Tryz.underlying4 rfl rfl)) rfl ?_
  refine oY rfl (fun W_ hW_ => (X.move rfl)) rfl ?_
  refine oY rfl (fun W_ hW_ => (X.nilChk rfl)) rfl ?_
  refine oY rfl (fun W_ hW_ => (X.fa fa80_5 rfl)) rfl ?_
  refine oY rfl (fun W_ hW_ => (X.ldL rfl hW_ Tryz.underlying3 rfl rfl)) rfl ?_
  refine oL rfl (fun Q_ hQ_ hP_ => ?_)
  refine smm (κ := Key) (enc := str) (encv := encPtr) rfl (fun b2 w2 hM2 hb2g hb hb2l => ?_)
  replace hbw := bthen hbw hb
  replace hB := hB.bel hb
  have hz3 := hb.size
  clear hb
  refine Wn (hQ_ _ _ (hB) ?_)
  clear hQ_ hP_ Q_
  refine oY rfl (fun W_ hW_ => (X.bld rfl (bdiskC _ _ _ _ _ _ _))) rfl ?_
  refine oL rfl (fun Q_ hQ_ hP_ => ?_)
  refine sboxA rfl rfl (fun g30 w3 hB30 hg30 hb hl30 => ?_)
  replace hbw := bthen hbw hb
  replace hB := hB.bel hb
  replace hM2 := hM2.bel hb
  have hz_w3 := hb.size
  clear hb
  refine Wn (hQ_ _ _ (hB) ?_)
  clear hQ_ hP_ Q_
  refine oY rfl (fun W_ hW_ => (X.assign rfl)) rfl ?_
  refine oN ?_
  refine nN ?_
  refine W_seq ?_
  refine W_rs ?_
  refine sm rfl rfl ?_
  refine st (X.nilChk rfl) rfl ?_
  refine st (X.fa fa80_0 rfl) rfl ?_
  refine st (X.ldL rfl hB Tryz.underlying78 rfl rfl) rfl ?_
  have hD0 : DiskIn w3 g30 b2 { D with files := [] } [] (fun k => w.heap.size ≤ k) := ⟨hB30, hM2, fun n => rfl, fun n r hr => (by cases hr), fun n m r s k hr => (by cases hr), ⟨by omega, by omega⟩, fun n r k hr => (by cases hr)⟩
  obtain ⟨gi, hgi⟩ : ∃ gi, w3.heap.size = gi := ⟨_, rfl⟩
  obtain ⟨w4, hr1, hI1, hb1⟩ := (h.map.bel hbw).iter (P := Tryz.prog) 78 Tryz.underlying78
  rw [hgi] at hr1 hI1
  refine st (w' := w4) (v := .pointer (some ⟨gi, 0, none⟩)) (fun ρ hρ => by unfold execOp; simp only [hρ (.tmp 34) _ rfl, Sem.run_bind, hr1, Result.andThen_ok, Sem.run_pure]) rfl ?_
  replace hbw := bthen hbw hb1
  replace hB := hB.bel hb1
  replace hB30 := hB30.bel hb1
  replace hM2 := hM2.bel hb1
  replace hD0 := hD0.bel hb1
  have hgig : w.heap.size ≤ gi := by have := hbw.size; omega
  have hz4 := hb1.size
  clear hb1 hr1
  refine Wn ?_
  refine tN ?_
  refine W_block ?_
  refine W_lp (fun nw5_ lw5_ w5 => ∃ pre : List Key, ∃ rs2 : List (Key × FRec), nw5_ = rs.length - pre.length ∧ lw5_ = ([(3, .pointer (some ⟨g30, 0, none⟩)), (35, .pointer (some ⟨gi, 0, none⟩))] : Env) ∧ (Below w.heap.size w w5) ∧ (IterAt w5 gi b str encPtr (rs.map fun p => (p.1, p.2.blk)) pre) ∧ (DiskIn w5 g30 b2 { D with files := rs2.map fun p => (p.1, p.2.f) } rs2 (fun k => w.heap.size ≤ k)) ∧ (∀ q, (mget rs2 q).map FRec.f = if q ∈ pre then (mget rs q).map FRec.f else none) ∧ (gi ≠ g30 ∧ gi ≠ b2)) _ ⟨_, ⟨[], [], rfl, rfl, hbw, hI1, hD0, (fun q => by simp [mget]), ⟨by omega, by omega⟩⟩, ⟨rfl, rfl, trivial⟩⟩ ?_
  clear hbw
  rintro nw5_ lw5_ w5 ⟨pre, rs2, rfl, rfl, hbw, hI, hD2, hfl, hgb⟩
  have hz_w5 := hbw.size
  refine W_rs ?_
  obtain ⟨c, arr, w6, hr5, ha0, hC5, hcF, hcT⟩ := hI.next1 (P := Tryz.prog) 0
  refine st (w' := w6) (v := .tuple arr) (fun ρ hρ => by unfold execOp; simp only [hρ (.tmp 35) _ rfl, Sem.run_bind, hr5, Result.andThen_ok, Sem.run_pure]) rfl ?_
  have hD5 := hD2.apartI hI hC5
  replace hbw := bset hbw hC5 hgig
  have hz5 := hC5.size
  clear hr5 hD2
  have hD2 := hD5
  clear hD5
  refine st (X.ext rfl ha0) rfl ?_
  refine Wn ?_
  refine tN ?_
  refine W_seq ?_
  refine W_if rfl (fun h37 => ?_) (fun h37 => ?_)
  · first | replace h37 := of_decide_eq_true h37 | replace h37 := of_decide_eq_false (notT h37) | replace h37 := notT h37 | skip
    obtain ⟨k, vb, hkp, hkm, hent, hI2⟩ := hcT h37
    obtain ⟨r, hr, rfl⟩ : ∃ r, mget rs k = some r ∧ r.blk = vb := by
      obtain ⟨p, hp, he⟩ := List.mem_map.1 hkm
      injection he with e1 e2
      exact ⟨p.2, by rw [← e1]; exact mget_of_mem h.keys hp, e2⟩
    have hFA := (h.at_ k r hr).bel hbw
    have hfo : mget D.files k = some r.f := by rw [h.files, hr]; rfl
    obtain ⟨hl1, hl2, _⟩ := hok.len hfo
    have hl3 := (hbud.pend k _ hfo).2
    have hb2l2 := hD2.map.lt
    have hgl2 := hD2.blk.lt
    have hrl := (h.at_ k r hr).blk.lt
    have hbl := h.map.lt
    have hF : Blk w6 r.blk 98 #[r.vl, r.vn, r.vp] := hFA.blk
    have hB2 : Blk w6 g30 80 #[.map (some b2), .int .i64 D.limit, .int .i64 D.used, .int .i64 D.refused, .bool D.stops, .int .i64 D.left] := hD2.blk
    have hM2 := hD2.map
    have hnk : k ∉ rs2.map (·.1) := by
      have := hfl k
      rw [if_neg hkp] at this
      cases hg : mget rs2 k with
      | none => exact mget_none.1 hg
      | some x => rw [hg] at this; cases this
    refine W_skip ?_
    refine tN ?_
    refine W_block ?_
    refine W_rs ?_
    refine st (w' := w6) (v := .tuple #[str k, encPtr r.blk]) (fun ρ hρ => by unfold execOp; simp only [hρ (.tmp 35) _ rfl, Sem.run_bind, hent, Result.andThen_ok, Sem.run_pure]) rfl ?_
    obtain ⟨w7, hw7⟩ : ∃ w7, w6 = w7 := ⟨_, rfl⟩
    have hCc : Chg (fun q => q = g30 ∨ q = b2) w7 w6 := hw7 ▸ Chg.refl _ _
    have hsz7 : w7.heap.size = w6.heap.size := by rw [hw7]
    rw [hw7] at hD2
    refine st (X.ext rfl rfl) rfl ?_
    refine st (X.ext rfl rfl) rfl ?_
    refine sa rfl rfl ?_
    refine sa rfl rfl ?_
    refine Wn ?_
    refine tN ?_
    refine W_drN (fun W_ => Blk W_ g30 80 #[.map (some b2), .int .i64 D.limit, .int .i64 D.used, .int .i64 D.refused, .bool D.stops, .int .i64 D.left] ∧ Blk W_ r.blk 98 #[r.vl, r.vn, r.vp]) [0, 1, 2, 3, 4, 5, 6, 7, 8, 10, 11, 12, 13, 15, 16, 17, 18, 9, 14, 19, 20, 21, 22] [true, true, true, true, true, true, true, true, true, true, true, true, true, true, true, true, true, false, false, false, true, false, false] (by kernel_rfl) (by kernel_rfl) (⟨hB2.drew, hF.drew⟩) ?_
    obtain ⟨w7, hw_⟩ : ∃ w7 : World, w7 = World.drew w6 := ⟨_, rfl⟩
    rw [← hw_]
    have hb : Below w6.heap.size w6 w7 := by rw [hw_]; exact bdrew (Below.refl _ _)
    clear hw_
    have hS := hb
    replace hbw := bthen hbw hb
    replace hCc := hCc.bel hb
    replace hF := hF.bel hb
    replace hB2 := hB2.bel hb
    replace hM2 := hM2.bel hb
    replace hFA := hFA.bel hb
    replace hI2 := hI2.bel hb
    have hz_w7 := hb.size
    clear hb
    refine oY rfl (fun W_ hW_ => (X.move rfl)) rfl ?_
    refine oY rfl (fun W_ hW_ => (X.nilChk rfl)) rfl ?_
    refine oY rfl (fun W_ hW_ => (X.fa fa80_0 rfl)) rfl ?_
    refine oY rfl (fun W_ hW_ => (X.ldL rfl hW_.1 Tryz.underlying78 rfl rfl)) rfl ?_
    refine oY rfl (fun W_ hW_ => (X.move rfl)) rfl ?_
    refine oY rfl (fun W_ hW_ => (X.move rfl)) rfl ?_
    refine oY rfl (fun W_ hW_ => (X.nilChk rfl)) rfl ?_
    refine oY rfl (fun W_ hW_ => (X.fa fa98_0 rfl)) rfl ?_
    refine oY rfl (fun W_ hW_ => (X.ldL rfl hW_.2 Tryz.underlying94 rfl rfl)) rfl ?_
    refine oY rfl (fun W_ hW_ => (X.move rfl)) rfl ?_
    refine oY rfl (fun W_ hW_ => (X.nilChk rfl)) rfl ?_
    refine oY rfl (fun W_ hW_ => (X.fa fa98_1 rfl)) rfl ?_
    refine oY rfl (fun W_ hW_ => (X.ldL rfl hW_.2 Tryz.underlying94 rfl rfl)) rfl ?_
    refine oY rfl (fun W_ hW_ => (X.move rfl)) rfl ?_
    refine oY rfl (fun W_ hW_ => (X.nilChk rfl)) rfl ?_
    refine oY rfl (fun W_ hW_ => (X.fa fa98_2 rfl)) rfl ?_
    refine oY rfl (fun W_ hW_ => (X.ldL rfl hW_.2 Tryz.underlying96 rfl rfl)) rfl ?_
    refine oL rfl (fun Q_ hQ_ hP_ => ?_)
    refine sc _ Tryz.func63 rfl (by kernel_rfl) rfl rfl ((CloneB_any r.vl r.f.last _ hFA.last (by omega)).mono ?_)
    rintro e_ w8 ⟨v1, rfl, hV1, hO1, hb⟩
    refine cR ?_
    replace hbw := bthen hbw hb
    replace hCc := hCc.bel hb
    replace hF := hF.bel hb
    replace hB2 := hB2.bel hb
    replace hM2 := hM2.bel hb
    replace hFA := hFA.bel hb
    replace hI2 := hI2.bel hb
    have hz_w8 := hb.size
    clear hb
    refine Wn (hQ_ _ _ (⟨hB2, hF⟩) ?_)
    clear hQ_ hP_ Q_
    have hL1 : ∀ q, v1.ownBlock = some q → q < w8.heap.size := fun q hq => hV1.lt q hq
    refine oL rfl (fun Q_ hQ_ hP_ => ?_)
    refine sc _ Tryz.func63 rfl (by kernel_rfl) rfl rfl ((CloneB_any r.vn r.f.now _ hFA.now (by omega)).mono ?_)
    rintro e_ w9 ⟨v2, rfl, hV2, hO2, hb⟩
    refine cR ?_
    replace hbw := bthen hbw hb
    replace hCc := hCc.bel hb
    replace hF := hF.bel hb
    replace hB2 := hB2.bel hb
    replace hM2 := hM2.bel hb
    replace hFA := hFA.bel hb
    replace hI2 := hI2.bel hb
    replace hV1 := hV1.bel hb
    have hz_w9 := hb.size
    clear hb
    refine Wn (hQ_ _ _ (⟨hB2, hF⟩) ?_)
    clear hQ_ hP_ Q_
    refine oL rfl (fun Q_ hQ_ hP_ => ?_)
    refine sc _ Tryz.func64 rfl (by kernel_rfl) rfl rfl ((CloneW_any r.vp r.f.pend _ hFA.pend hl3).mono ?_)
    rintro e_ w10 ⟨v3, rfl, hV3, hO3, hb⟩
    refine cR ?_
    replace hbw := bthen hbw hb
    replace hCc := hCc.bel hb
    replace hF := hF.bel hb
    replace hB2 := hB2.bel hb
    replace hM2 := hM2.bel hb
    replace hFA := hFA.bel hb
    replace hI2 := hI2.bel hb
    replace hV1 := hV1.bel hb
    replace hV2 := hV2.bel hb
    have hz_w10 := hb.size
    clear hb
    refine Wn (hQ_ _ _ (⟨hB2, hF⟩) ?_)
    clear hQ_ hP_ Q_
    obtain ⟨a1, c1, hv1, _⟩ := hV1.shape
    obtain ⟨a2, c2, hv2, _⟩ := hV2.shape
    obtain ⟨a3, c3, hv3, _⟩ := hV3.shape
    have hap12 : ∀ q, v1.ownBlock = some q → v2.ownBlock ≠ some q := fun q h1 h2 => by
      have := hL1 q h1
      have := hO2 q h2
      omega
    subst hv1 hv2 hv3
    refine oY rfl (fun W_ hW_ => (X.bld rfl (bfile3 _ _ _ _ _ _ _ _ _ _))) rfl ?_
    refine oL rfl (fun Q_ hQ_ hP_ => ?_)
    refine sboxA rfl rfl (fun g62 w11 hB62 hg62 hb hl62 => ?_)
    replace hbw := bthen hbw hb
    replace hCc := hCc.bel hb
    replace hF := hF.bel hb
    replace hB2 := hB2.bel hb
    replace hM2 := hM2.bel hb
    replace hI2 := hI2.bel hb
    replace hV1 := hV1.bel hb
    replace hV2 := hV2.bel hb
    replace hV3 := hV3.bel hb
    have hz21 := hb.size
    clear hb
    refine Wn (hQ_ _ _ (⟨hB2, hF⟩) ?_)
    clear hQ_ hP_ Q_
    refine oL rfl (fun Q_ hQ_ hP_ => ?_)
    refine smu (keyStr Tryz.underlying9) rfl k g62 rfl rfl Tryz.underlying78 hM2 (fun w12 hM3 hC3 => ?_)
    have hcx := hCc.next hC3 (fun i hi => .inl (.inr hi))
    have hg2 : g30 ≠ b2 := hD2.gb
    have hB3 := hB2.chg hC3 (by omega)
    have hF3 := hF.chg hC3 (by omega)
    have hI3 := hI2.chg hC3 (fun e => hgb.2 e) (by omega)
    have hz22 := hC3.size
    have hD3 : DiskIn w12 g30 b2 { D with files := (mput rs2 k ⟨g62, .slice a1 r.f.last.length c1, .slice a2 r.f.now.length c2, .slice a3 r.f.pend.length c3, r.f⟩).map fun p => (p.1, p.2.f) } (mput rs2 k ⟨g62, .slice a1 r.f.last.length c1, .slice a2 r.f.now.length c2, .slice a3 r.f.pend.length c3, r.f⟩) (fun k => w.heap.size ≤ k) := by
      refine (hD2.add (D' := { D with files := (mput rs2 k ⟨g62, .slice a1 r.f.last.length c1, .slice a2 r.f.now.length c2, .slice a3 r.f.pend.length c3, r.f⟩).map fun p => (p.1, p.2.f) }) (r' := ⟨g62, .slice a1 r.f.last.length c1, .slice a2 r.f.now.length c2, .slice a3 r.f.pend.length c3, r.f⟩) hcx hB3 hM3 (fun q => ?_) ⟨hB62.chg hC3 (by omega), hV1.chg hC3 (fun q hq e => ?_), hV2.chg hC3 (fun q hq e => ?_), hV3.chg hC3 (fun q hq e => ?_), hap12⟩ (fun q hq => ?_)).mono (Ext.from (by omega))
      · show mget (List.map _ (mput rs2 k _)) q = _
        rw [mput_map FRec.f]
        exact mget_mput _ _ _ _
      · have := hO1 q hq; omega
      · have := hO2 q hq; omega
      · have := hO3 q hq; omega
      · rcases hq with hq | hq | hq | hq
        · have hq : q = g62 := hq
          omega
        · have := hO1 q hq; omega
        · have := hO2 q hq; omega
        · have := hO3 q hq; omega
    have hfl3 : ∀ q, (mget (mput rs2 k ⟨g62, .slice a1 r.f.last.length c1, .slice a2 r.f.now.length c2, .slice a3 r.f.pend.length c3, r.f⟩) q).map FRec.f = if q ∈ pre ++ [k] then (mget rs q).map FRec.f else none := fun q => by
      rw [mget_mput]
      by_cases hq : q = k
      · subst hq
        rw [if_pos rfl, if_pos (by simp), hr]
        rfl
      · rw [if_neg hq, hfl q]
        by_cases hqp : q ∈ pre
        · rw [if_pos hqp, if_pos (by simp [hqp])]
        · rw [if_neg hqp, if_neg (by simp [hqp, hq])]
    have hbw3 := bset hbw hC3 (by omega)
    clear hB2 hF hI hI2 hD2 hfl hM2 hbw
    have hB2 := hB3
    have hF := hF3
    have hI := hI3
    have hD2 := hD3
    have hfl := hfl3
    have hbw := hbw3
    refine Wn (hQ_ _ _ (⟨hB2, hF⟩) ?_)
    clear hQ_ hP_ Q_
    refine oN ?_
    refine nN ?_
    refine bN ?_
    refine tN ⟨_, _, ?_, ⟨pre ++ [k], mput rs2 k ⟨g62, .slice a1 r.f.last.length c1, .slice a2 r.f.now.length c2, .slice a3 r.f.pend.length c3, r.f⟩, rfl, rfl, hbw, hI, hD3, hfl3, hgb⟩, ⟨rfl, rfl, trivial⟩⟩
    have hmo := hI.more; rw [List.length_map] at hmo; rw [List.length_append, List.length_singleton]; omega
  · first | replace h37 := of_decide_eq_false h37 | replace h37 := of_decide_eq_true (notF h37) | replace h37 := notF h37 | skip
    obtain ⟨hperm, hww⟩ := hcF h37
    have hfin : ∀ n, mget D.files n = (mget rs2 n).map FRec.f := fun n => by
      rw [hfl n]
      split
      · exact h.files n
      · rename_i hn
        have h1 : n ∉ (rs.map fun p => (p.1, p.2.blk)).map (·.1) := fun e => hn (hperm.mem_iff.2 e)
        rw [List.map_map] at h1
        rw [h.files, mget_none.2 h1]
        rfl
    refine W_exit (tE (tE (bH ?_)))
    refine tN ?_
    refine W_rs ?_
    refine sm rfl rfl ?_
    refine sa rfl rfl ?_
    refine Wn ?_
    refine tN ?_
    refine W_ret ?_
    exact (rT rfl rfl ⟨g30, _, rfl, ⟨b2, rs2, DiskIn.tight ⟨hD2.blk, hD2.map, hfin, hD2.at_, hD2.apart, hD2.inS, hD2.inR⟩⟩, fun k hk => hk, hbw⟩).1
end Go.Proofs.YtnijmegalgoipaaGreatDoor
