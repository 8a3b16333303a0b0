/- The law FanMakes. -/
import Derived.Test.YtnagmpnpgekhfaaFanTellsL
namespace Go.Proofs.Ytnagmpnpgekhfaa
open Go.RowKit
theorem fieldsEntE : Try.prog.underlying 90 = some (.struct (Try.prog.fieldsOf 90)) := by kernel_rfl
set_option maxRecDepth 30000 in
theorem eqEnt (a b : Ent) (ha : a.sum.length = 32) (hb : b.sum.length = 32) (w : World) : (Op.equalIn 10000 90 (.agg a.cells.toArray) (.agg b.cells.toArray)).run Try.prog w = .ok (decide (a = b)) w := by
  refine (run_equalIn_struct w 9999 _ _ _ fieldsEntE (by kernel_rfl)).trans ?_
  have hf := Option.some.inj (fieldsEntE.symm.trans Try.underlying90)
  injection hf with hf
  rw [hf]
  have h1 : ∀ c : Ent, c.sum.length = 32 → (part 36 c.cells.toArray 0).run Try.prog w = .ok (.agg (c.sum.map bv).toArray) w := fun c hc => by
    simp [part, isAgg, run_underlying Try.underlying36]
    exact List.take_left' (by rw [List.length_map, hc])
  have h2 : ∀ c : Ent, c.sum.length = 32 → (part 3 c.cells.toArray 32).run Try.prog w = .ok (.int .i64 c.pack) w := fun c hc => run_part1 Try.underlying3 rfl (by simp [Ent.cells, hc])
  have h3 : ∀ c : Ent, c.sum.length = 32 → (part 3 c.cells.toArray 33).run Try.prog w = .ok (.int .i64 c.pos) w := fun c hc => run_part1 Try.underlying3 rfl (by simp [Ent.cells, hc])
  have h4 : ∀ c : Ent, c.sum.length = 32 → (part 3 c.cells.toArray 34).run Try.prog w = .ok (.int .i64 c.len) w := fun c hc => run_part1 Try.underlying3 rfl (by simp [Ent.cells, hc])
  have e2 : (Op.equalIn 9999 3 (.int .i64 a.pack) (.int .i64 b.pack)).run Try.prog w = .ok (a.pack == b.pack) w := run_equalIn_int w 9998 3 .i64 .i64 _ _ Try.underlying3
  have e3 : (Op.equalIn 9999 3 (.int .i64 a.pos) (.int .i64 b.pos)).run Try.prog w = .ok (a.pos == b.pos) w := run_equalIn_int w 9998 3 .i64 .i64 _ _ Try.underlying3
  have e4 : (Op.equalIn 9999 3 (.int .i64 a.len) (.int .i64 b.len)).run Try.prog w = .ok (a.len == b.len) w := run_equalIn_int w 9998 3 .i64 .i64 _ _ Try.underlying3
  rw [← ent_dec]
  exact eqFields_cons (by decide) (h1 a ha) (h1 b hb) (eqSumE a.sum b.sum ha hb w) (fun _ => eqFields_cons (by decide) (h2 a ha) (h2 b hb) e2 (fun _ => eqFields_cons (by decide) (h3 a ha) (h3 b hb) e3 (fun _ => eqFields_one (by decide) (h4 a ha) (h4 b hb) e4)))
theorem X.neEnt {l : Env} {x y : Operand} {w : World} {t' ty : TypeId} {a b : Ent} (ha : a.sum.length = 32) (hb : b.sum.length = 32) (hx : ev l x = some (.agg a.cells.toArray)) (hy : ev l y = some (.agg b.cells.toArray)) : X Try.prog l (.binOp .neq 90 x y t') ty w (.bool (decide (a ≠ b))) w :=
  X.bin hx hy (fun c d => run_eqGuard_agg w .neq _ c d _ _ (by kernel_rfl)) (by rw [run_neq_struct, eqEnt a b ha hb]; simp [Result.andThen])
theorem eZ32 : eZ.sum.length = 32 := rfl
theorem bucket_S32 {l : List Ent} (h : S32 l) (b : Nat) : S32 (bucketM l b) := fun e he => h e (List.mem_filter.1 he).1
theorem bucket_le (l : List Ent) (b : Nat) : (bucketM l b).length ≤ l.length := List.length_filter_le _ _
theorem make_found {l : List Ent} {x : Ent} (hx : x ∈ l) : (findM (makeM l).1 x.sum).isSome = decide ((makeM l).2 = 0) := by
  by_cases h : (makeM l).2 = 0
  · rw [decide_eq_true h, find_isSome]
    refine decide_eq_true (List.mem_map.2 ⟨x, ?_, rfl⟩)
    exact (make_ok h).2.2.2.2.perm.mem_iff.2 hx
  · rw [decide_eq_false h, make_bad h]
    rfl
theorem X.ldBNe {P : Program} {l : Env} {x : Operand} {w : World} {t ty bt : TypeId} {g : Nat} {de : TypeDesc} {cs : Array Value} (hx : ev l x = some (.pointer (some ⟨g, 0, none⟩))) (hB : Blk w g bt cs) (hu : P.underlying t = some de) (hd : de.isRow = true) (hi : (P.info? t).map (·.size) = some cs.size) : X P l (.load t x) ty w (.agg cs) w := X.ldBN hx hB hu hd hi
theorem flat1 (x : Ent) : [x].flatMap Ent.cells = x.cells := by simp
theorem flat1r (x : Ent) : [x].flatMap recE = recE x := by simp
set_option maxRecDepth 10000 in
set_option maxHeartbeats 1000000 in
theorem FanMakes_walk (w : World) (v : Value) (l : List Ent) (h : EntsAt w v l) (h32 : S32 l) (s : List UInt8) (hs : s.length = 32) (b : UInt8) : Calls Try.prog 14 #[v, .agg (s.map bv).toArray, .int .u8 b.toNat] w fun e w' => e = .returned (.bool true) ∧ Below w.heap.size w w' := by
  obtain ⟨a, cp, rfl, hn, hcp⟩ := h.shape
  have hss : (Try.prog.info? 36).map (·.size) = some (s.map bv).toArray.size := by rw [encSum_size ⟨s, hs⟩]; exact siz36
  refine W_enter (args := [.slice a l.length cp, .agg (s.map bv).toArray, .int .u8 b.toNat]) 115 Try.func14 rfl rfl rfl ?_
  refine W_sub [(0, .slice a l.length cp), (1, .agg (s.map bv).toArray), (2, .int .u8 b.toNat)] ?_ ⟨rfl, rfl, rfl, trivial⟩
  have hbw := Below.refl w.heap.size w
  refine W_rs ?_
  refine sboxA rfl rfl (fun g4 w1 hB4 hg4 hb hl4 => ?_)
  replace hbw := bthen hbw hb
  have hz_w1 := hb.size
  clear hb
  refine sa rfl rfl ?_
  refine Wn ?_
  refine tN ?_
  refine W_seq ?_
  refine W_rs ?_
  refine sm rfl rfl ?_
  refine st (X.lenL rfl rfl Try.underlying69) rfl ?_
  refine st (X.gtr rfl rfl) rfl ?_
  refine Wn ?_
  refine tN ?_
  refine W_if rfl (fun h18 => ?_) (fun h18 => ?_)
  · first | replace h18 := of_decide_eq_true h18 | replace h18 := of_decide_eq_false (notT h18) | replace h18 := notT h18 | skip
    refine W_rs ?_
    refine sc _ Try.func44 rfl (by kernel_rfl) rfl rfl ((fawake_any _).mono ?_)
    rintro e_ w2 ⟨rfl, hb⟩
    refine cR ?_
    replace hbw := bthen hbw hb
    replace hB4 := hB4.bel hb
    have hz_w2 := hb.size
    clear hb
    refine sa rfl rfl ?_
    refine Wn ?_
    refine tN ?_
    refine W_ret (tR ?_)
    exact (rT rfl rfl ⟨rfl, hbw⟩).1
  · first | replace h18 := of_decide_eq_false h18 | replace h18 := of_decide_eq_true (notF h18) | replace h18 := notF h18 | skip
    have hml := make_length l
    have hL32 := make_S32 h32
    have hLu := make_up l
    refine W_skip ?_
    refine tN ?_
    refine W_rs ?_
    refine sm rfl rfl ?_
    refine sc _ Try.func45 rfl (by kernel_rfl) rfl rfl ((Make_any _ l _ (h.bel hbw) h32 (by omega)).mono ?_)
    rintro e_ w3 ⟨vm, rfl, hE, hb⟩
    refine cR ?_
    replace hbw := bthen hbw hb
    replace hB4 := hB4.bel hb
    have hz_w3 := hb.size
    clear hb
    obtain ⟨am, cm, rfl, _, _⟩ := hE.shape
    refine sm rfl rfl ?_
    refine st (X.ext rfl rfl) rfl ?_
    refine st (X.ext rfl rfl) rfl ?_
    refine salA inf71 rfl (fun g7 w4 hB7 hg7 hb hl7 => ?_)
    have hpend := hb
    replace hbw := bthen hbw hb
    replace hB4 := hB4.bel hb
    have hz_w4 := hb.size
    clear hb
    refine ssBN rfl rfl hB7 siz71 rfl rfl (fun w5 hB_ hc_ => ?_)
    replace hB7 := hB_
    clear hB_
    replace hpend := bset hpend hc_ (by omega)
    replace hB4 := hB4.chg hc_ (by first | (show ¬ _ = _; omega) | (intro k_ hk_; simp [Value.ownBlock] at hk_; subst hk_; show ¬ _ = _; omega))
    replace hbw := bset hbw hc_ (by omega)
    have hz_w5 := hc_.size
    clear hc_
    refine sa rfl rfl ?_
    refine Wn ?_
    refine tN ?_
    refine W_rs ?_
    refine sm rfl rfl ?_
    refine sc _ Try.func47 rfl (by kernel_rfl) rfl rfl ((FPlain_any _ l _ (h.bel hbw) h32 (by omega)).mono ?_)
    rintro e_ w6 ⟨vp, rfl, hP, hO, hb⟩
    refine cR ?_
    replace hpend := bthen hpend hb
    replace hbw := bthen hbw hb
    replace hB4 := hB4.bel hb
    replace hB7 := hB7.bel hb
    have hz_w6 := hb.size
    clear hb
    refine sc _ Try.func46 rfl (by kernel_rfl) rfl rfl ((RMake_any vp l _ hP.reads (by omega)).mono ?_)
    rintro e_ w7 ⟨vr, rfl, hRr, hb⟩
    refine cR ?_
    replace hpend := bthen hpend hb
    replace hbw := bthen hbw hb
    replace hB4 := hB4.bel hb
    replace hB7 := hB7.bel hb
    have hz_w7 := hb.size
    clear hb
    obtain ⟨ar, cr, rfl, _, _⟩ := hRr.shape
    replace hE := hE.bel hpend
    clear hpend
    refine sm rfl rfl ?_
    refine st (X.ext rfl rfl) rfl ?_
    refine st (X.ext rfl rfl) rfl ?_
    refine sa rfl rfl ?_
    refine sa rfl rfl ?_
    refine Wn ?_
    refine tN ?_
    refine W_seq ?_
    refine W_rs ?_
    refine sm rfl rfl ?_
    refine sm rfl rfl ?_
    refine st (X.neq rfl rfl) rfl ?_
    refine sbN rfl (by simp) rfl ?_
    refine gY (g := 34) rfl rfl rfl ?_
    refine st (X.ldBN rfl hB7 Try.underlying71 rfl siz71) rfl ?_
    refine gY (g := 34) rfl rfl rfl ?_
    refine sc _ Try.func51 rfl (by kernel_rfl) rfl rfl ((ILen_any _ (makeM l).1 _ hE).mono ?_)
    rintro e_ w8 ⟨rfl, hb⟩
    refine cR ?_
    have hpend := hb
    replace hbw := bthen hbw hb
    replace hB4 := hB4.bel hb
    replace hB7 := hB7.bel hb
    have hz_w8 := hb.size
    clear hb
    refine gY (g := 34) rfl rfl rfl ?_
    refine sm rfl rfl ?_
    refine gY (g := 34) rfl rfl rfl ?_
    refine st (X.lenL rfl rfl Try.underlying74) rfl ?_
    refine gY (g := 34) rfl rfl rfl ?_
    refine st (X.neq rfl rfl) rfl ?_
    refine st (X.pickF rfl rfl) rfl ?_
    refine sbN rfl (by simp) rfl ?_
    refine gY (g := 41) rfl rfl rfl ?_
    refine st (X.ldBN rfl hB7 Try.underlying71 rfl siz71) rfl ?_
    refine gY (g := 41) rfl rfl rfl ?_
    replace hE := hE.bel hpend
    replace hRr := hRr.bel hpend
    clear hpend
    refine sc _ Try.func54 rfl (by kernel_rfl) rfl rfl ((IAll_any _ (makeM l).1 _ hE hL32 (by omega)).mono ?_)
    rintro e_ w9 ⟨va, rfl, hA, hOa, hb⟩
    refine cR ?_
    have hpend := hb
    replace hbw := bthen hbw hb
    replace hB4 := hB4.bel hb
    replace hB7 := hB7.bel hb
    have hz_w9 := hb.size
    clear hb
    refine gY (g := 41) rfl rfl rfl ?_
    refine sm rfl rfl ?_
    refine gY (g := 41) rfl rfl rfl ?_
    replace hE := hE.bel hpend
    replace hRr := hRr.bel hpend
    clear hpend
    refine sc _ Try.func53 rfl (by kernel_rfl) rfl rfl ((FSame_any va _ _ _ _ hA.reads hL32 (by omega) hRr).mono ?_)
    rintro e_ w10 ⟨rfl, hb⟩
    refine cR ?_
    have hpend := hb
    replace hbw := bthen hbw hb
    replace hB4 := hB4.bel hb
    replace hB7 := hB7.bel hb
    have hz_w10 := hb.size
    clear hb
    refine gY (g := 41) rfl rfl rfl ?_
    refine st (X.not rfl) rfl ?_
    refine st (X.pickF rfl rfl) rfl ?_
    refine sbN rfl (by simp) rfl ?_
    refine gY (g := 48) rfl rfl rfl ?_
    refine st (X.ldBN rfl hB7 Try.underlying71 rfl siz71) rfl ?_
    refine gY (g := 48) rfl rfl rfl ?_
    refine sm rfl rfl ?_
    refine gY (g := 48) rfl rfl rfl ?_
    replace hE := hE.bel hpend
    replace hRr := hRr.bel hpend
    clear hpend
    refine sc _ Try.func55 rfl (by kernel_rfl) rfl rfl ((Bucket_any _ (makeM l).1 b _ hE hL32 hLu (by omega)).mono ?_)
    rintro e_ w11 ⟨vb, rfl, hBu, hOb, hb⟩
    refine cR ?_
    have hpend := hb
    replace hbw := bthen hbw hb
    replace hB4 := hB4.bel hb
    replace hB7 := hB7.bel hb
    have hz_w11 := hb.size
    clear hb
    replace hE := hE.bel hpend
    replace hRr := hRr.bel hpend
    clear hpend
    refine gY (g := 48) rfl rfl rfl ?_
    refine sm rfl rfl ?_
    refine gY (g := 48) rfl rfl rfl ?_
    refine sm rfl rfl ?_
    refine gY (g := 48) rfl rfl rfl ?_
    refine sc _ Try.func56 rfl (by kernel_rfl) rfl rfl ((RBucket_any _ (makeM l).1 b _ hRr hL32 (by omega)).mono ?_)
    rintro e_ w12 ⟨vbr, rfl, hBr, hObr, hb⟩
    refine cR ?_
    have hpend := hb
    replace hbw := bthen hbw hb
    replace hB4 := hB4.bel hb
    replace hB7 := hB7.bel hb
    have hz_w12 := hb.size
    clear hb
    refine gY (g := 48) rfl rfl rfl ?_
    replace hE := hE.bel hpend
    replace hRr := hRr.bel hpend
    replace hBu := hBu.bel hpend
    clear hpend
    refine sc _ Try.func53 rfl (by kernel_rfl) rfl rfl ((FSame_any vb vbr _ _ _ hBu.reads (bucket_S32 hL32 _) (by have := bucket_le (makeM l).1 b.toNat; omega) hBr.reads).mono ?_)
    rintro e_ w13 ⟨rfl, hb⟩
    refine cR ?_
    have hpend := hb
    replace hbw := bthen hbw hb
    replace hB4 := hB4.bel hb
    replace hB7 := hB7.bel hb
    have hz_w13 := hb.size
    clear hb
    refine gY (g := 48) rfl rfl rfl ?_
    refine st (X.not rfl) rfl ?_
    refine st (X.pickF rfl rfl) rfl ?_
    refine Wn ?_
    refine tN ?_
    refine W_no rfl (by simp) ?_
    refine W_skip ?_
    refine tN ?_
    refine W_rs ?_
    refine st (X.ldBN rfl hB7 Try.underlying71 rfl siz71) rfl ?_
    refine st (X.ldBN (cs := (s.map bv).toArray) rfl hB4 Try.underlying36 rfl hss) rfl ?_
    replace hE := hE.bel hpend
    replace hRr := hRr.bel hpend
    replace hBu := hBu.bel hpend
    clear hpend
    refine sc _ Try.func57 rfl (by kernel_rfl) rfl rfl ((Find_any _ (makeM l).1 s _ hE hL32 hLu hs (by omega)).mono ?_)
    rintro e_ w14 ⟨rfl, hb⟩
    refine cR ?_
    have hpend := hb
    replace hbw := bthen hbw hb
    replace hB4 := hB4.bel hb
    replace hB7 := hB7.bel hb
    have hz_w14 := hb.size
    clear hb
    refine sm rfl rfl ?_
    refine st (X.ext rfl rfl) rfl ?_
    refine st (X.ext rfl rfl) rfl ?_
    have hg32 : ((findM (makeM l).1 s).getD eZ).sum.length = 32 := by
      cases hq : findM (makeM l).1 s with
      | none => rfl
      | some x => exact hL32 x (find_mem hq).1
    refine salA inf90 rfl (fun g11 w15 hB11 hg11 hb hl11 => ?_)
    replace hpend := bthen hpend hb
    replace hbw := bthen hbw hb
    replace hB4 := hB4.bel hb
    replace hB7 := hB7.bel hb
    have hz_w15 := hb.size
    clear hb
    refine ssBN rfl rfl hB11 (by rw [Ent.size hg32]; exact siz90) (by rw [Ent.size hg32]; rfl) (Ent.cells_one _) (fun w16 hB_ hc_ => ?_)
    replace hB11 := hB_
    clear hB_
    replace hpend := bset hpend hc_ (by omega)
    replace hB4 := hB4.chg hc_ (by first | (show ¬ _ = _; omega) | (intro k_ hk_; simp [Value.ownBlock] at hk_; subst hk_; show ¬ _ = _; omega))
    replace hB7 := hB7.chg hc_ (by first | (show ¬ _ = _; omega) | (intro k_ hk_; simp [Value.ownBlock] at hk_; subst hk_; show ¬ _ = _; omega))
    replace hbw := bset hbw hc_ (by omega)
    have hz_w16 := hc_.size
    clear hc_
    refine sa rfl rfl ?_
    refine Wn ?_
    refine tN ?_
    refine W_rs ?_
    refine sm rfl rfl ?_
    refine st (X.ldBN (cs := (s.map bv).toArray) rfl hB4 Try.underlying36 rfl hss) rfl ?_
    refine sc _ Try.func34 rfl (by kernel_rfl) rfl rfl ((Text_any s _ hs).mono ?_)
    rintro e_ w17 ⟨rfl, hb⟩
    refine cR ?_
    replace hpend := bthen hpend hb
    replace hbw := bthen hbw hb
    replace hB4 := hB4.bel hb
    replace hB7 := hB7.bel hb
    replace hB11 := hB11.bel hb
    have hz_w17 := hb.size
    clear hb
    replace hE := hE.bel hpend
    replace hRr := hRr.bel hpend
    replace hBu := hBu.bel hpend
    clear hpend
    refine sc _ Try.func58 rfl (by kernel_rfl) rfl rfl ((RFind_any _ (makeM l).1 s _ hRr).mono ?_)
    rintro e_ w18 ⟨rfl, hb⟩
    refine cR ?_
    have hpend := hb
    replace hbw := bthen hbw hb
    replace hB4 := hB4.bel hb
    replace hB7 := hB7.bel hb
    replace hB11 := hB11.bel hb
    have hz_w18 := hb.size
    clear hb
    refine sm rfl rfl ?_
    refine st (X.ext rfl rfl) rfl ?_
    refine st (X.ext rfl rfl) rfl ?_
    refine salA inf94 rfl (fun g13 w19 hB13 hg13 hb hl13 => ?_)
    replace hpend := bthen hpend hb
    replace hbw := bthen hbw hb
    replace hB4 := hB4.bel hb
    replace hB7 := hB7.bel hb
    replace hB11 := hB11.bel hb
    have hz_w19 := hb.size
    clear hb
    refine ssBN rfl rfl hB13 siz94 rfl (recE_all _) (fun w20 hB_ hc_ => ?_)
    replace hB13 := hB_
    clear hB_
    replace hpend := bset hpend hc_ (by omega)
    replace hB4 := hB4.chg hc_ (by first | (show ¬ _ = _; omega) | (intro k_ hk_; simp [Value.ownBlock] at hk_; subst hk_; show ¬ _ = _; omega))
    replace hB7 := hB7.chg hc_ (by first | (show ¬ _ = _; omega) | (intro k_ hk_; simp [Value.ownBlock] at hk_; subst hk_; show ¬ _ = _; omega))
    replace hB11 := hB11.chg hc_ (by first | (show ¬ _ = _; omega) | (intro k_ hk_; simp [Value.ownBlock] at hk_; subst hk_; show ¬ _ = _; omega))
    replace hbw := bset hbw hc_ (by omega)
    have hz_w20 := hc_.size
    clear hc_
    refine sa rfl rfl ?_
    refine Wn ?_
    refine tN ?_
    refine W_seq ?_
    refine W_rs ?_
    refine sm rfl rfl ?_
    refine sm rfl rfl ?_
    refine st (X.beq (c := false) (.inr ⟨rfl, by simp⟩) Try.underlying4 rfl rfl) rfl ?_
    refine sbN rfl (rfl) rfl ?_
    refine gY (g := 74) rfl rfl rfl ?_
    refine sm rfl rfl ?_
    refine gY (g := 74) rfl rfl rfl ?_
    refine sb rfl rfl (fun h76 => ?_) (fun h76 => ?_)
    · first | replace h76 := of_decide_eq_true h76 | replace h76 := of_decide_eq_false (notT h76) | replace h76 := notT h76 | skip
      obtain ⟨x, hfx⟩ := Option.isSome_iff_exists.1 h76
      have hx32 := hL32 x (find_mem hfx).1
      rw [hfx] at hB11 hB13
      refine gY (g := 76) rfl rfl rfl ?_
      refine st (X.ldBN (cs := x.cells.toArray) rfl hB11 Try.underlying90 rfl (by rw [Ent.size hx32]; exact siz90)) rfl ?_
      refine gY (g := 76) rfl rfl rfl ?_
      replace hE := hE.bel hpend
      clear hpend
      refine sbs1 rfl Try.underlying69 inf90 (Ent.size hx32) rfl (by decide) (by decide) rfl (fun g78 w21 hR78 hg78 hb => ?_)
      have hA1 : EntsAt w21 (.slice (some ⟨g78, 0, none⟩) 1 1) [x] := by have := hR78.reads; rw [← flat1 x] at this; exact this
      replace hB7 := hB7.belowAll hb
      replace hB13 := hB13.belowAll hb
      replace hB4 := hB4.belowAll hb
      replace hB11 := hB11.belowAll hb
      replace hE := hE.bel hb
      replace hbw := bthen hbw hb
      have hz97 := hb.size
      clear hb hR78
      refine gY (g := 76) rfl rfl rfl ?_
      refine st (X.ldBN (cs := (recE x).toArray) rfl hB13 Try.underlying94 rfl siz94) rfl ?_
      refine gY (g := 76) rfl rfl rfl ?_
      refine sbs1 rfl Try.underlying74 inf94 rfl rfl (by decide) (by decide) rfl (fun g80 w22 hR80 hg80 hb => ?_)
      have hpend := hb
      replace hbw := bthen hbw hb
      replace hB4 := hB4.bel hb
      replace hB7 := hB7.bel hb
      replace hB11 := hB11.bel hb
      replace hB13 := hB13.bel hb
      have hz_w22 := hb.size
      clear hb
      have hl80 := hR80.blt (by decide)
      have hR1 : REnts w22 (.slice (some ⟨g80, 0, none⟩) 1 1) [x] := by have := hR80.reads; rw [← flat1r x] at this; exact this
      refine gY (g := 76) rfl rfl rfl ?_
      replace hE := hE.bel hpend
      replace hA1 := hA1.bel hpend
      clear hpend
      refine sc _ Try.func53 rfl (by kernel_rfl) rfl rfl ((FSame_any _ _ [x] [x] _ hA1 (fun e he => by simp at he; rw [he]; exact hx32) (by simp) hR1).mono ?_)
      rintro e_ w23 ⟨rfl, hb⟩
      refine cR ?_
      have hpend := hb
      replace hbw := bthen hbw hb
      replace hB4 := hB4.bel hb
      replace hB7 := hB7.bel hb
      replace hB11 := hB11.bel hb
      replace hB13 := hB13.bel hb
      replace hR80 := hR80.bel hb
      have hz_w23 := hb.size
      clear hb
      refine gY (g := 76) rfl rfl rfl ?_
      refine st (X.not rfl) rfl ?_
      refine gY (g := 74) rfl rfl rfl ?_
      refine st (X.pickT rfl rfl) rfl ?_
      refine st (X.pickF rfl rfl) rfl ?_
      refine sbN rfl (by simp) rfl ?_
      refine gY (g := 85) rfl rfl rfl ?_
      refine sm rfl rfl ?_
      refine gY (g := 85) rfl rfl rfl ?_
      refine st (X.not rfl) rfl ?_
      refine gY (g := 85) rfl rfl rfl ?_
      refine sbN rfl (by rw [hfx]; rfl) rfl ?_
      refine gN (g := 88) rfl rfl rfl rfl ?_
      refine gN (g := 88) rfl rfl rfl rfl ?_
      refine gN (g := 88) rfl rfl rfl rfl ?_
      refine gY (g := 85) rfl rfl rfl ?_
      refine st (X.pickF rfl rfl) rfl ?_
      refine st (X.pickF rfl rfl) rfl ?_
      refine Wn ?_
      refine tN ?_
      refine W_no rfl (by simp) ?_
      refine W_skip ?_
      refine tN ?_
      refine W_seq ?_
      refine W_rs ?_
      refine sa rfl rfl ?_
      refine Wn ?_
      refine tN ?_
      refine W_block ?_
      replace hE := hE.bel hpend
      replace hA1 := hA1.bel hpend
      clear hpend
      refine W_lp (fun nw24_ lw24_ w24 => ∃ j : Nat, nw24_ = l.length - j ∧ lw24_ = ([(0, .slice a l.length cp), (7, .pointer (some ⟨g7, 0, none⟩)), (8, .int .i64 (makeM l).2), (15, .int .i64 j)] : Env) ∧ (j ≤ l.length) ∧ (EntsAt w24 (.slice am (makeM l).1.length cm) (makeM l).1) ∧ (Blk w24 g7 71 #[.slice am (makeM l).1.length cm]) ∧ (Below w.heap.size w w24)) _ ⟨_, ⟨0, rfl, rfl, by omega, hE, hB7, hbw⟩, ⟨rfl, rfl, rfl, rfl, trivial⟩⟩ ?_
      clear hE hB7 hbw
      rintro nw24_ lw24_ w24 ⟨j, rfl, rfl, hj, hE, hB7, hbw⟩
      have hz_w24 := hbw.size
      have hlt_hB7_w24 := hB7.lt
      refine W_seq ?_
      refine W_rs ?_
      refine sm rfl rfl ?_
      refine sm rfl rfl ?_
      refine st (X.lenL rfl rfl Try.underlying69) rfl ?_
      refine st (X.lss rfl rfl) rfl ?_
      refine Wn ?_
      refine tN ?_
      refine W_if rfl (fun h97 => ?_) (fun h97 => ?_)
      · first | replace h97 := of_decide_eq_true h97 | replace h97 := of_decide_eq_false (notT h97) | replace h97 := notT h97 | skip
        obtain ⟨x, hx⟩ : ∃ x, l[j]? = some x := ⟨_, List.getElem?_eq_getElem (by omega)⟩
        have hxs := h32 x (List.mem_of_getElem? hx)
        obtain ⟨g1, o1, c', hv, hg1⟩ := (h.bel hbw).some_ (by omega)
        injection hv with e1 _ e3
        subst e1 e3
        have hfound := make_found (List.mem_of_getElem? hx)
        refine W_skip ?_
        refine tN ?_
        refine W_seq ?_
        refine W_block ?_
        refine W_drsN (fun W_ => Blk W_ g7 71 #[.slice am (makeM l).1.length cm] ∧ W_.rangeAt g1 (o1 + j * 35 + 0) (x.sum.map bv)) [0, 1, 2, 3, 4, 5, 6, 7, 8, 9, 10] [true, true, true, true, true, true, false, true, true, true, true] (by kernel_rfl) (by kernel_rfl) (⟨hB7.drew, EntsAt.sum (h.bel (bdrew hbw)) h32 hx⟩) ?_
        obtain ⟨w25, hw_⟩ : ∃ w25 : World, w25 = World.drew w24 := ⟨_, rfl⟩
        rw [← hw_]
        have hb : Below w24.heap.size w24 w25 := by rw [hw_]; exact bdrew (Below.refl _ _)
        clear hw_
        have hS := hb
        have hpend := hb
        replace hbw := bthen hbw hb
        replace hB7 := hB7.bel hb
        have hz_w25 := hb.size
        clear hb
        refine oY rfl (fun W_ hW_ => (X.ldBN rfl hW_.1 Try.underlying71 rfl siz71)) rfl ?_
        refine oY rfl (fun W_ hW_ => (X.move rfl)) rfl ?_
        refine oY rfl (fun W_ hW_ => (X.move rfl)) rfl ?_
        refine oY rfl (fun W_ hW_ => (X.idxA rfl rfl Try.underlying69 siz90 rfl (by omega))) rfl ?_
        refine oY rfl (fun W_ hW_ => (X.fa fa90_0 rfl)) rfl ?_
        refine oY rfl (fun W_ hW_ => (X.ldN (cs := x.sum.map bv) rfl Try.underlying36 rfl (by rw [List.length_map, hxs]; exact siz36) hW_.2)) rfl ?_
        refine oL rfl (fun Q_ hQ_ hP_ => ?_)
        replace hE := hE.bel hpend
        clear hpend
        refine sc _ Try.func57 rfl (by kernel_rfl) rfl rfl ((Find_any _ (makeM l).1 x.sum _ hE hL32 hLu hxs (by omega)).mono ?_)
        rintro e_ w26 ⟨rfl, hb⟩
        refine cR ?_
        have hpend := hb
        replace hbw := bthen hbw hb
        replace hB7 := hB7.bel hb
        have hz_w26 := hb.size
        clear hb
        refine Wn (hQ_ _ _ (⟨hB7, EntsAt.sum (h.bel hbw) h32 hx⟩) ?_)
        clear hQ_ hP_ Q_
        refine oY rfl (fun W_ hW_ => (X.move rfl)) rfl ?_
        refine oY rfl (fun W_ hW_ => (X.ext rfl rfl)) rfl ?_
        refine oY rfl (fun W_ hW_ => (X.ext rfl rfl)) rfl ?_
        refine oY rfl (fun W_ hW_ => (X.assign rfl)) rfl ?_
        refine oN ?_
        refine nN ?_
        refine W_rs ?_
        refine sm rfl rfl ?_
        refine sm rfl rfl ?_
        refine st (X.eql rfl rfl) rfl ?_
        refine st (X.beq (c := false) (.inr ⟨rfl, by rw [hfound]; simp⟩) Try.underlying4 rfl rfl) rfl ?_
        refine Wn ?_
        refine tN ?_
        refine W_no rfl (rfl) ?_
        refine W_skip ?_
        refine bN ?_
        refine tN ?_
        refine W_reg ?_
        refine sm rfl rfl ?_
        refine st (X.add64 rfl rfl (by omega)) rfl ?_
        refine sa rfl rfl ?_
        refine Wn ?_
        replace hE := hE.bel hpend
        clear hpend
        refine tN ⟨_, _, ?_, ⟨j + 1, rfl, rfl, by omega, hE, hB7, hbw⟩, ⟨rfl, rfl, rfl, rfl, trivial⟩⟩
        omega
      · first | replace h97 := of_decide_eq_false h97 | replace h97 := of_decide_eq_true (notF h97) | replace h97 := notF h97 | skip
        refine W_exit (tE (tE (bH ?_)))
        refine tN ?_
        refine W_rs ?_
        refine sc _ Try.func44 rfl (by kernel_rfl) rfl rfl ((fawake_any _).mono ?_)
        rintro e_ w27 ⟨rfl, hb⟩
        refine cR ?_
        have hpend := hb
        replace hbw := bthen hbw hb
        replace hB7 := hB7.bel hb
        have hz_w27 := hb.size
        clear hb
        refine sa rfl rfl ?_
        refine Wn ?_
        refine tN ?_
        replace hE := hE.bel hpend
        clear hpend
        refine W_ret ?_
        exact (rT rfl rfl ⟨rfl, hbw⟩).1
    · first | replace h76 := of_decide_eq_false h76 | replace h76 := of_decide_eq_true (notF h76) | replace h76 := notF h76 | skip
      have hfx : findM (makeM l).1 s = none := by simpa using h76
      rw [hfx] at hB11
      refine gN (g := 76) rfl rfl rfl rfl ?_
      refine gN (g := 76) rfl rfl rfl rfl ?_
      refine gN (g := 76) rfl rfl rfl rfl ?_
      refine gN (g := 76) rfl rfl rfl rfl ?_
      refine gN (g := 76) rfl rfl rfl rfl ?_
      refine gN (g := 76) rfl rfl rfl rfl ?_
      refine gY (g := 74) rfl rfl rfl ?_
      refine st (X.pickF rfl rfl) rfl ?_
      refine st (X.pickF rfl rfl) rfl ?_
      refine sm rfl rfl ?_
      refine gY (g := 85) rfl rfl rfl ?_
      refine sm rfl rfl ?_
      refine gY (g := 85) rfl rfl rfl ?_
      refine st (X.not rfl) rfl ?_
      refine gY (g := 85) rfl rfl rfl ?_
      refine sbY rfl (by rw [hfx]; rfl) rfl ?_
      refine gY (g := 88) rfl rfl rfl ?_
      refine st (X.ldBN (cs := eZ.cells.toArray) rfl hB11 Try.underlying90 rfl siz90) rfl ?_
      refine gY (g := 88) rfl rfl rfl ?_
      refine st (X.bld rfl (benZ _)) rfl ?_
      refine gY (g := 88) rfl rfl rfl ?_
      refine st (X.neEnt eZ32 eZ32 rfl rfl) rfl ?_
      refine gY (g := 85) rfl rfl rfl ?_
      refine st (X.pickT rfl rfl) rfl ?_
      refine st (X.pickF rfl rfl) rfl ?_
      refine Wn ?_
      refine tN ?_
      refine W_no rfl (by simp) ?_
      refine W_skip ?_
      refine tN ?_
      refine W_seq ?_
      refine W_rs ?_
      refine sa rfl rfl ?_
      refine Wn ?_
      refine tN ?_
      refine W_block ?_
      replace hE := hE.bel hpend
      clear hpend
      refine W_lp (fun nw28_ lw28_ w28 => ∃ j : Nat, nw28_ = l.length - j ∧ lw28_ = ([(0, .slice a l.length cp), (7, .pointer (some ⟨g7, 0, none⟩)), (8, .int .i64 (makeM l).2), (15, .int .i64 j)] : Env) ∧ (j ≤ l.length) ∧ (EntsAt w28 (.slice am (makeM l).1.length cm) (makeM l).1) ∧ (Blk w28 g7 71 #[.slice am (makeM l).1.length cm]) ∧ (Below w.heap.size w w28)) _ ⟨_, ⟨0, rfl, rfl, by omega, hE, hB7, hbw⟩, ⟨rfl, rfl, rfl, rfl, trivial⟩⟩ ?_
      clear hE hB7 hbw
      rintro nw28_ lw28_ w28 ⟨j, rfl, rfl, hj, hE, hB7, hbw⟩
      have hz_w28 := hbw.size
      have hlt_hB7_w28 := hB7.lt
      refine W_seq ?_
      refine W_rs ?_
      refine sm rfl rfl ?_
      refine sm rfl rfl ?_
      refine st (X.lenL rfl rfl Try.underlying69) rfl ?_
      refine st (X.lss rfl rfl) rfl ?_
      refine Wn ?_
      refine tN ?_
      refine W_if rfl (fun h97 => ?_) (fun h97 => ?_)
      · first | replace h97 := of_decide_eq_true h97 | replace h97 := of_decide_eq_false (notT h97) | replace h97 := notT h97 | skip
        obtain ⟨x, hx⟩ : ∃ x, l[j]? = some x := ⟨_, List.getElem?_eq_getElem (by omega)⟩
        have hxs := h32 x (List.mem_of_getElem? hx)
        obtain ⟨g1, o1, c', hv, hg1⟩ := (h.bel hbw).some_ (by omega)
        injection hv with e1 _ e3
        subst e1 e3
        have hfound := make_found (List.mem_of_getElem? hx)
        refine W_skip ?_
        refine tN ?_
        refine W_seq ?_
        refine W_block ?_
        refine W_drsN (fun W_ => Blk W_ g7 71 #[.slice am (makeM l).1.length cm] ∧ W_.rangeAt g1 (o1 + j * 35 + 0) (x.sum.map bv)) [0, 1, 2, 3, 4, 5, 6, 7, 8, 9, 10] [true, true, true, true, true, true, false, true, true, true, true] (by kernel_rfl) (by kernel_rfl) (⟨hB7.drew, EntsAt.sum (h.bel (bdrew hbw)) h32 hx⟩) ?_
        obtain ⟨w29, hw_⟩ : ∃ w29 : World, w29 = World.drew w28 := ⟨_, rfl⟩
        rw [← hw_]
        have hb : Below w28.heap.size w28 w29 := by rw [hw_]; exact bdrew (Below.refl _ _)
        clear hw_
        have hS := hb
        have hpend := hb
        replace hbw := bthen hbw hb
        replace hB7 := hB7.bel hb
        have hz_w29 := hb.size
        clear hb
        refine oY rfl (fun W_ hW_ => (X.ldBN rfl hW_.1 Try.underlying71 rfl siz71)) rfl ?_
        refine oY rfl (fun W_ hW_ => (X.move rfl)) rfl ?_
        refine oY rfl (fun W_ hW_ => (X.move rfl)) rfl ?_
        refine oY rfl (fun W_ hW_ => (X.idxA rfl rfl Try.underlying69 siz90 rfl (by omega))) rfl ?_
        refine oY rfl (fun W_ hW_ => (X.fa fa90_0 rfl)) rfl ?_
        refine oY rfl (fun W_ hW_ => (X.ldN (cs := x.sum.map bv) rfl Try.underlying36 rfl (by rw [List.length_map, hxs]; exact siz36) hW_.2)) rfl ?_
        refine oL rfl (fun Q_ hQ_ hP_ => ?_)
        replace hE := hE.bel hpend
        clear hpend
        refine sc _ Try.func57 rfl (by kernel_rfl) rfl rfl ((Find_any _ (makeM l).1 x.sum _ hE hL32 hLu hxs (by omega)).mono ?_)
        rintro e_ w30 ⟨rfl, hb⟩
        refine cR ?_
        have hpend := hb
        replace hbw := bthen hbw hb
        replace hB7 := hB7.bel hb
        have hz_w30 := hb.size
        clear hb
        refine Wn (hQ_ _ _ (⟨hB7, EntsAt.sum (h.bel hbw) h32 hx⟩) ?_)
        clear hQ_ hP_ Q_
        refine oY rfl (fun W_ hW_ => (X.move rfl)) rfl ?_
        refine oY rfl (fun W_ hW_ => (X.ext rfl rfl)) rfl ?_
        refine oY rfl (fun W_ hW_ => (X.ext rfl rfl)) rfl ?_
        refine oY rfl (fun W_ hW_ => (X.assign rfl)) rfl ?_
        refine oN ?_
        refine nN ?_
        refine W_rs ?_
        refine sm rfl rfl ?_
        refine sm rfl rfl ?_
        refine st (X.eql rfl rfl) rfl ?_
        refine st (X.beq (c := false) (.inr ⟨rfl, by rw [hfound]; simp⟩) Try.underlying4 rfl rfl) rfl ?_
        refine Wn ?_
        refine tN ?_
        refine W_no rfl (rfl) ?_
        refine W_skip ?_
        refine bN ?_
        refine tN ?_
        refine W_reg ?_
        refine sm rfl rfl ?_
        refine st (X.add64 rfl rfl (by omega)) rfl ?_
        refine sa rfl rfl ?_
        refine Wn ?_
        replace hE := hE.bel hpend
        clear hpend
        refine tN ⟨_, _, ?_, ⟨j + 1, rfl, rfl, by omega, hE, hB7, hbw⟩, ⟨rfl, rfl, rfl, rfl, trivial⟩⟩
        omega
      · first | replace h97 := of_decide_eq_false h97 | replace h97 := of_decide_eq_true (notF h97) | replace h97 := notF h97 | skip
        refine W_exit (tE (tE (bH ?_)))
        refine tN ?_
        refine W_rs ?_
        refine sc _ Try.func44 rfl (by kernel_rfl) rfl rfl ((fawake_any _).mono ?_)
        rintro e_ w31 ⟨rfl, hb⟩
        refine cR ?_
        have hpend := hb
        replace hbw := bthen hbw hb
        replace hB7 := hB7.bel hb
        have hz_w31 := hb.size
        clear hb
        refine sa rfl rfl ?_
        refine Wn ?_
        refine tN ?_
        replace hE := hE.bel hpend
        clear hpend
        refine W_ret ?_
        exact (rT rfl rfl ⟨rfl, hbw⟩).1
end Go.Proofs.Ytnagmpnpgekhfaa
