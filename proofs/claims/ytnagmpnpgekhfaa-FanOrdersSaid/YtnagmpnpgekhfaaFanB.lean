/- fan: Make. fan: from, Find, Bucket. fan: Encode. fan: checked, Decode. -/
import Derived.Test.YtnagmpnpgekhfaaFanA
import Derived.Test.YtnagmpnpgekhfaaFan5
import Derived.Lib.SlBytesConst
namespace Go.Proofs.Ytnagmpnpgekhfaa
open Go.RowKit
theorem up32 : ∀ (l : List Ent), S32 l → ∃ L : List Ent32, L.map (·.1) = l
  | [], _ => ⟨[], rfl⟩
  | e :: l, h => by
    obtain ⟨L, hL⟩ := up32 l (fun x hx => h x (by simp [hx]))
    exact ⟨⟨e, h e (by simp)⟩ :: L, by rw [List.map_cons, hL]⟩
theorem SortE_any (v : Value) (l : List Ent) (w : World) (hR : Row w 90 35 v l.length (l.flatMap Ent.cells)) (h32 : S32 l) (hl : l.length ≤ 1000000) :
    Calls Try.prog 76 #[v, .func (.func 77) #[] #[]] w fun e w' => ∃ xs : List Ent, e = .returned (.tuple #[]) ∧ xs.Perm l ∧ xs.Pairwise (fun x y => ¬ y.sum < x.sum) ∧ Row w' 90 35 v xs.length (xs.flatMap Ent.cells) ∧ Chg (fun k => v.ownBlock = some k) w w' := by
  obtain ⟨L, hL⟩ := up32 l h32
  have hlen : L.length = l.length := by rw [← hL, List.length_map]
  have hfl : ∀ K : List Ent32, K.flatMap encE = (K.map (·.1)).flatMap Ent.cells := fun K => by rw [List.flatMap_map]; rfl
  refine (SortEnts_any v L w (by rw [hlen, hfl, hL]; exact hR) (by omega)).mono ?_
  rintro e w' ⟨xs, rfl, hp, hs, hR', hC⟩
  refine ⟨xs.map (·.1), rfl, ?_, ?_, ?_, hC⟩
  · rw [← hL]; exact hp.map _
  · rw [List.pairwise_map]; exact hs
  · rw [List.length_map, ← hfl]; exact hR'
theorem X.eqSumF {l : Env} {x y : Operand} {w : World} {t' ty : TypeId} {a b : List UInt8} (ha : a.length = 32) (hb : b.length = 32) (hx : ev l x = some (.agg (a.map bv).toArray)) (hy : ev l y = some (.agg (b.map bv).toArray)) : X Try.prog l (.binOp .eql 36 x y t') ty w (.bool (a == b)) w :=
  X.bin hx hy (fun c d => run_eqGuard_agg w .eql _ c d _ _ (by kernel_rfl)) (run_eql_sum a b ha hb w)
theorem make_of_up {l xs : List Ent} (hp : xs.Perm l) (hu : Up xs) (h1 : l.length ≤ 65536) (h2 : l.all fitE = true) : makeM l = (xs, 0) := by
  have hi : IsIdx xs l := ⟨hp, hu⟩
  unfold makeM
  rw [if_neg (by omega), if_neg (by rw [h2]; simp), if_pos hi.nodup, ← hi.eq]
theorem make_of_dup {l xs : List Ent} (hp : xs.Perm l) {i : Nat} {x y : Ent} (hy : xs[i]? = some y) (hx : xs[i + 1]? = some x) (he : x.sum = y.sum) (h1 : l.length ≤ 65536) (h2 : l.all fitE = true) : makeM l = ([], 16) := by
  unfold makeM
  rw [if_neg (by omega), if_neg (by rw [h2]; simp), if_neg]
  intro hn
  have hn' := ((hp.map (·.sum)).nodup_iff).2 hn
  rw [List.Nodup, List.pairwise_map, List.pairwise_iff_getElem] at hn'
  obtain ⟨q1, e1⟩ := List.getElem?_eq_some_iff.1 hy
  obtain ⟨q2, e2⟩ := List.getElem?_eq_some_iff.1 hx
  refine hn' i (i + 1) q1 q2 (by omega) ?_
  rw [e1, e2, he]
theorem make_31 {l : List Ent} (h : 65536 < l.length) : makeM l = ([], 31) := by unfold makeM; rw [if_pos h]
theorem make_1 {l : List Ent} (h : l.length ≤ 65536) (h2 : l.all fitE = false) : makeM l = ([], 1) := by unfold makeM; rw [if_neg (by omega), if_pos h2]
theorem all_atG {α : Type} {p : α → Bool} {l : List α} {j : Nat} {x : α} (h : l[j]? = some x) : (l.drop j).all p = (p x && (l.drop (j + 1)).all p) := by
  obtain ⟨hj, rfl⟩ := List.getElem?_eq_some_iff.1 h
  rw [List.drop_eq_getElem_cons hj, List.all_cons]
/-- an index and an error -/
def IdxPost (w : World) (r : List Ent × Int) (e : Ending) (w' : World) : Prop := ∃ v, e = .returned (.tuple #[.agg #[v], .int .i64 r.2]) ∧ EntsAt w' v r.1 ∧ Below w.heap.size w w'
theorem EntsAt.nil (w : World) : EntsAt w (.slice none 0 0) [] := (Row.nil w 90 35).reads
theorem idx_err {w w' : World} {r : List Ent × Int} {k : Int} (h : r = ([], k)) (hb : Below w.heap.size w w') : IdxPost w r (.returned (.tuple #[.agg #[.slice none 0 0], .int .i64 k])) w' := by
  subst h
  exact ⟨_, rfl, EntsAt.nil _, hb⟩
theorem bidx (a : Option Addr) (n c : Nat) (w : World) : (Instr.build 71 #[(0, .slice a n c)]).run Try.prog w = .ok (.agg #[.slice a n c]) w := by kernel_rfl
theorem bidx0 (w : World) : (Instr.build 71 #[]).run Try.prog w = .ok (.agg #[.slice none 0 0]) w := by kernel_rfl
theorem bs3 (a b c : Int) (w : World) : (Instr.buildSlice 140 3 #[(0, .int .i64 a), (1, .int .i64 b), (2, .int .i64 c)]).run Try.prog w = .ok (.slice (some ⟨w.heap.size, 0, none⟩) 3 3) (w.alloc (.cells #[.int .i64 a, .int .i64 b, .int .i64 c] 3)) := by kernel_rfl
theorem fitE_all (x : Ent) : [x.pack, x.pos, x.len].all fitN = fitE x := by simp [fitE, Bool.and_assoc]
theorem Ent.cell_ {e : Ent} (h : e.sum.length = 32) (i : Nat) (v : Value) (hv : [Value.int .i64 e.pack, .int .i64 e.pos, .int .i64 e.len][i]? = some v) : e.cells.toArray[32 + i]? = some v := by
  rw [List.getElem?_toArray, Ent.cells, List.getElem?_append_right (by simp [h]), ← hv]
  simp [h]
theorem Make_any (v : Value) (l : List Ent) (w : World) (h : EntsAt w v l) (h32 : S32 l) (hl : l.length ≤ 1000000) : Calls Try.prog 45 #[v] w (IdxPost w (makeM l)) := by
  obtain ⟨a, cp, rfl, hn, hcp⟩ := h.shape
  refine W_enter (args := [.slice a l.length cp]) 58 Try.func45 rfl rfl rfl ?_
  refine W_sub [(0, .slice a l.length cp)] ?_ ⟨rfl, trivial⟩
  have hbw := Below.refl w.heap.size w
  refine W_rs ?_
  refine salA inf71 rfl (fun g2 w1 hB2 hg2 hb hl2 => ?_)
  replace hbw := bthen hbw hb
  have hz_w1 := hb.size
  clear hb
  refine sa rfl rfl ?_
  refine Wn ?_
  refine tN ?_
  refine W_seq ?_
  refine W_rs ?_
  refine sm rfl rfl ?_
  refine st (X.lenL rfl rfl Try.underlying69) rfl ?_
  refine st (X.gtr rfl rfl) rfl ?_
  refine Wn ?_
  refine tN ?_
  refine W_if rfl (fun h10 => ?_) (fun h10 => ?_)
  · first | replace h10 := of_decide_eq_true h10 | replace h10 := of_decide_eq_false (notT h10) | replace h10 := notT h10 | skip
    refine W_rs ?_
    refine st (X.bld rfl (bidx0 _)) rfl ?_
    refine ssBN rfl rfl hB2 siz71 rfl rfl (fun w2 hB_ hc_ => ?_)
    replace hB2 := hB_
    clear hB_
    replace hbw := bset hbw hc_ (by omega)
    have hz_w2 := hc_.size
    clear hc_
    refine sa rfl rfl ?_
    refine Wn ?_
    refine tN ?_
    refine W_ret (tR ?_)
    exact (rCT rfl rfl hB2 Try.underlying71 rfl siz71 rfl (idx_err (make_31 (by omega)) hbw)).1
  · first | replace h10 := of_decide_eq_false h10 | replace h10 := of_decide_eq_true (notF h10) | replace h10 := notF h10 | skip
    refine W_skip ?_
    refine tN ?_
    refine W_seq ?_
    refine W_rs ?_
    refine sm rfl rfl ?_
    refine st (X.lenL rfl rfl Try.underlying69) rfl ?_
    refine sm rfl rfl ?_
    refine Wn ?_
    refine tN ?_
    refine W_block ?_
    refine W_lp (fun nw3_ lw3_ w3 => ∃ j : Nat, nw3_ = l.length - j ∧ lw3_ = ([(0, .slice a l.length cp), (2, .pointer (some ⟨g2, 0, none⟩)), (12, .slice a l.length cp), (13, .int .i64 l.length), (14, .int .i64 j)] : Env) ∧ (j ≤ l.length) ∧ (l.all fitE = (l.drop j).all fitE) ∧ (Blk w3 g2 71 #[.slice none 0 0]) ∧ (Below w.heap.size w w3)) _ ⟨_, ⟨0, rfl, rfl, by omega, rfl, hB2, hbw⟩, ⟨rfl, rfl, rfl, rfl, rfl, trivial⟩⟩ ?_
    clear hB2 hbw
    rintro nw3_ lw3_ w3 ⟨j, rfl, rfl, hj, hq, hB2, hbw⟩
    have hz_w3 := hbw.size
    have hlt_hB2_w3 := hB2.lt
    refine W_rs ?_
    refine st (X.lss rfl rfl) rfl ?_
    refine Wn ?_
    refine tN ?_
    refine W_seq ?_
    refine W_if rfl (fun h15 => ?_) (fun h15 => ?_)
    · first | replace h15 := of_decide_eq_true h15 | replace h15 := of_decide_eq_false (notT h15) | replace h15 := notT h15 | skip
      obtain ⟨x, hx⟩ : ∃ x, l[j]? = some x := ⟨_, List.getElem?_eq_getElem (by omega)⟩
      obtain ⟨g1, o1, c', hv, hg1⟩ := (h.bel hbw).some_ (by omega)
      injection hv with e1 _ e3
      subst e1 e3
      have hxs := h32 x (List.mem_of_getElem? hx)
      refine W_skip ?_
      refine tN ?_
      refine W_seq ?_
      refine W_block ?_
      refine W_rs ?_
      refine st (X.idxA rfl rfl Try.underlying69 siz90 rfl (by omega)) rfl ?_
      refine st (X.ldN (cs := x.cells) rfl Try.underlying90 rfl (by rw [Ent.cells_length hxs]; exact siz90) (EntsAt.range (h.bel hbw) h32 hx)) rfl ?_
      refine salA inf90 rfl (fun g5 w4 hB5 hg5 hb hl5 => ?_)
      replace hbw := bthen hbw hb
      replace hB2 := hB2.bel hb
      have hz_w4 := hb.size
      clear hb
      refine ssBN rfl rfl hB5 (by rw [Ent.size hxs]; exact siz90) (by rw [Ent.size hxs]; rfl) (Ent.cells_one x) (fun w5 hB_ hc_ => ?_)
      replace hB5 := hB_
      clear hB_
      replace hB2 := hB2.chg hc_ (by first | (show ¬ _ = _; omega) | (intro k_ hk_; simp [Value.ownBlock] at hk_; subst hk_; show ¬ _ = _; omega))
      replace hbw := bset hbw hc_ (by omega)
      have hz_w5 := hc_.size
      clear hc_
      refine Wn ?_
      refine tN ?_
      refine W_rs ?_
      refine st (X.fa fa90_1 rfl) rfl ?_
      refine st (X.ldB rfl hB5 Try.underlying3 rfl (Ent.cell_ hxs 0 _ rfl)) rfl ?_
      refine st (X.fa fa90_2 rfl) rfl ?_
      refine st (X.ldB rfl hB5 Try.underlying3 rfl (Ent.cell_ hxs 1 _ rfl)) rfl ?_
      refine st (X.fa fa90_3 rfl) rfl ?_
      refine st (X.ldB rfl hB5 Try.underlying3 rfl (Ent.cell_ hxs 2 _ rfl)) rfl ?_
      refine sbs (ps := [(0, .tmp 19), (1, .tmp 21), (2, .tmp 23)]) 1 rfl (bs3 _ _ _ _) (by simp [maxLen]) rfl rfl (fun g24 w6 hR24 hg24 hb => ?_)
      replace hB2 := hB2.belowAll hb
      replace hB5 := hB5.belowAll hb
      replace hbw := bthen hbw hb
      clear hb
      refine sc _ Try.func74 rfl (by kernel_rfl) rfl rfl ((May_any _ [x.pack, x.pos, x.len] _ hR24.reads).mono ?_)
      rintro e_ w7 ⟨rfl, hb⟩
      refine cR ?_
      replace hbw := bthen hbw hb
      replace hB2 := hB2.bel hb
      replace hB5 := hB5.bel hb
      have hz_w7 := hb.size
      clear hb
      refine st (X.not rfl) rfl ?_
      refine Wn ?_
      refine tN ?_
      refine W_if rfl (fun h26 => ?_) (fun h26 => ?_)
      · first | replace h26 := of_decide_eq_true h26 | replace h26 := of_decide_eq_false (notT h26) | replace h26 := notT h26 | skip
        refine W_rs ?_
        refine st (X.bld rfl (bidx0 _)) rfl ?_
        refine ssBN rfl rfl hB2 siz71 rfl rfl (fun w8 hB_ hc_ => ?_)
        replace hB2 := hB_
        clear hB_
        replace hB5 := hB5.chg hc_ (by first | (show ¬ _ = _; omega) | (intro k_ hk_; simp [Value.ownBlock] at hk_; subst hk_; show ¬ _ = _; omega))
        replace hbw := bset hbw hc_ (by omega)
        have hz_w8 := hc_.size
        clear hc_
        refine sa rfl rfl ?_
        refine Wn ?_
        refine tN ?_
        refine W_ret (bR (tR (tR (bR (tR ?_)))))
        have hfx : fitE x = false := by rw [← fitE_all]; exact h26
        exact (rCT rfl rfl hB2 Try.underlying71 rfl siz71 rfl (idx_err (make_1 (by omega) (by rw [hq, all_atG hx, hfx]; rfl)) hbw)).1
      · first | replace h26 := of_decide_eq_false h26 | replace h26 := of_decide_eq_true (notF h26) | replace h26 := notF h26 | skip
        have hfx : fitE x = true := by rw [← fitE_all]; exact h26
        refine W_skip ?_
        refine bN ?_
        refine tN ?_
        refine W_reg ?_
        refine st (X.add64 rfl rfl (by omega)) rfl ?_
        refine sm rfl rfl ?_
        refine Wn ?_
        refine tN ⟨_, _, ?_, ⟨j + 1, rfl, rfl, by omega, by rw [hq, all_atG hx, hfx]; rfl, hB2, hbw⟩, ⟨rfl, rfl, rfl, rfl, rfl, trivial⟩⟩
        omega
    · first | replace h15 := of_decide_eq_false h15 | replace h15 := of_decide_eq_true (notF h15) | replace h15 := notF h15 | skip
      obtain rfl : j = l.length := by omega
      rw [List.drop_length] at hq
      refine W_exit (tE (tE (bH ?_)))
      refine tN ?_
      refine W_rs ?_
      refine sm rfl rfl ?_
      refine sc _ Try.func75 rfl (by kernel_rfl) rfl rfl ((EntClone_any _ l _ (h.bel hbw) h32 hl).mono ?_)
      rintro e_ w9 ⟨v1, rfl, hR1, hO1, hb⟩
      refine cR ?_
      replace hbw := bthen hbw hb
      replace hB2 := hB2.bel hb
      have hz_w9 := hb.size
      clear hb
      refine sa rfl rfl ?_
      refine Wn ?_
      refine tN ?_
      refine W_rs ?_
      refine sm rfl rfl ?_
      refine sc _ Try.func76 rfl (by kernel_rfl) rfl rfl ((SortE_any v1 l _ hR1 h32 hl).mono ?_)
      rintro e_ w10 ⟨xs, rfl, hp, hs, hR, hC⟩
      refine cR ?_
      replace hB2 := hB2.chg hC (fun hk => by have := hO1 _ hk; have := hB2.lt; omega)
      replace hbw := bapp hbw hC (fun k hk => by have := hO1 _ hk; omega)
      clear hC hR1
      have hxl : xs.length = l.length := hp.length_eq
      have hx32 : S32 xs := fun e he => h32 e (hp.mem_iff.1 he)
      obtain ⟨a2, c2, rfl, hn2, hcp2⟩ := hR.shape
      refine Wn ?_
      refine tN ?_
      refine W_seq ?_
      refine W_rs ?_
      refine sm rfl rfl ?_
      refine st (X.lenL rfl rfl Try.underlying69) rfl ?_
      refine sm rfl rfl ?_
      refine Wn ?_
      refine tN ?_
      refine W_block ?_
      refine W_lp (fun nw11_ lw11_ w11 => ∃ j : Nat, nw11_ = xs.length - j ∧ lw11_ = ([(2, .pointer (some ⟨g2, 0, none⟩)), (6, .slice a2 xs.length c2), (34, .int .i64 xs.length), (35, .int .i64 j)] : Env) ∧ (j ≤ xs.length) ∧ (upB (xs.take j) = true) ∧ (Row w11 90 35 (.slice a2 xs.length c2) xs.length (xs.flatMap Ent.cells)) ∧ (Blk w11 g2 71 #[.slice none 0 0]) ∧ (Below w.heap.size w w11)) _ ⟨_, ⟨0, rfl, rfl, by omega, rfl, hR, hB2, hbw⟩, ⟨rfl, rfl, rfl, rfl, trivial⟩⟩ ?_
      clear hR hB2 hbw
      rintro nw11_ lw11_ w11 ⟨j, rfl, rfl, hj, hu, hR, hB2, hbw⟩
      have hz_w11 := hbw.size
      have hlt_hB2_w11 := hB2.lt
      refine W_rs ?_
      refine st (X.lss rfl rfl) rfl ?_
      refine Wn ?_
      refine tN ?_
      refine W_seq ?_
      refine W_if rfl (fun h36 => ?_) (fun h36 => ?_)
      · first | replace h36 := of_decide_eq_true h36 | replace h36 := of_decide_eq_false (notT h36) | replace h36 := notT h36 | skip
        obtain ⟨x, hx⟩ : ∃ x, xs[j]? = some x := ⟨_, List.getElem?_eq_getElem (by omega)⟩
        obtain ⟨g1, o1, c', hv, hg1⟩ := hR.reads.some_ (by omega)
        injection hv with e1 _ e3
        subst e1 e3
        have hxs := hx32 x (List.mem_of_getElem? hx)
        refine W_skip ?_
        refine tN ?_
        refine W_seq ?_
        refine W_block ?_
        refine W_rs ?_
        refine sm rfl rfl ?_
        refine sa rfl rfl ?_
        refine Wn ?_
        refine tN ?_
        by_cases hsp_ : 0 < j
        · obtain ⟨y, hy⟩ : ∃ y, xs[j - 1]? = some y := ⟨_, List.getElem?_eq_getElem (by omega)⟩
          have hy' : xs[j - 1 + 1]? = some x := by rw [show j - 1 + 1 = j by omega]; exact hx
          have hys := hx32 y (List.mem_of_getElem? hy)
          refine W_drsN (fun W_ => W_.rangeAt g1 (o1 + j * 35 + 0) (x.sum.map bv) ∧ W_.rangeAt g1 (o1 + (j - 1) * 35 + 0) (y.sum.map bv)) [0, 1, 2, 3, 4, 5, 6, 7, 8, 9, 10, 11, 12, 13, 14, 15] [true, true, true, true, true, true, true, true, true, true, true, true, true, true, true, true] (by kernel_rfl) (by kernel_rfl) (⟨(EntsAt.sum hR.reads hx32 hx), (EntsAt.sum hR.reads hx32 hy)⟩) ?_
          obtain ⟨w12, hw_⟩ : ∃ w12 : World, w12 = World.drew w11 := ⟨_, rfl⟩
          rw [← hw_]
          have hb : Below w11.heap.size w11 w12 := by rw [hw_]; exact bdrew (Below.refl _ _)
          clear hw_
          have hS := hb
          replace hbw := bthen hbw hb
          replace hB2 := hB2.bel hb
          replace hR := hR.bel hb
          have hz_w12 := hb.size
          clear hb
          refine oY rfl (fun W_ hW_ => (X.move rfl)) rfl ?_
          refine oY rfl (fun W_ hW_ => (X.gtr rfl rfl)) rfl ?_
          refine oY rfl (fun W_ hW_ => (X.mvB (c := true) rfl (decide_eq_true (by omega)))) rfl ?_
          refine oYg (g := 40) rfl rfl rfl rfl (fun W_ hW_ => (X.move rfl)) rfl ?_
          refine oYg (g := 40) rfl rfl rfl rfl (fun W_ hW_ => (X.move rfl)) rfl ?_
          refine oYg (g := 40) rfl rfl rfl rfl (fun W_ hW_ => (X.idxA rfl rfl Try.underlying69 siz90 rfl (by omega))) rfl ?_
          refine oYg (g := 40) rfl rfl rfl rfl (fun W_ hW_ => (X.fa fa90_0 rfl)) rfl ?_
          refine oYg (g := 40) rfl rfl rfl rfl (fun W_ hW_ => (X.ldN (cs := x.sum.map bv) rfl Try.underlying36 rfl (by rw [List.length_map, hxs]; exact siz36) hW_.1)) rfl ?_
          refine oYg (g := 40) rfl rfl rfl rfl (fun W_ hW_ => (X.move rfl)) rfl ?_
          refine oYg (g := 40) rfl rfl rfl rfl (fun W_ hW_ => (X.move rfl)) rfl ?_
          refine oYg (g := 40) rfl rfl rfl rfl (fun W_ hW_ => (X.sub rfl rfl (show IntKind.i64.wrap ((j : Int) - 1) = ((j - 1 : Nat) : Int) by rw [w64 (by omega)]; omega))) rfl ?_
          refine oYg (g := 40) rfl rfl rfl rfl (fun W_ hW_ => (X.idxA rfl rfl Try.underlying69 siz90 rfl (by omega))) rfl ?_
          refine oYg (g := 40) rfl rfl rfl rfl (fun W_ hW_ => (X.fa fa90_0 rfl)) rfl ?_
          refine oYg (g := 40) rfl rfl rfl rfl (fun W_ hW_ => (X.ldN (cs := y.sum.map bv) rfl Try.underlying36 rfl (by rw [List.length_map, hys]; exact siz36) hW_.2)) rfl ?_
          refine oYg (g := 40) rfl rfl rfl rfl (fun W_ hW_ => (X.eqSumF hxs hys rfl rfl)) rfl ?_
          refine oY rfl (fun W_ hW_ => (X.pickT rfl rfl)) rfl ?_
          refine oN ?_
          refine nN ?_
          refine W_if rfl (fun h53 => ?_) (fun h53 => ?_)
          · first | replace h53 := of_decide_eq_true h53 | replace h53 := of_decide_eq_false (notT h53) | replace h53 := notT h53 | skip
            refine W_rs ?_
            refine st (X.bld rfl (bidx0 _)) rfl ?_
            refine ssBN rfl rfl hB2 siz71 rfl rfl (fun w13 hB_ hc_ => ?_)
            replace hB2 := hB_
            clear hB_
            replace hbw := bset hbw hc_ (by omega)
            have hz_w13 := hc_.size
            clear hc_
            refine sa rfl rfl ?_
            refine Wn ?_
            refine tN ?_
            refine W_ret (bR (tR (tR (bR (tR ?_)))))
            exact (rCT rfl rfl hB2 Try.underlying71 rfl siz71 rfl (idx_err (make_of_dup hp hy hy' (eq_of_beq h53) (by omega) (hq.trans rfl)) hbw)).1
          · first | replace h53 := of_decide_eq_false h53 | replace h53 := of_decide_eq_true (notF h53) | replace h53 := notF h53 | skip
            refine W_skip ?_
            refine bN ?_
            refine tN ?_
            refine W_reg ?_
            have hne : x.sum ≠ y.sum := fun e => by rw [e] at h53; simp at h53
            have hlt : y.sum < x.sum := by
              obtain ⟨q1, e1⟩ := List.getElem?_eq_some_iff.1 hy
              obtain ⟨q2, e2⟩ := List.getElem?_eq_some_iff.1 hx
              have h3 := List.pairwise_iff_getElem.1 hs (j - 1) j q1 q2 (by omega)
              rw [e1, e2] at h3
              rcases klt_tri x.sum y.sum with k | k | k
              · exact absurd k h3
              · exact absurd k hne
              · exact k
            have hu' : upB (xs.take (j + 1)) = true := by
              have := upB_take (i := j - 1) (by rw [show j - 1 + 1 = j by omega]; exact hu) hy hy' hlt
              rwa [show j - 1 + 2 = j + 1 by omega] at this
            refine st (X.add64 rfl rfl (by omega)) rfl ?_
            refine sm rfl rfl ?_
            refine Wn ?_
            refine tN ⟨_, _, ?_, ⟨j + 1, rfl, rfl, by omega, hu', hR, hB2, hbw⟩, ⟨rfl, rfl, rfl, rfl, trivial⟩⟩
            omega
        · refine W_drsN (fun _ => True) [0, 1, 2, 3, 4, 5, 6, 7, 8, 9, 10, 11, 12, 13, 14, 15] [true, true, true, true, true, true, true, true, true, true, true, true, true, true, true, true] (by kernel_rfl) (by kernel_rfl) (trivial) ?_
          obtain ⟨w14, hw_⟩ : ∃ w14 : World, w14 = World.drew w11 := ⟨_, rfl⟩
          rw [← hw_]
          have hb : Below w11.heap.size w11 w14 := by rw [hw_]; exact bdrew (Below.refl _ _)
          clear hw_
          have hS : True := trivial
          replace hbw := bthen hbw hb
          replace hB2 := hB2.bel hb
          replace hR := hR.bel hb
          have hz_w14 := hb.size
          clear hb
          refine oY rfl (fun W_ hW_ => (X.move rfl)) rfl ?_
          refine oY rfl (fun W_ hW_ => (X.gtr rfl rfl)) rfl ?_
          refine oY rfl (fun W_ hW_ => (X.mvB (c := false) rfl (decide_eq_false (by omega)))) rfl ?_
          refine oNg (g := 40) rfl rfl rfl rfl hS rfl ?_
          refine oNg (g := 40) rfl rfl rfl rfl hS rfl ?_
          refine oNg (g := 40) rfl rfl rfl rfl hS rfl ?_
          refine oNg (g := 40) rfl rfl rfl rfl hS rfl ?_
          refine oNg (g := 40) rfl rfl rfl rfl hS rfl ?_
          refine oNg (g := 40) rfl rfl rfl rfl hS rfl ?_
          refine oNg (g := 40) rfl rfl rfl rfl hS rfl ?_
          refine oNg (g := 40) rfl rfl rfl rfl hS rfl ?_
          refine oNg (g := 40) rfl rfl rfl rfl hS rfl ?_
          refine oNg (g := 40) rfl rfl rfl rfl hS rfl ?_
          refine oNg (g := 40) rfl rfl rfl rfl hS rfl ?_
          refine oNg (g := 40) rfl rfl rfl rfl hS rfl ?_
          refine oY rfl (fun W_ hW_ => (X.pickF rfl rfl)) rfl ?_
          refine oN ?_
          refine nN ?_
          refine W_no rfl (rfl) ?_
          refine W_skip ?_
          refine bN ?_
          refine tN ?_
          refine W_reg ?_
          have hu' : upB (xs.take (j + 1)) = true := by
            obtain rfl : j = 0 := by omega
            cases xs with
            | nil => rfl
            | cons c xs => rfl
          refine st (X.add64 rfl rfl (by omega)) rfl ?_
          refine sm rfl rfl ?_
          refine Wn ?_
          refine tN ⟨_, _, ?_, ⟨j + 1, rfl, rfl, by omega, hu', hR, hB2, hbw⟩, ⟨rfl, rfl, rfl, rfl, trivial⟩⟩
          omega
      · first | replace h36 := of_decide_eq_false h36 | replace h36 := of_decide_eq_true (notF h36) | replace h36 := notF h36 | skip
        obtain rfl : j = xs.length := by omega
        rw [List.take_length] at hu
        have hm := make_of_up hp ((upB_iff _).1 hu) (by omega) (hq.trans rfl)
        refine W_exit (tE (tE (bH ?_)))
        refine tN ?_
        refine W_rs ?_
        refine sm rfl rfl ?_
        refine st (X.bld rfl (bidx _ _ _ _)) rfl ?_
        refine ssBN rfl rfl hB2 siz71 rfl rfl (fun w15 hB_ hc_ => ?_)
        replace hR := hR.chg hc_ (fun k hk e => hR.ne_ hB2 (by decide) (by rw [hk, e]))
        replace hB2 := hB_
        replace hbw := bset hbw hc_ (by omega)
        clear hB_ hc_
        refine sa rfl rfl ?_
        refine Wn ?_
        refine tN ?_
        refine W_ret ?_
        refine (rCT rfl rfl hB2 Try.underlying71 rfl siz71 rfl ?_).1
        rw [hm]
        exact ⟨_, rfl, hR.reads, hbw⟩
end Go.Proofs.Ytnagmpnpgekhfaa
namespace Go.Proofs.Ytnagmpnpgekhfaa
open Go.RowKit
section
variable {P : Program} {l : Env} {w : World} {ty t t' e : TypeId} {x y z : Operand} {k k' : IntKind} {m n' q : Int} {a : Option Addr} {n c size : Nat}
theorem X.quoE (he : m / n' = q) (hx : ev l x = some (.int .i64 m)) (hy : ev l y = some (.int .i64 n')) (h0 : 0 ≤ m) (h1 : m ≤ 9223372036854775807) (hn : 0 < n') : X P l (.binOp .quo t x y t') ty w (.int .i64 q) w := he ▸ X.quo64 hx hy h0 h1 hn
theorem X.cutL {i j : Nat} (hx : ev l x = some (.slice a n c)) (hy : ev l y = some (.int k m)) (hz : ev l z = some (.int k' n')) (hu : P.underlying t = some (.slice e)) (hi : (P.info? e).map (·.size) = some size) (hm : m = (i : Int)) (hn : n' = (j : Int)) (hij : i ≤ j) (hjc : j ≤ c) : X P l (.slice t x (some y) (some z) none) ty w (sliced a i j c size) w := fun ρ hρ => by
  subst hm hn
  have he : P.elem t = e := by unfold Program.elem; rw [hu]
  have hs : (sizeOf e).run P w = .ok size w := by
    obtain ⟨q, hq, hs⟩ := Option.map_eq_some_iff.1 hi
    simp [sizeOf, typeInfo, hq, hs]
  have := run_slice_lh (P := P) w t a n c (by rw [he]; exact hu) k k' (i : Int) (j : Int) (by omega) (by omega) (by omega)
  unfold execOp
  simp [hρ _ _ hx, hρ _ _ hy, hρ _ _ hz, Instr.sliceAt, run_underlying hu, this, he, hs, Result.andThen]
end
theorem flat_drop' {α β : Type} (f : α → List β) (k : Nat) : ∀ (l : List α), (∀ a ∈ l, (f a).length = k) → ∀ i, i ≤ l.length → (l.drop i).flatMap f = (l.flatMap f).drop (i * k)
  | _, _, 0, _ => by simp
  | [], _, i + 1, h => by simp at h
  | x :: l, hk, i + 1, h => by
    have hx := hk x (List.mem_cons_self ..)
    rw [List.drop_succ_cons, List.flatMap_cons, flat_drop' f k l (fun a ha => hk a (List.mem_cons_of_mem _ ha)) i (by simpa using h), List.drop_append, Nat.succ_mul]
    rw [List.drop_of_length_le (l := f x) (by omega), List.nil_append, hx]
    congr 1
    omega
theorem EntsAt.cut {w : World} {a : Option Addr} {c : Nat} {l : List Ent} (h : EntsAt w (.slice a l.length c) l) (h32 : S32 l) (i j : Nat) (hij : i ≤ j) (hj : j ≤ l.length) : EntsAt w (sliced a i j c 35) ((l.take j).drop i) := by
  obtain ⟨hlen, a', cap, e, h3, h4, h5⟩ := h
  injection e with e1 _ e3
  subst e1 e3
  have ht32 : S32 (l.take j) := fun q hq => h32 q (List.mem_of_mem_take hq)
  have hll : ((l.take j).drop i).length = j - i := by rw [List.length_drop, List.length_take]; omega
  have hfl : (((l.take j).drop i).flatMap Ent.cells).length = (j - i) * 35 := by
    rw [flat_length Ent.cells 35 _ (fun q hq => Ent.cells_length (ht32 q (List.mem_of_mem_drop hq))), hll]
  refine ⟨by rw [hll]; exact hfl, _, _, by rw [hll]; rfl, by rw [hll]; omega, by omega, fun hn => ?_⟩
  rw [hll] at hn
  obtain ⟨g, off, rfl, hg, hc⟩ := h5 (by omega)
  rw [if_neg (by omega)]
  refine ⟨g, off + i * 35, ?_, hg, fun q u hu => ?_⟩
  · simp [Addr.add]
  · rw [flat_drop' Ent.cells 35 (l.take j) (fun q hq => Ent.cells_length (ht32 q hq)) i (by rw [List.length_take]; omega), List.getElem?_drop] at hu
    rw [Nat.add_assoc]
    refine hc _ _ ?_
    have hi := (List.getElem?_eq_some_iff.1 hu).1
    have e : l.flatMap Ent.cells = (l.take j).flatMap Ent.cells ++ (l.drop j).flatMap Ent.cells := by rw [← List.flatMap_append, List.take_append_drop]
    rw [e, List.getElem?_append_left hi]
    exact hu
set_option maxRecDepth 10000 in
theorem from_any (v : Value) (l : List Ent) (s : List UInt8) (w : World) (h : EntsAt w v l) (h32 : S32 l) (hu : Up l) (hs : s.length = 32) (hl : l.length ≤ 1000000) :
    Calls Try.prog 86 #[.agg #[v], .agg (s.map bv).toArray] w fun e w' => e = .returned (.int .i64 (fromM l s : Nat)) ∧ Below w.heap.size w w' := by
  obtain ⟨a, cp, rfl, hn, hcp⟩ := h.shape
  have h20 : ∀ i x, l.length ≤ i → l[i]? = some x → ¬ x.sum < s := fun i x hi hx => by have := (List.getElem?_eq_some_iff.1 hx).1; omega
  have hss : (Try.prog.info? 36).map (·.size) = some (s.map bv).toArray.size := by rw [encSum_size ⟨s, hs⟩]; exact siz36
  refine W_enter (args := [.agg #[.slice a l.length cp], .agg (s.map bv).toArray]) 30 Try.func86 rfl rfl rfl ?_
  refine W_sub [(0, .agg #[.slice a l.length cp]), (1, .agg (s.map bv).toArray)] ?_ ⟨rfl, rfl, trivial⟩
  have hbw := Below.refl w.heap.size w
  refine W_rs ?_
  refine sboxA rfl rfl (fun g2 w1 hB2 hg2 hb hl2 => ?_)
  replace hbw := bthen hbw hb
  have hz_w1 := hb.size
  clear hb
  refine sboxA rfl rfl (fun g3 w2 hB3 hg3 hb hl3 => ?_)
  replace hbw := bthen hbw hb
  replace hB2 := hB2.bel hb
  have hz_w2 := hb.size
  clear hb
  refine sa rfl rfl ?_
  refine Wn ?_
  refine tN ?_
  refine W_drsN (fun W_ => Blk W_ g2 71 #[.slice a l.length cp]) [0, 1, 2, 3, 4] [true, true, true, true, true] (by kernel_rfl) (by kernel_rfl) (hB2.drew) ?_
  obtain ⟨w3, hw_⟩ : ∃ w3 : World, w3 = World.drew w2 := ⟨_, rfl⟩
  rw [← hw_]
  have hb : Below w2.heap.size w2 w3 := by rw [hw_]; exact bdrew (Below.refl _ _)
  clear hw_
  have hS := hb
  replace hbw := bthen hbw hb
  replace hB2 := hB2.bel hb
  replace hB3 := hB3.bel hb
  have hz_w3 := hb.size
  clear hb
  refine oY rfl (fun W_ hW_ => (X.fa fa71_0 rfl)) rfl ?_
  refine oY rfl (fun W_ hW_ => (X.ldB rfl hW_ Try.underlying69 rfl rfl)) rfl ?_
  refine oY rfl (fun W_ hW_ => (X.lenL rfl rfl Try.underlying69)) rfl ?_
  refine oY rfl (fun W_ hW_ => (X.assign rfl)) rfl ?_
  refine oY rfl (fun W_ hW_ => (X.assign rfl)) rfl ?_
  refine oN ?_
  refine nN ?_
  refine W_seq ?_
  refine W_block ?_
  refine W_lp (fun nw4_ lw4_ w4 => ∃ lo : Nat, ∃ hi : Nat, nw4_ = hi - lo ∧ lw4_ = ([(2, .pointer (some ⟨g2, 0, none⟩)), (3, .pointer (some ⟨g3, 0, none⟩)), (5, .int .i64 lo), (6, .int .i64 hi)] : Env) ∧ (lo ≤ hi) ∧ (hi ≤ l.length) ∧ (∀ i x, i < lo → l[i]? = some x → x.sum < s) ∧ (∀ i x, hi ≤ i → l[i]? = some x → ¬ x.sum < s) ∧ (Blk w4 g2 71 #[.slice a l.length cp]) ∧ (Blk w4 g3 36 (s.map bv).toArray) ∧ (Below w.heap.size w w4)) _ ⟨_, ⟨0, l.length, rfl, rfl, by omega, by omega, (fun i x hi => by omega), h20, hB2, hB3, hbw⟩, ⟨rfl, rfl, rfl, rfl, trivial⟩⟩ ?_
  clear hB2 hB3 hbw
  rintro nw4_ lw4_ w4 ⟨lo, hi, rfl, rfl, hlh, hhl, h1, h2, hB2, hB3, hbw⟩
  have hz_w4 := hbw.size
  have hlt_hB2_w4 := hB2.lt
  have hlt_hB3_w4 := hB3.lt
  refine W_seq ?_
  refine W_rs ?_
  refine sm rfl rfl ?_
  refine sm rfl rfl ?_
  refine st (X.lss rfl rfl) rfl ?_
  refine Wn ?_
  refine tN ?_
  refine W_if rfl (fun h13 => ?_) (fun h13 => ?_)
  · first | replace h13 := of_decide_eq_true h13 | replace h13 := of_decide_eq_false (notT h13) | replace h13 := notT h13 | skip
    obtain ⟨mid, hmid⟩ : ∃ q, (lo + hi) / 2 = q := ⟨_, rfl⟩
    obtain ⟨x, hx⟩ : ∃ x, l[mid]? = some x := ⟨_, List.getElem?_eq_getElem (by omega)⟩
    obtain ⟨g1, o1, c', hv, hg1⟩ := (h.bel hbw).some_ (by omega)
    injection hv with e1 _ e3
    subst e1 e3
    have hxs := h32 x (List.mem_of_getElem? hx)
    refine W_skip ?_
    refine tN ?_
    refine W_block ?_
    refine W_rs ?_
    refine sm rfl rfl ?_
    refine sm rfl rfl ?_
    refine st (X.add64 rfl rfl (by omega)) rfl ?_
    refine st (X.quoE (q := (mid : Int)) (by omega) rfl rfl (by omega) (by omega) (by omega)) rfl ?_
    refine sa rfl rfl ?_
    refine Wn ?_
    refine tN ?_
    refine W_still_s 7 (by kernel_rfl) (by kernel_rfl) ?_
    obtain ⟨w5, hw_⟩ : ∃ w5 : World, w5 = World.drew w4 := ⟨_, rfl⟩
    rw [← hw_]
    have hb : Below w4.heap.size w4 w5 := by rw [hw_]; exact bdrew (Below.refl _ _)
    clear hw_
    replace hbw := bthen hbw hb
    replace hB2 := hB2.bel hb
    replace hB3 := hB3.bel hb
    have hz_w5 := hb.size
    clear hb
    refine hY (X.fa fa71_0 rfl) rfl ?_
    refine hY (X.ldL rfl hB2 Try.underlying69 rfl rfl) rfl ?_
    refine hY (X.move rfl) rfl ?_
    refine hY (X.idxA rfl rfl Try.underlying69 siz90 rfl (by omega)) rfl ?_
    refine hY (X.fa fa90_0 rfl) rfl ?_
    refine hY (X.ldN (cs := x.sum.map bv) rfl Try.underlying36 rfl (by rw [List.length_map, hxs]; exact siz36) (EntsAt.sum (h.bel hbw) h32 hx)) rfl ?_
    refine hY (X.ldBN (cs := (s.map bv).toArray) rfl hB3 Try.underlying36 rfl hss) rfl ?_
    refine hN ?_
    refine sc _ Try.func59 rfl (by kernel_rfl) rfl rfl ((Less_any x.sum s hxs hs _).mono ?_)
    rintro e_ w6 ⟨rfl, hb⟩
    refine cR ?_
    replace hbw := bthen hbw hb
    replace hB2 := hB2.bel hb
    replace hB3 := hB3.bel hb
    have hz_w6 := hb.size
    clear hb
    refine Wn ?_
    refine tN ?_
    refine W_if rfl (fun h25 => ?_) (fun h25 => ?_)
    · first | replace h25 := of_decide_eq_true h25 | replace h25 := of_decide_eq_false (notT h25) | replace h25 := notT h25 | skip
      let lo' : Nat := mid + 1
      let hi' : Nat := hi
      have hlo' : lo' = mid + 1 := rfl
      have hhi' : hi' = hi := rfl
      have h1' : ∀ i y, i < lo' → l[i]? = some y → y.sum < s := fun i y hi hy => by
        rcases Nat.lt_or_ge i mid with k | k
        · exact klt_trans (hu.at_ hy hx k) h25
        · obtain rfl : i = mid := by omega
          rw [hx] at hy; injection hy with hy; rw [← hy]; exact h25
      have h2' : ∀ i y, hi' ≤ i → l[i]? = some y → ¬ y.sum < s := h2
      refine W_reg ?_
      refine sm rfl rfl ?_
      refine st (X.add64 rfl rfl (by omega)) rfl ?_
      refine sa rfl rfl ?_
      refine Wn ?_
      refine bN ?_
      refine tN ⟨_, _, ?_, ⟨lo', hi', rfl, rfl, by omega, by omega, h1', h2', hB2, hB3, hbw⟩, ⟨rfl, rfl, rfl, rfl, trivial⟩⟩
      omega
    · first | replace h25 := of_decide_eq_false h25 | replace h25 := of_decide_eq_true (notF h25) | replace h25 := notF h25 | skip
      let lo' : Nat := lo
      let hi' : Nat := mid
      have hlo' : lo' = lo := rfl
      have hhi' : hi' = mid := rfl
      have h1' : ∀ i y, i < lo' → l[i]? = some y → y.sum < s := h1
      have h2' : ∀ i y, hi' ≤ i → l[i]? = some y → ¬ y.sum < s := fun i y hi hy => by
        rcases Nat.lt_or_ge mid i with k | k
        · exact fun k2 => h25 (klt_trans (hu.at_ hx hy k) k2)
        · obtain rfl : i = mid := by omega
          rw [hx] at hy; injection hy with hy; rw [← hy]; exact h25
      refine W_reg ?_
      refine sm rfl rfl ?_
      refine sa rfl rfl ?_
      refine Wn ?_
      refine bN ?_
      refine tN ⟨_, _, ?_, ⟨lo', hi', rfl, rfl, by omega, by omega, h1', h2', hB2, hB3, hbw⟩, ⟨rfl, rfl, rfl, rfl, trivial⟩⟩
      omega
  · first | replace h13 := of_decide_eq_false h13 | replace h13 := of_decide_eq_true (notF h13) | replace h13 := notF h13 | skip
    refine W_exit (tE (tE (bH ?_)))
    refine tN ?_
    refine W_rs ?_
    refine sm rfl rfl ?_
    refine sa rfl rfl ?_
    refine Wn ?_
    refine tN ?_
    refine W_ret ?_
    obtain rfl : lo = hi := by omega
    refine (rT rfl rfl ⟨?_, hbw⟩).1
    rw [from_of hhl h1 h2]
def eZ : Ent := ⟨List.replicate 32 0, 0, 0, 0⟩
theorem benZ (w : World) : (Instr.build 90 #[]).run Try.prog w = .ok (.agg eZ.cells.toArray) w := by kernel_rfl
theorem X.neSumF {l : Env} {x y : Operand} {w : World} {t' ty : TypeId} {a b : List UInt8} (ha : a.length = 32) (hb : b.length = 32) (hx : ev l x = some (.agg (a.map bv).toArray)) (hy : ev l y = some (.agg (b.map bv).toArray)) : X Try.prog l (.binOp .neq 36 x y t') ty w (.bool (!(a == b))) w :=
  X.bin hx hy (fun c d => run_eqGuard_agg w .neq _ c d _ _ (by kernel_rfl)) (run_neq_sum a b ha hb w)
set_option maxRecDepth 10000 in
theorem Find_any (v : Value) (l : List Ent) (s : List UInt8) (w : World) (h : EntsAt w v l) (h32 : S32 l) (hu : Up l) (hs : s.length = 32) (hl : l.length ≤ 1000000) :
    Calls Try.prog 57 #[.agg #[v], .agg (s.map bv).toArray] w fun e w' => e = .returned (.tuple #[.agg ((findM l s).getD eZ).cells.toArray, .bool (findM l s).isSome]) ∧ Below w.heap.size w w' := by
  obtain ⟨a, cp, rfl, hn, hcp⟩ := h.shape
  have hz : eZ.cells.toArray.size = 35 := Ent.size (by simp [eZ])
  have hfl := (hu.cut s).2.1
  have hss : (Try.prog.info? 36).map (·.size) = some (s.map bv).toArray.size := by rw [encSum_size ⟨s, hs⟩]; exact siz36
  refine W_enter (args := [.agg #[.slice a l.length cp], .agg (s.map bv).toArray]) 31 Try.func57 rfl rfl rfl ?_
  refine W_sub [(0, .agg #[.slice a l.length cp]), (1, .agg (s.map bv).toArray)] ?_ ⟨rfl, rfl, trivial⟩
  have hbw := Below.refl w.heap.size w
  refine W_rs ?_
  refine sboxA rfl rfl (fun g2 w1 hB2 hg2 hb hl2 => ?_)
  replace hbw := bthen hbw hb
  have hz_w1 := hb.size
  clear hb
  refine sboxA rfl rfl (fun g3 w2 hB3 hg3 hb hl3 => ?_)
  replace hbw := bthen hbw hb
  replace hB2 := hB2.bel hb
  have hz_w2 := hb.size
  clear hb
  refine salA inf90 rfl (fun g4 w3 hB4 hg4 hb hl4 => ?_)
  replace hbw := bthen hbw hb
  replace hB2 := hB2.bel hb
  replace hB3 := hB3.bel hb
  have hz_w3 := hb.size
  clear hb
  refine sa rfl rfl ?_
  refine Wn ?_
  refine tN ?_
  refine W_rs ?_
  refine st (X.ldBN rfl hB2 Try.underlying71 rfl siz71) rfl ?_
  refine st (X.ldBN (cs := (s.map bv).toArray) rfl hB3 Try.underlying36 rfl hss) rfl ?_
  refine sc _ Try.func86 rfl (by kernel_rfl) rfl rfl ((from_any _ l s _ (h.bel hbw) h32 hu hs hl).mono ?_)
  rintro e_ w4 ⟨rfl, hb⟩
  refine cR ?_
  replace hbw := bthen hbw hb
  replace hB2 := hB2.bel hb
  replace hB3 := hB3.bel hb
  replace hB4 := hB4.bel hb
  have hz_w4 := hb.size
  clear hb
  refine sa rfl rfl ?_
  refine Wn ?_
  refine tN ?_
  refine W_seq ?_
  by_cases hsp_ : fromM l s = l.length
  · refine W_drsN (fun W_ => Blk W_ g2 71 #[.slice a l.length cp]) [0, 1, 2, 3, 4, 5, 6, 7, 8, 9, 10, 11, 12, 13, 14] [true, true, true, true, true, true, true, true, true, true, true, true, true, true, true] (by kernel_rfl) (by kernel_rfl) (hB2.drew) ?_
    obtain ⟨w5, hw_⟩ : ∃ w5 : World, w5 = World.drew w4 := ⟨_, rfl⟩
    rw [← hw_]
    have hb : Below w4.heap.size w4 w5 := by rw [hw_]; exact bdrew (Below.refl _ _)
    clear hw_
    have hS := hb
    replace hbw := bthen hbw hb
    replace hB2 := hB2.bel hb
    replace hB3 := hB3.bel hb
    replace hB4 := hB4.bel hb
    have hz_w5 := hb.size
    clear hb
    refine oY rfl (fun W_ hW_ => (X.move rfl)) rfl ?_
    refine oY rfl (fun W_ hW_ => (X.fa fa71_0 rfl)) rfl ?_
    refine oY rfl (fun W_ hW_ => (X.ldB rfl hW_ Try.underlying69 rfl rfl)) rfl ?_
    refine oY rfl (fun W_ hW_ => (X.lenL rfl rfl Try.underlying69)) rfl ?_
    refine oY rfl (fun W_ hW_ => (X.eql rfl rfl)) rfl ?_
    refine oY rfl (fun W_ hW_ => (X.mvB (c := true) rfl (decide_eq_true (by omega)))) rfl ?_
    refine oNg (g := 15) rfl rfl rfl rfl (hB2) rfl ?_
    refine oNg (g := 15) rfl rfl rfl rfl (hB2) rfl ?_
    refine oNg (g := 15) rfl rfl rfl rfl (hB2) rfl ?_
    refine oNg (g := 15) rfl rfl rfl rfl (hB2) rfl ?_
    refine oNg (g := 15) rfl rfl rfl rfl (hB2) rfl ?_
    refine oNg (g := 15) rfl rfl rfl rfl (hB2) rfl ?_
    refine oNg (g := 15) rfl rfl rfl rfl (hB2) rfl ?_
    refine oNg (g := 15) rfl rfl rfl rfl (hB2) rfl ?_
    refine oY rfl (fun W_ hW_ => (X.pickT rfl rfl)) rfl ?_
    refine oN ?_
    refine nN ?_
    refine W_yes rfl (rfl) ?_
    refine W_rs ?_
    refine st (X.bld rfl (benZ _)) rfl ?_
    refine ssBN rfl rfl hB4 (by rw [hz]; exact siz90) (by rw [hz]; rfl) (Ent.cells_one eZ) (fun w6 hB_ hc_ => ?_)
    replace hB4 := hB_
    clear hB_
    replace hB2 := hB2.chg hc_ (by first | (show ¬ _ = _; omega) | (intro k_ hk_; simp [Value.ownBlock] at hk_; subst hk_; show ¬ _ = _; omega))
    replace hB3 := hB3.chg hc_ (by first | (show ¬ _ = _; omega) | (intro k_ hk_; simp [Value.ownBlock] at hk_; subst hk_; show ¬ _ = _; omega))
    replace hbw := bset hbw hc_ (by omega)
    have hz_w6 := hc_.size
    clear hc_
    refine sa rfl rfl ?_
    refine Wn ?_
    refine tN ?_
    refine W_ret (tR ?_)
    refine (rCT rfl rfl hB4 Try.underlying90 rfl (by rw [hz]; exact siz90) rfl ?_).1
    rw [find_end hu (by assumption)]
    exact ⟨rfl, hbw⟩
  · obtain ⟨x, hx⟩ : ∃ x, l[fromM l s]? = some x := ⟨_, List.getElem?_eq_getElem (by omega)⟩
    obtain ⟨g1, o1, c', hv, hg1⟩ := (h.bel hbw).some_ (by omega)
    injection hv with e1 _ e3
    subst e1 e3
    have hxs := h32 x (List.mem_of_getElem? hx)
    refine W_drsN (fun W_ => Blk W_ g2 71 #[.slice (some ⟨g1, o1, none⟩) l.length cp] ∧ W_.rangeAt g1 (o1 + fromM l s * 35 + 0) (x.sum.map bv) ∧ Blk W_ g3 36 (s.map bv).toArray) [0, 1, 2, 3, 4, 5, 6, 7, 8, 9, 10, 11, 12, 13, 14] [true, true, true, true, true, true, true, true, true, true, true, true, true, true, true] (by kernel_rfl) (by kernel_rfl) (⟨hB2.drew, EntsAt.sum (h.bel hbw) h32 hx, hB3.drew⟩) ?_
    obtain ⟨w7, hw_⟩ : ∃ w7 : World, w7 = World.drew w4 := ⟨_, rfl⟩
    rw [← hw_]
    have hb : Below w4.heap.size w4 w7 := by rw [hw_]; exact bdrew (Below.refl _ _)
    clear hw_
    have hS := hb
    replace hbw := bthen hbw hb
    replace hB2 := hB2.bel hb
    replace hB3 := hB3.bel hb
    replace hB4 := hB4.bel hb
    have hz_w7 := hb.size
    clear hb
    refine oY rfl (fun W_ hW_ => (X.move rfl)) rfl ?_
    refine oY rfl (fun W_ hW_ => (X.fa fa71_0 rfl)) rfl ?_
    refine oY rfl (fun W_ hW_ => (X.ldB rfl hW_.1 Try.underlying69 rfl rfl)) rfl ?_
    refine oY rfl (fun W_ hW_ => (X.lenL rfl rfl Try.underlying69)) rfl ?_
    refine oY rfl (fun W_ hW_ => (X.eql rfl rfl)) rfl ?_
    refine oY rfl (fun W_ hW_ => (X.mvB (c := false) rfl (decide_eq_false (by omega)))) rfl ?_
    refine oYg (g := 15) rfl rfl rfl rfl (fun W_ hW_ => (X.fa fa71_0 rfl)) rfl ?_
    refine oYg (g := 15) rfl rfl rfl rfl (fun W_ hW_ => (X.ldB rfl hW_.1 Try.underlying69 rfl rfl)) rfl ?_
    refine oYg (g := 15) rfl rfl rfl rfl (fun W_ hW_ => (X.move rfl)) rfl ?_
    refine oYg (g := 15) rfl rfl rfl rfl (fun W_ hW_ => (X.idxA rfl rfl Try.underlying69 siz90 rfl (by omega))) rfl ?_
    refine oYg (g := 15) rfl rfl rfl rfl (fun W_ hW_ => (X.fa fa90_0 rfl)) rfl ?_
    refine oYg (g := 15) rfl rfl rfl rfl (fun W_ hW_ => (X.ldN (cs := x.sum.map bv) rfl Try.underlying36 rfl (by rw [List.length_map, hxs]; exact siz36) hW_.2.1)) rfl ?_
    refine oYg (g := 15) rfl rfl rfl rfl (fun W_ hW_ => (X.ldBN (cs := (s.map bv).toArray) rfl hW_.2.2 Try.underlying36 rfl hss)) rfl ?_
    refine oYg (g := 15) rfl rfl rfl rfl (fun W_ hW_ => (X.neSumF hxs hs rfl rfl)) rfl ?_
    refine oY rfl (fun W_ hW_ => (X.pickF rfl rfl)) rfl ?_
    refine oN ?_
    refine nN ?_
    refine W_if rfl (fun h24 => ?_) (fun h24 => ?_)
    · first | replace h24 := of_decide_eq_true h24 | replace h24 := of_decide_eq_false (notT h24) | replace h24 := notT h24 | skip
      refine W_rs ?_
      refine st (X.bld rfl (benZ _)) rfl ?_
      refine ssBN rfl rfl hB4 (by rw [hz]; exact siz90) (by rw [hz]; rfl) (Ent.cells_one eZ) (fun w8 hB_ hc_ => ?_)
      replace hB4 := hB_
      clear hB_
      replace hB2 := hB2.chg hc_ (by first | (show ¬ _ = _; omega) | (intro k_ hk_; simp [Value.ownBlock] at hk_; subst hk_; show ¬ _ = _; omega))
      replace hB3 := hB3.chg hc_ (by first | (show ¬ _ = _; omega) | (intro k_ hk_; simp [Value.ownBlock] at hk_; subst hk_; show ¬ _ = _; omega))
      replace hbw := bset hbw hc_ (by omega)
      have hz_w8 := hc_.size
      clear hc_
      refine sa rfl rfl ?_
      refine Wn ?_
      refine tN ?_
      refine W_ret (tR ?_)
      refine (rCT rfl rfl hB4 Try.underlying90 rfl (by rw [hz]; exact siz90) rfl ?_).1
      rw [find_at hu hx, if_neg (fun e => by rw [e] at h24; simp at h24)]
      exact ⟨rfl, hbw⟩
    · first | replace h24 := of_decide_eq_false h24 | replace h24 := of_decide_eq_true (notF h24) | replace h24 := notF h24 | skip
      refine W_skip ?_
      refine tN ?_
      refine W_rs ?_
      refine st (X.fa fa71_0 rfl) rfl ?_
      refine st (X.ldL rfl hB2 Try.underlying69 rfl rfl) rfl ?_
      refine sm rfl rfl ?_
      refine st (X.idxA rfl rfl Try.underlying69 siz90 rfl (by omega)) rfl ?_
      refine st (X.ldN (cs := x.cells) rfl Try.underlying90 rfl (by rw [Ent.cells_length hxs]; exact siz90) (EntsAt.range (h.bel hbw) h32 hx)) rfl ?_
      refine ssBN rfl rfl hB4 (by rw [Ent.size hxs]; exact siz90) (by rw [Ent.size hxs]; rfl) (Ent.cells_one x) (fun w9 hB_ hc_ => ?_)
      replace hB4 := hB_
      clear hB_
      replace hB2 := hB2.chg hc_ (by first | (show ¬ _ = _; omega) | (intro k_ hk_; simp [Value.ownBlock] at hk_; subst hk_; show ¬ _ = _; omega))
      replace hB3 := hB3.chg hc_ (by first | (show ¬ _ = _; omega) | (intro k_ hk_; simp [Value.ownBlock] at hk_; subst hk_; show ¬ _ = _; omega))
      replace hbw := bset hbw hc_ (by omega)
      have hz_w9 := hc_.size
      clear hc_
      refine sa rfl rfl ?_
      refine Wn ?_
      refine tN ?_
      refine W_ret ?_
      refine (rCT rfl rfl hB4 Try.underlying90 rfl (by rw [Ent.size hxs]; exact siz90) rfl ?_).1
      rw [find_at hu hx, if_pos (by simpa using h24)]
      exact ⟨rfl, hbw⟩
theorem bsumF (b : UInt8) (w : World) : (Instr.build 36 #[(0, bv b)]).run Try.prog w = .ok (.agg ((b :: z31).map bv).toArray) w := by kernel_rfl
theorem Bucket_any (v : Value) (l : List Ent) (b : UInt8) (w : World) (h : EntsAt w v l) (h32 : S32 l) (hu : Up l) (hl : l.length ≤ 1000000) :
    Calls Try.prog 55 #[.agg #[v], bv b] w fun e w' => ∃ v', e = .returned v' ∧ Row w' 90 35 v' (bucketM l b.toNat).length ((bucketM l b.toNat).flatMap Ent.cells) ∧ (∀ k, v'.ownBlock = some k → w.heap.size ≤ k) ∧ Below w.heap.size w w' := by
  obtain ⟨a, cp, rfl, hn, hcp⟩ := h.shape
  obtain ⟨p1, p2, p3⟩ := hu.low h32 b.toNat
  obtain ⟨q1, q2, q3⟩ := hu.low h32 (b.toNat + 1)
  have hmono := low_mono l b.toNat
  have hbt := b.toNat_lt
  have hf := from_first h32 b
  refine W_enter (args := [.agg #[.slice a l.length cp], .int .u8 b.toNat]) 27 Try.func55 rfl rfl rfl ?_
  refine W_sub [(0, .agg #[.slice a l.length cp]), (1, .int .u8 b.toNat)] ?_ ⟨rfl, rfl, trivial⟩
  have hbw := Below.refl w.heap.size w
  refine W_rs ?_
  refine sboxA rfl rfl (fun g2 w1 hB2 hg2 hb hl2 => ?_)
  replace hbw := bthen hbw hb
  have hz_w1 := hb.size
  clear hb
  refine sa rfl rfl ?_
  refine Wn ?_
  refine tN ?_
  refine W_rs ?_
  refine st (X.ldBN rfl hB2 Try.underlying71 rfl siz71) rfl ?_
  refine sm rfl rfl ?_
  refine st (X.bld rfl (bsumF b _)) rfl ?_
  refine sc _ Try.func86 rfl (by kernel_rfl) rfl rfl ((from_any _ l (b :: z31) _ (h.bel hbw) h32 hu rfl hl).mono ?_)
  rintro e_ w2 ⟨rfl, hb⟩
  refine cR ?_
  replace hbw := bthen hbw hb
  replace hB2 := hB2.bel hb
  have hz_w2 := hb.size
  clear hb
  rw [hf]
  refine sa rfl rfl ?_
  refine Wn ?_
  refine tN ?_
  refine W_rs ?_
  refine st (X.fa fa71_0 rfl) rfl ?_
  refine st (X.ldL rfl hB2 Try.underlying69 rfl rfl) rfl ?_
  refine st (X.lenL rfl rfl Try.underlying69) rfl ?_
  refine sa rfl rfl ?_
  refine Wn ?_
  refine tN ?_
  refine W_seq ?_
  refine W_rs ?_
  refine sm rfl rfl ?_
  refine st (X.lss rfl rfl) rfl ?_
  refine Wn ?_
  refine tN ?_
  refine W_if rfl (fun h15 => ?_) (fun h15 => ?_)
  · first | replace h15 := of_decide_eq_true h15 | replace h15 := of_decide_eq_false (notT h15) | replace h15 := notT h15 | skip
    refine W_reg ?_
    refine st (X.ldBN rfl hB2 Try.underlying71 rfl siz71) rfl ?_
    refine sm rfl rfl ?_
    refine st (X.add (z := ((b + 1).toNat : Int)) rfl rfl (by rw [w8, UInt8.toNat_add]; rfl)) rfl ?_
    refine st (X.bld rfl (bsumF (b + 1) _)) rfl ?_
    refine sc _ Try.func86 rfl (by kernel_rfl) rfl rfl ((from_any _ l ((b + 1) :: z31) _ (h.bel hbw) h32 hu rfl hl).mono ?_)
    rintro e_ w3 ⟨rfl, hb⟩
    refine cR ?_
    replace hbw := bthen hbw hb
    replace hB2 := hB2.bel hb
    have hz_w3 := hb.size
    clear hb
    rw [from_first h32 (b + 1), show (b + 1).toNat = b.toNat + 1 by rw [UInt8.toNat_add]; show (b.toNat + 1) % 256 = _; omega]
    refine sa rfl rfl ?_
    refine Wn ?_
    refine tN ?_
    refine W_rs ?_
    have hend : lowM l (b.toNat + 1) = lowM l (b.toNat + 1) := rfl
    refine st (X.fa fa71_0 rfl) rfl ?_
    refine st (X.ldL rfl hB2 Try.underlying69 rfl rfl) rfl ?_
    refine sm rfl rfl ?_
    refine sm rfl rfl ?_
    refine st (X.cutL rfl rfl rfl Try.underlying69 siz90 rfl rfl hmono (by omega)) rfl ?_
    refine sc _ Try.func75 rfl (by kernel_rfl) rfl rfl ((EntClone_any _ (bucketM l b.toNat) _ (by rw [bucket_eq hu h32]; exact EntsAt.cut (h.bel hbw) h32 _ _ hmono q1) (fun e he => h32 e (List.mem_filter.1 he).1) (Nat.le_trans (List.length_filter_le _ _) hl)).mono ?_)
    rintro e_ w4 ⟨v', rfl, hR, hO, hb⟩
    refine cR ?_
    replace hbw := bthen hbw hb
    replace hB2 := hB2.bel hb
    have hz_w4 := hb.size
    clear hb
    refine sa rfl rfl ?_
    refine Wn ?_
    refine tN ?_
    refine W_ret ?_
    exact (rT rfl rfl ⟨v', rfl, hR, fun k hk => by have := hO k hk; omega, hbw⟩).1
  · first | replace h15 := of_decide_eq_false h15 | replace h15 := of_decide_eq_true (notF h15) | replace h15 := notF h15 | skip
    refine W_skip ?_
    refine tN ?_
    refine W_rs ?_
    have hend : l.length = lowM l (b.toNat + 1) := (low_all l _ (by omega)).symm
    refine st (X.fa fa71_0 rfl) rfl ?_
    refine st (X.ldL rfl hB2 Try.underlying69 rfl rfl) rfl ?_
    refine sm rfl rfl ?_
    refine sm rfl rfl ?_
    refine st (X.cutL (j := lowM l (b.toNat + 1)) rfl rfl rfl Try.underlying69 siz90 rfl (by rw [← hend]) hmono (by omega)) rfl ?_
    refine sc _ Try.func75 rfl (by kernel_rfl) rfl rfl ((EntClone_any _ (bucketM l b.toNat) _ (by rw [bucket_eq hu h32]; exact EntsAt.cut (h.bel hbw) h32 _ _ hmono q1) (fun e he => h32 e (List.mem_filter.1 he).1) (Nat.le_trans (List.length_filter_le _ _) hl)).mono ?_)
    rintro e_ w5 ⟨v', rfl, hR, hO, hb⟩
    refine cR ?_
    replace hbw := bthen hbw hb
    replace hB2 := hB2.bel hb
    have hz_w5 := hb.size
    clear hb
    refine sa rfl rfl ?_
    refine Wn ?_
    refine tN ?_
    refine W_ret ?_
    exact (rT rfl rfl ⟨v', rfl, hR, fun k hk => by have := hO k hk; omega, hbw⟩).1
end Go.Proofs.Ytnagmpnpgekhfaa
namespace Go.Proofs.Ytnagmpnpgekhfaa
open Go.RowKit
section
variable {P : Program} {N : Nat} {ds : List Deferred} {Q : Post} {l : Env} {w : World} {ops : Array Oper} {rest : List Oper} {x y : Operand} {ty ty2 t e : TypeId} {pos pos2 : String} {aft aft2 : Array Edge} {d d2 : Nat} {k : IntKind} {m : Int} {v : Value}
theorem X.idxV {len j : Nat} {cs : Array Value} {d : TypeDesc} (hx : ev l x = some (.agg cs)) (hy : ev l y = some (.int k m)) (hu : P.underlying t = some (.array len e)) (hi : (P.info? e).map (·.size) = some 1) (he : P.underlying e = some d) (hd : (match d with | .struct _ | .array _ _ => false | _ => true) = true) (hm : m = (j : Int)) (hj : j < len) (hc : cs[j]? = some v) : X P l (.index t x y) ty w v w := fun ρ hρ => by
  subst hm
  have hs : (sizeOf e).run P w = .ok 1 w := by
    obtain ⟨q, hq, hs⟩ := Option.map_eq_some_iff.1 hi
    simp [sizeOf, typeInfo, hq, hs]
  have hp : (part e cs j).run P w = .ok v w := by cases d <;> simp at hd <;> simp [part, isAgg, run_underlying he, hc]
  unfold execOp
  simp [hρ _ _ hx, hρ _ _ hy, Instr.index, asIntOf, run_underlying hu, hs, hj, hp, Result.andThen]
/-- the bytes of a constant string -/
theorem sbconst {len : Nat} {ps : List (Nat × Operand)} {vs : List (Nat × Value)} {cs : Array Value} (hp : evp l ps = some vs) (hr : (Instr.buildSlice t len vs.toArray).run P w = .ok (.slice (some ⟨w.heap.size, 0, none⟩) len len) (w.alloc (.cells cs e))) (hu : P.underlying t = some (.slice e)) (he : P.underlying e = some (.int .u8)) (hn : len ≤ maxLen) (hc : cs.size = len) (hd : Nat.blt d N = true) (hd2 : Nat.blt d2 N = true)
    (h : ∀ g w', Row w' e 1 (.slice (some ⟨g, 0, none⟩) len len) len cs.toList → w.heap.size ≤ g → Below w.heap.size w w' → WL P N ds ops Q rest ((d2, .slice (some ⟨g, 0, none⟩) len len) :: (d, .slice (some ⟨g, 0, none⟩) len len) :: l) w') : WL P N ds ops Q (⟨some d, .buildSlice t len ps.toArray, ty, pos, aft, none⟩ :: ⟨some d2, .convert t t (.tmp d), ty2, pos2, aft2, none⟩ :: rest) l w := by
  refine st (w' := w.alloc (.cells cs e)) (fun ρ hρ => ?_) hd (st (w' := w.alloc (.cells cs e (cs.size, cs.size + 1))) (fun ρ hρ => ?_) hd2 (h _ _ ?_ (Nat.le_refl _) ((Below.refl _ _).alloc (Nat.le_refl _) _)))
  · unfold execOp
    have := evp_map hρ hp
    simp only [List.map_toArray, Sem.run_bind]
    rw [this, hr]
    rfl
  · unfold execOp
    have hx : ρ (.tmp d) = .slice (some ⟨w.heap.size, 0, none⟩) len len := hρ _ _ (by simp [ev, lk])
    have := Lib.run_convert_bytes_const (P := P) w t e cs len len hu he
    simp only [hx, Sem.run_bind, this, Result.andThen_ok, Sem.run_pure]
  · refine ⟨by rw [Array.length_toList, hc, Nat.mul_one], .inr ⟨w.heap.size, 0, len, cs, (cs.size, cs.size + 1), rfl, heap_alloc_new w _, Nat.le_refl _, hn, by omega, ?_, fun j hj => by simp; omega⟩⟩
    rw [List.drop_zero, Nat.mul_one, List.take_of_length_le (by rw [Array.length_toList]; omega)]
end
theorem fnumber_k (v : Value) (s : List UInt8) (k : Nat) (n : Int) (w : World) (hR : Row w 5 1 v k (s.map bv)) (hk : s.length = k) (hs : k ≤ 100000000) :
    Calls Try.prog 81 #[v, .int .i64 n] w fun e w' => ∃ v', e = .returned v' ∧ Row w' 5 1 v' (k + 4) ((s ++ four n).map bv) ∧ Chg (fun k => v.ownBlock = some k) w w' ∧ (v'.ownBlock = v.ownBlock ∨ ∃ k, v'.ownBlock = some k ∧ w.heap.size ≤ k) := by
  subst hk
  exact fnumber_any v s n w hR hs
theorem b3arr (a b c : Int) (w : World) : (Instr.build 127 #[(0, .int .i64 a), (1, .int .i64 b), (2, .int .i64 c)]).run Try.prog w = .ok (.agg #[.int .i64 a, .int .i64 b, .int .i64 c]) w := by kernel_rfl
/-- the bytes of an address within an entry -/
theorem entSrc {w : World} {g : Nat} {t tx e' : TypeId} {x : Ent} (hB : Blk w g t x.cells.toArray) (hx : x.sum.length = 32) (hk : Try.prog.underlying tx = some (.slice e')) : Src Try.prog 1 tx (.slice (some ⟨g, 0, none⟩) 32 32) 32 (x.sum.map bv) w :=
  Src.ofSlice w hk ⟨g, 0, none⟩ 32 32 (x.sum.map bv) (by simp [hx]) (fun j u hu => by
    have hj := (List.getElem?_eq_some_iff.1 hu).1
    rw [Addr.add_mid, Nat.zero_add, hB.cell, List.getElem?_toArray, Ent.cells, List.getElem?_append_left hj]
    exact hu) (by intro u hu; simp at hu; obtain ⟨q, _, rfl⟩ := hu; rfl)
def headE (l : List Ent) : List UInt8 := kindB ++ fanB l 256
theorem headE_length (l : List Ent) : (headE l).length = 1028 := by unfold headE; rw [List.length_append, fanB_length]; rfl
theorem entsB_length {l : List Ent} (h : S32 l) (j : Nat) (hj : j ≤ l.length) : (headE l ++ (l.take j).flatMap entBytes).length = 1028 + 44 * j := by
  rw [List.length_append, headE_length, flat_length entBytes 44 _ (fun e he => entBytes_length (h e (List.mem_of_mem_take he))), List.length_take, Nat.min_eq_left hj]
  omega
theorem fours_length (ns : List Int) : (ns.flatMap four).length = 4 * ns.length := by
  rw [flat_length four 4 ns (fun n _ => four_length n)]
  omega
set_option maxRecDepth 10000 in
theorem Encode_any (v : Value) (l : List Ent) (w : World) (h : EntsAt w v l) (h32 : S32 l) (hl : l.length ≤ 100000) :
    Calls Try.prog 48 #[.agg #[v]] w fun e w' => e = .returned (str (encM l)) ∧ Below w.heap.size w w' := by
  obtain ⟨a, cp, rfl, hn, hcp⟩ := h.shape
  refine W_enter (args := [.agg #[.slice a l.length cp]]) 54 Try.func48 rfl rfl rfl ?_
  refine W_sub [(0, .agg #[.slice a l.length cp])] ?_ ⟨rfl, trivial⟩
  have hbw := Below.refl w.heap.size w
  refine W_rs ?_
  refine sboxA rfl rfl (fun g1 w1 hB1 hg1 hb hl1 => ?_)
  replace hbw := bthen hbw hb
  have hz_w1 := hb.size
  clear hb
  refine sa rfl rfl ?_
  refine Wn ?_
  refine tN ?_
  refine W_rs ?_
  refine sbconst (ps := [(0, .const (.int .u8 70)), (1, .const (.int .u8 65)), (2, .const (.int .u8 78)), (3, .const (.int .u8 49))]) rfl (fbs4 70 65 78 49 _) Try.underlying81 Try.underlying5 (by simp [maxLen]) rfl rfl rfl (fun g10 w2 hR10 hg10 hb => ?_)
  replace hB1 := hB1.belowAll hb
  replace hbw := bthen hbw hb
  clear hb
  skip
  refine sa rfl rfl ?_
  refine Wn ?_
  refine tN ?_
  refine W_seq ?_
  refine W_rs ?_
  refine st (X.ldBN rfl hB1 Try.underlying71 rfl siz71) rfl ?_
  refine sc _ Try.func80 rfl (by kernel_rfl) rfl rfl ((fan_any _ l _ (h.bel hbw) h32 (by omega)).mono ?_)
  rintro e_ w3 ⟨rfl, hb⟩
  refine cR ?_
  have hpend := hb
  replace hbw := bthen hbw hb
  replace hB1 := hB1.bel hb
  have hz_w3 := hb.size
  clear hb
  refine sm rfl rfl ?_
  refine Wn ?_
  refine tN ?_
  refine W_block ?_
  replace hR10 := hR10.bel hpend
  clear hpend
  refine W_lp (fun nw4_ lw4_ w4 => ∃ k : Nat, ∃ v : Value, nw4_ = 256 - k ∧ lw4_ = ([(1, .pointer (some ⟨g1, 0, none⟩)), (3, v), (13, .agg (cntV l)), (14, .int .i64 k)] : Env) ∧ (k ≤ 256) ∧ (Row w4 5 1 v (4 + 4 * k) ((kindB ++ fanB l k).map bv)) ∧ (∀ k, v.ownBlock = some k → w.heap.size ≤ k) ∧ (Blk w4 g1 71 #[.slice a l.length cp]) ∧ (Below w.heap.size w w4)) _ ⟨_, ⟨0, .slice (some ⟨g10, 0, none⟩) 4 4, rfl, rfl, by omega, hR10, (fun k hk => by simp [Value.ownBlock] at hk; omega), hB1, hbw⟩, ⟨rfl, rfl, rfl, rfl, trivial⟩⟩ ?_
  clear hB1 hbw
  rintro nw4_ lw4_ w4 ⟨k, v, rfl, rfl, hk, hR, hO, hB1, hbw⟩
  have hz_w4 := hbw.size
  have hlt_hB1_w4 := hB1.lt
  refine W_rs ?_
  refine st (X.lss rfl rfl) rfl ?_
  refine Wn ?_
  refine tN ?_
  refine W_seq ?_
  refine W_if rfl (fun h15 => ?_) (fun h15 => ?_)
  · first | replace h15 := of_decide_eq_true h15 | replace h15 := of_decide_eq_false (notT h15) | replace h15 := notT h15 | skip
    have hcl := cnt_le l k
    refine W_skip ?_
    refine tN ?_
    refine W_seq ?_
    refine W_block ?_
    refine W_rs ?_
    refine st (X.idxV (j := k) rfl rfl Try.underlying124 siz3 Try.underlying3 rfl rfl (by omega) (cntV_at l k (by omega))) rfl ?_
    refine sa rfl rfl ?_
    refine Wn ?_
    refine tN ?_
    refine W_reg ?_
    refine sm rfl rfl ?_
    refine sm rfl rfl ?_
    refine sc _ Try.func81 rfl (by kernel_rfl) rfl rfl ((fnumber_k v (kindB ++ fanB l k) (4 + 4 * k) _ _ hR (by rw [List.length_append, fanB_length]; rfl) (by omega)).mono ?_)
    rintro e_ w5 ⟨v', rfl, hR', hC, hO2⟩
    refine cR ?_
    have hO' : ∀ k, v'.ownBlock = some k → w.heap.size ≤ k := fun k hk => by rcases hO2 with hO2 | ⟨q, hq, hO2⟩; exact hO k (by rw [← hO2]; exact hk); rw [hq] at hk; injection hk with hk; have := hbw.size; omega
    replace hB1 := hB1.chg hC (hR.ne_ hB1 (by decide))
    replace hbw := bapp hbw hC hO
    clear hC hO2 hR
    refine sa rfl rfl ?_
    refine Wn ?_
    refine bN ?_
    refine tN ?_
    refine W_reg ?_
    refine st (X.add64 rfl rfl (by omega)) rfl ?_
    refine sm rfl rfl ?_
    refine Wn ?_
    refine tN ⟨_, _, ?_, ⟨k + 1, v', rfl, rfl, by omega, by rw [fanB_succ, ← List.append_assoc]; simpa [Nat.mul_add, Nat.add_assoc] using hR', hO', hB1, hbw⟩, ⟨rfl, rfl, rfl, rfl, trivial⟩⟩
    omega
  · first | replace h15 := of_decide_eq_false h15 | replace h15 := of_decide_eq_true (notF h15) | replace h15 := notF h15 | skip
    obtain rfl : k = 256 := by omega
    rw [show kindB ++ fanB l 256 = headE l from rfl] at hR
    refine W_exit (tE (tE (bH ?_)))
    refine tN ?_
    refine W_seq ?_
    refine W_rs ?_
    refine st (X.fa fa71_0 rfl) rfl ?_
    refine st (X.ldL rfl hB1 Try.underlying69 rfl rfl) rfl ?_
    refine st (X.lenL rfl rfl Try.underlying69) rfl ?_
    refine sm rfl rfl ?_
    refine Wn ?_
    refine tN ?_
    refine W_block ?_
    refine W_lp (fun nw6_ lw6_ w6 => ∃ j : Nat, ∃ v : Value, nw6_ = l.length - j ∧ lw6_ = ([(1, .pointer (some ⟨g1, 0, none⟩)), (3, v), (22, .slice a l.length cp), (23, .int .i64 l.length), (24, .int .i64 j)] : Env) ∧ (j ≤ l.length) ∧ (Row w6 5 1 v (1028 + 44 * j) ((headE l ++ (l.take j).flatMap entBytes).map bv)) ∧ (∀ k, v.ownBlock = some k → w.heap.size ≤ k) ∧ (Below w.heap.size w w6)) _ ⟨_, ⟨0, v, rfl, rfl, by omega, (by simpa using hR), hO, hbw⟩, ⟨rfl, rfl, rfl, rfl, rfl, trivial⟩⟩ ?_
    clear hO hbw
    rintro nw6_ lw6_ w6 ⟨j, v, rfl, rfl, hj, hR, hO, hbw⟩
    have hz_w6 := hbw.size
    refine W_rs ?_
    refine st (X.lss rfl rfl) rfl ?_
    refine Wn ?_
    refine tN ?_
    refine W_seq ?_
    refine W_if rfl (fun h25 => ?_) (fun h25 => ?_)
    · first | replace h25 := of_decide_eq_true h25 | replace h25 := of_decide_eq_false (notT h25) | replace h25 := notT h25 | skip
      obtain ⟨x, hx⟩ : ∃ x, l[j]? = some x := ⟨_, List.getElem?_eq_getElem (by omega)⟩
      obtain ⟨g1', o1, c', hv, hg1'⟩ := (h.bel hbw).some_ (by omega)
      injection hv with e1 _ e3
      subst e1 e3
      have hxs := h32 x (List.mem_of_getElem? hx)
      obtain ⟨base, hbase⟩ : ∃ q, headE l ++ (l.take j).flatMap entBytes = q := ⟨_, rfl⟩
      have hbl : base.length = 1028 + 44 * j := by rw [← hbase]; exact entsB_length h32 j hj
      refine W_skip ?_
      refine tN ?_
      refine W_seq ?_
      refine W_block ?_
      refine W_rs ?_
      refine st (X.idxA rfl rfl Try.underlying69 siz90 rfl (by omega)) rfl ?_
      refine st (X.ldN (cs := x.cells) rfl Try.underlying90 rfl (by rw [Ent.cells_length hxs]; exact siz90) (EntsAt.range (h.bel hbw) h32 hx)) rfl ?_
      refine salA inf90 rfl (fun g7 w7 hB7 hg7 hb hl7 => ?_)
      have hpend := hb
      replace hbw := bthen hbw hb
      have hz_w7 := hb.size
      clear hb
      refine ssBN rfl rfl hB7 (by rw [Ent.size hxs]; exact siz90) (by rw [Ent.size hxs]; rfl) (Ent.cells_one x) (fun w8 hB_ hc_ => ?_)
      replace hB7 := hB_
      clear hB_
      replace hpend := bset hpend hc_ (by omega)
      replace hbw := bset hbw hc_ (by omega)
      have hz_w8 := hc_.size
      clear hc_
      refine Wn ?_
      refine tN ?_
      refine W_rs ?_
      refine sm rfl rfl ?_
      refine st (X.fa fa90_0 rfl) rfl ?_
      refine st (X.slArr rfl Try.underlying36 siz5) rfl ?_
      replace hR := hR.bel hpend
      clear hpend
      refine sapp rfl rfl Try.underlying81 inf5 rfl (by decide) hR (entSrc hB7 hxs Try.underlying81) (by simp only [maxLen]; omega) (by omega) rfl (fun v1 w9 hR1 hC hv1 => ?_)
      replace hB7 := hB7.chg hC (hR.ne_ hB7 (by decide))
      have hO1 := own_next hv1 hO (by omega)
      replace hbw := bapp hbw hC hO
      rw [hbase, ← List.map_append] at hR1
      clear hC hR
      refine sa rfl rfl ?_
      refine Wn ?_
      refine tN ?_
      refine W_rs ?_
      refine st (X.fa fa90_1 rfl) rfl ?_
      refine st (X.ldB rfl hB7 Try.underlying3 rfl (Ent.cell_ hxs 0 _ rfl)) rfl ?_
      refine st (X.fa fa90_2 rfl) rfl ?_
      refine st (X.ldB rfl hB7 Try.underlying3 rfl (Ent.cell_ hxs 1 _ rfl)) rfl ?_
      refine st (X.fa fa90_3 rfl) rfl ?_
      refine st (X.ldB rfl hB7 Try.underlying3 rfl (Ent.cell_ hxs 2 _ rfl)) rfl ?_
      refine st (X.bld rfl (b3arr _ _ _ _)) rfl ?_
      refine sm rfl rfl ?_
      refine Wn ?_
      refine tN ?_
      refine W_block ?_
      refine W_lp (fun nw10_ lw10_ w10 => ∃ i : Nat, ∃ v : Value, nw10_ = 3 - i ∧ lw10_ = ([(1, .pointer (some ⟨g1, 0, none⟩)), (3, v), (22, .slice (some ⟨g1', o1, none⟩) l.length cp), (23, .int .i64 l.length), (24, .int .i64 j), (38, .agg #[.int .i64 x.pack, .int .i64 x.pos, .int .i64 x.len]), (39, .int .i64 i)] : Env) ∧ (i ≤ 3) ∧ (Row w10 5 1 v (1028 + 44 * j + 32 + 4 * i) ((base ++ x.sum ++ ([x.pack, x.pos, x.len].take i).flatMap four).map bv)) ∧ (∀ k, v.ownBlock = some k → w.heap.size ≤ k) ∧ (Below w.heap.size w w10)) _ ⟨_, ⟨0, v1, rfl, rfl, by omega, (by simpa using hR1), hO1, hbw⟩, ⟨rfl, rfl, rfl, rfl, rfl, rfl, rfl, trivial⟩⟩ ?_
      clear hbw
      rintro nw10_ lw10_ w10 ⟨i, v, rfl, rfl, hi, hR, hO, hbw⟩
      have hz_w10 := hbw.size
      refine W_rs ?_
      refine st (X.lss rfl rfl) rfl ?_
      refine Wn ?_
      refine tN ?_
      refine W_seq ?_
      refine W_if rfl (fun h40 => ?_) (fun h40 => ?_)
      · first | replace h40 := of_decide_eq_true h40 | replace h40 := of_decide_eq_false (notT h40) | replace h40 := notT h40 | skip
        obtain ⟨n1, hn1⟩ : ∃ n1, [x.pack, x.pos, x.len][i]? = some n1 := ⟨_, List.getElem?_eq_getElem (by simp; omega)⟩
        have hcell : (#[Value.int .i64 x.pack, .int .i64 x.pos, .int .i64 x.len] : Array Value)[i]? = some (.int .i64 n1) := by
          have e := congrArg (Option.map (Value.int .i64)) hn1
          rw [← List.getElem?_map] at e
          rw [List.getElem?_toArray]
          exact e
        refine W_skip ?_
        refine tN ?_
        refine W_seq ?_
        refine W_block ?_
        refine W_rs ?_
        refine st (X.idxV (j := i) rfl rfl Try.underlying127 siz3 Try.underlying3 rfl rfl (by omega) hcell) rfl ?_
        refine sa rfl rfl ?_
        refine Wn ?_
        refine tN ?_
        refine W_reg ?_
        refine sm rfl rfl ?_
        refine sm rfl rfl ?_
        refine sc _ Try.func81 rfl (by kernel_rfl) rfl rfl ((fnumber_k v _ _ _ _ hR (by rw [List.length_append, List.length_append, hbl, hxs, fours_length, List.length_take, Nat.min_eq_left (by simpa using hi)]) (by omega)).mono ?_)
        rintro e_ w11 ⟨v', rfl, hR', hC, hO2⟩
        refine cR ?_
        have hO' : ∀ k, v'.ownBlock = some k → w.heap.size ≤ k := fun k hk => by rcases hO2 with hO2 | ⟨q, hq, hO2⟩; exact hO k (by rw [← hO2]; exact hk); rw [hq] at hk; injection hk with hk; have := hbw.size; omega
        replace hbw := bapp hbw hC hO
        clear hC hO2 hR
        refine sa rfl rfl ?_
        refine Wn ?_
        refine bN ?_
        refine tN ?_
        refine W_reg ?_
        refine st (X.add64 rfl rfl (by omega)) rfl ?_
        refine sm rfl rfl ?_
        refine Wn ?_
        refine tN ⟨_, _, ?_, ⟨i + 1, v', rfl, rfl, by omega, by rw [take_next' hn1, List.flatMap_append, ← List.append_assoc]; simpa [Nat.mul_add, Nat.add_assoc] using hR', hO', hbw⟩, ⟨rfl, rfl, rfl, rfl, rfl, rfl, rfl, trivial⟩⟩
        omega
      · first | replace h40 := of_decide_eq_false h40 | replace h40 := of_decide_eq_true (notF h40) | replace h40 := notF h40 | skip
        obtain rfl : i = 3 := by omega
        rw [show ([x.pack, x.pos, x.len].take 3).flatMap four = four x.pack ++ (four x.pos ++ four x.len) by simp, ← hbase] at hR
        refine W_exit (tE (tE (bH ?_)))
        refine bN ?_
        refine tN ?_
        refine W_reg ?_
        refine st (X.add64 rfl rfl (by omega)) rfl ?_
        refine sm rfl rfl ?_
        refine Wn ?_
        refine tN ⟨_, _, ?_, ⟨j + 1, v, rfl, rfl, by omega, by rw [take_next' hx, List.flatMap_append, ← List.append_assoc]; simpa [entBytes, Nat.mul_add, Nat.add_assoc] using hR, hO, hbw⟩, ⟨rfl, rfl, rfl, rfl, rfl, trivial⟩⟩
        omega
    · first | replace h25 := of_decide_eq_false h25 | replace h25 := of_decide_eq_true (notF h25) | replace h25 := notF h25 | skip
      obtain rfl : j = l.length := by omega
      rw [List.take_length, show headE l ++ l.flatMap entBytes = bodyE l from rfl] at hR
      have hbl := bodyE_length h32
      refine W_exit (tE (tE (bH ?_)))
      refine tN ?_
      refine W_rs ?_
      refine sm rfl rfl ?_
      refine sm rfl rfl ?_
      refine st (X.strOf (s := bodyE l) rfl Try.underlying81 Try.underlying5 Try.underlying9 hR.reads) rfl ?_
      refine sc _ Try.func82 rfl (by kernel_rfl) rfl rfl ((Crc_any (bodyE l) _ (by omega)).mono ?_)
      rintro e_ w12 ⟨rfl, hb⟩
      refine cR ?_
      have hpend := hb
      replace hbw := bthen hbw hb
      have hz_w12 := hb.size
      clear hb
      refine st (X.convI (z := ((Crc.crc (bodyE l)).toNat : Int)) rfl Try.underlying114 Try.underlying3 (w64 (by have := (Crc.crc (bodyE l)).toNat_lt; omega))) rfl ?_
      replace hR := hR.bel hpend
      clear hpend
      refine sc _ Try.func81 rfl (by kernel_rfl) rfl rfl ((fnumber_k v (bodyE l) _ _ _ hR hbl (by omega)).mono ?_)
      rintro e_ w13 ⟨v', rfl, hR', hC, hO2⟩
      refine cR ?_
      replace hbw := bapp hbw hC hO
      clear hC hO2 hR
      refine st (X.strOf (s := encM l) rfl Try.underlying81 Try.underlying5 Try.underlying9 hR'.reads) rfl ?_
      refine sa rfl rfl ?_
      refine Wn ?_
      refine tN ?_
      refine W_ret ?_
      exact (rT rfl rfl ⟨rfl, hbw⟩).1
end Go.Proofs.Ytnagmpnpgekhfaa
namespace Go.Proofs.Ytnagmpnpgekhfaa
open Go.RowKit
set_option maxRecDepth 10000 in
theorem checked_any (s : List UInt8) (w : World) (hs : s.length < 10000000) : Calls Try.prog 84 #[str s] w fun e w' => e = .returned (.tuple #[.int .i64 (if checkM s = 0 then (num (s.drop 1024) : Nat) else 0 : Nat), .int .i64 (checkM s)]) ∧ Below w.heap.size w w' := by
  have hnl := num_lt (s.drop 1024)
  obtain ⟨c, hc⟩ : ∃ c, checkM s = c := ⟨_, rfl⟩
  rw [hc]
  unfold checkM at hc
  refine W_enter (args := [str s]) 45 Try.func84 rfl rfl rfl ?_
  refine W_sub [(0, str s)] ?_ ⟨rfl, trivial⟩
  have hbw := Below.refl w.heap.size w
  refine W_rs ?_
  refine sa rfl rfl ?_
  refine sa rfl rfl ?_
  refine Wn ?_
  refine tN ?_
  refine W_seq ?_
  refine W_block ?_
  refine W_rs ?_
  refine sm rfl rfl ?_
  refine st (X.lenS rfl rfl Try.underlying9) rfl ?_
  refine st (X.lss rfl rfl) rfl ?_
  refine sa rfl rfl ?_
  refine Wn ?_
  refine tN ?_
  refine W_if rfl (fun h6 => ?_) (fun h6 => ?_)
  · first | replace h6 := of_decide_eq_true h6 | replace h6 := of_decide_eq_false (notT h6) | replace h6 := notT h6 | skip
    refine W_rs ?_
    refine sa rfl rfl ?_
    refine sa rfl rfl ?_
    refine Wn ?_
    refine tN ?_
    refine W_ret (bR (tR ?_))
    rw [if_pos (by omega)] at hc
    subst hc
    exact (rTT rfl rfl rfl ⟨rfl, hbw⟩).1
  · first | replace h6 := of_decide_eq_false h6 | replace h6 := of_decide_eq_true (notF h6) | replace h6 := notF h6 | skip
    refine W_rs ?_
    refine sm rfl rfl ?_
    refine st (X.toS (j := 4) rfl rfl Try.underlying9 rfl (by omega)) rfl ?_
    refine st (X.neS (b := kindB) rfl rfl) rfl ?_
    refine sa rfl rfl ?_
    refine Wn ?_
    refine tN ?_
    refine W_if rfl (fun h10 => ?_) (fun h10 => ?_)
    · first | replace h10 := of_decide_eq_true h10 | replace h10 := of_decide_eq_false (notT h10) | replace h10 := notT h10 | skip
      refine W_rs ?_
      refine sa rfl rfl ?_
      refine sa rfl rfl ?_
      refine Wn ?_
      refine tN ?_
      refine W_ret (bR (tR ?_))
      rw [if_neg (by omega), if_pos h10] at hc
      subst hc
      exact (rTT rfl rfl rfl ⟨rfl, hbw⟩).1
    · first | replace h10 := of_decide_eq_false h10 | replace h10 := of_decide_eq_true (notF h10) | replace h10 := notF h10 | skip
      rw [if_neg (by omega), if_neg h10] at hc
      refine W_skip ?_
      refine bN ?_
      refine tN ?_
      refine W_rs ?_
      refine sm rfl rfl ?_
      refine sc _ Try.func85 rfl (by kernel_rfl) rfl rfl ((fnumbered_any s 1024 _ (by omega) (by omega)).mono ?_)
      rintro e_ w1 ⟨rfl, hb⟩
      refine cR ?_
      replace hbw := bthen hbw hb
      have hz_w1 := hb.size
      clear hb
      refine sa rfl rfl ?_
      refine Wn ?_
      refine tN ?_
      refine W_rs ?_
      refine sm rfl rfl ?_
      refine st (X.mul64 rfl rfl (by omega)) rfl ?_
      refine st (X.add64 rfl rfl (by omega)) rfl ?_
      refine sa rfl rfl ?_
      refine Wn ?_
      refine tN ?_
      refine W_seq ?_
      refine W_block ?_
      refine W_rs ?_
      refine sm rfl rfl ?_
      refine st (X.gtr rfl rfl) rfl ?_
      refine sa rfl rfl ?_
      refine Wn ?_
      refine tN ?_
      refine W_if rfl (fun h19 => ?_) (fun h19 => ?_)
      · first | replace h19 := of_decide_eq_true h19 | replace h19 := of_decide_eq_false (notT h19) | replace h19 := notT h19 | skip
        refine W_rs ?_
        refine sa rfl rfl ?_
        refine sa rfl rfl ?_
        refine Wn ?_
        refine tN ?_
        refine W_ret (bR (tR ?_))
        rw [if_pos (by omega)] at hc
        subst hc
        exact (rTT rfl rfl rfl ⟨rfl, hbw⟩).1
      · first | replace h19 := of_decide_eq_false h19 | replace h19 := of_decide_eq_true (notF h19) | replace h19 := notF h19 | skip
        refine W_rs ?_
        refine sm rfl rfl ?_
        refine st (X.lenS rfl rfl Try.underlying9) rfl ?_
        refine sm rfl rfl ?_
        refine st (X.lss rfl rfl) rfl ?_
        refine sa rfl rfl ?_
        refine Wn ?_
        refine tN ?_
        refine W_if rfl (fun h22 => ?_) (fun h22 => ?_)
        · first | replace h22 := of_decide_eq_true h22 | replace h22 := of_decide_eq_false (notT h22) | replace h22 := notT h22 | skip
          refine W_rs ?_
          refine sa rfl rfl ?_
          refine sa rfl rfl ?_
          refine Wn ?_
          refine tN ?_
          refine W_ret (bR (tR ?_))
          rw [if_neg (by omega), if_pos (by omega)] at hc
          subst hc
          exact (rTT rfl rfl rfl ⟨rfl, hbw⟩).1
        · first | replace h22 := of_decide_eq_false h22 | replace h22 := of_decide_eq_true (notF h22) | replace h22 := notF h22 | skip
          refine W_rs ?_
          refine sm rfl rfl ?_
          refine st (X.lenS rfl rfl Try.underlying9) rfl ?_
          refine sm rfl rfl ?_
          refine st (X.gtr rfl rfl) rfl ?_
          refine sa rfl rfl ?_
          refine Wn ?_
          refine tN ?_
          refine W_if rfl (fun h27 => ?_) (fun h27 => ?_)
          · first | replace h27 := of_decide_eq_true h27 | replace h27 := of_decide_eq_false (notT h27) | replace h27 := notT h27 | skip
            refine W_rs ?_
            refine sa rfl rfl ?_
            refine sa rfl rfl ?_
            refine Wn ?_
            refine tN ?_
            refine W_ret (bR (tR ?_))
            rw [if_neg (by omega), if_neg (by omega), if_pos (by omega)] at hc
            subst hc
            exact (rTT rfl rfl rfl ⟨rfl, hbw⟩).1
          · first | replace h27 := of_decide_eq_false h27 | replace h27 := of_decide_eq_true (notF h27) | replace h27 := notF h27 | skip
            rw [if_neg (by omega), if_neg (by omega), if_neg (by omega)] at hc
            have hlen : s.length = 1032 + 44 * num (s.drop 1024) := by omega
            refine W_drsN (fun _ => True) [0, 1, 2, 4, 5, 6, 7, 3, 8, 9, 10, 11] [true, true, true, true, true, true, true, false, false, true, true, true] (by kernel_rfl) (by kernel_rfl) (trivial) ?_
            obtain ⟨w2, hw_⟩ : ∃ w2 : World, w2 = World.drew w1 := ⟨_, rfl⟩
            rw [← hw_]
            have hb : Below w1.heap.size w1 w2 := by rw [hw_]; exact bdrew (Below.refl _ _)
            clear hw_
            have hS : True := trivial
            replace hbw := bthen hbw hb
            have hz_w2 := hb.size
            clear hb
            refine oY rfl (fun W_ hW_ => (X.move rfl)) rfl ?_
            refine oY rfl (fun W_ hW_ => (X.move rfl)) rfl ?_
            refine oY rfl (fun W_ hW_ => (X.sub rfl rfl (show IntKind.i64.wrap (1032 + ((num (s.drop 1024) : Nat) : Int) * 44 - 4) = ((s.length - 4 : Nat) : Int) by rw [w64 (by omega)]; omega))) rfl ?_
            refine oY rfl (fun W_ hW_ => (X.move rfl)) rfl ?_
            refine oY rfl (fun W_ hW_ => (X.move rfl)) rfl ?_
            refine oY rfl (fun W_ hW_ => (X.sub rfl rfl (show IntKind.i64.wrap (1032 + ((num (s.drop 1024) : Nat) : Int) * 44 - 4) = ((s.length - 4 : Nat) : Int) by rw [w64 (by omega)]; omega))) rfl ?_
            refine oY rfl (fun W_ hW_ => (X.toS rfl rfl Try.underlying9 rfl (by omega))) rfl ?_
            refine oL rfl (fun Q_ hQ_ hP_ => ?_)
            refine sc _ Try.func85 rfl (by kernel_rfl) rfl rfl ((fnumbered_any s (s.length - 4) _ (by omega) (by omega)).mono ?_)
            rintro e_ w3 ⟨rfl, hb⟩
            refine cR ?_
            replace hbw := bthen hbw hb
            have hz_w3 := hb.size
            clear hb
            refine Wn (hQ_ _ _ trivial ?_)
            clear hQ_ hP_ Q_
            refine oL rfl (fun Q_ hQ_ hP_ => ?_)
            refine sc _ Try.func82 rfl (by kernel_rfl) rfl rfl ((Crc_any (s.take (s.length - 4)) _ (by rw [List.length_take]; omega)).mono ?_)
            rintro e_ w4 ⟨rfl, hb⟩
            refine cR ?_
            replace hbw := bthen hbw hb
            have hz_w4 := hb.size
            clear hb
            refine Wn (hQ_ _ _ trivial ?_)
            clear hQ_ hP_ Q_
            refine oY rfl (fun W_ hW_ => (X.convI (z := ((Crc.crc (s.take (s.length - 4))).toNat : Int)) rfl Try.underlying114 Try.underlying3 (w64 (by have := (Crc.crc (s.take (s.length - 4))).toNat_lt; omega)))) rfl ?_
            refine oY rfl (fun W_ hW_ => (X.neq rfl rfl)) rfl ?_
            refine oY rfl (fun W_ hW_ => (X.assign rfl)) rfl ?_
            refine oN ?_
            refine nN ?_
            refine W_if rfl (fun h32 => ?_) (fun h32 => ?_)
            · first | replace h32 := of_decide_eq_true h32 | replace h32 := of_decide_eq_false (notT h32) | replace h32 := notT h32 | skip
              refine W_rs ?_
              refine sa rfl rfl ?_
              refine sa rfl rfl ?_
              refine Wn ?_
              refine tN ?_
              refine W_ret (bR (tR ?_))
              rw [if_pos (by omega)] at hc
              subst hc
              exact (rTT rfl rfl rfl ⟨rfl, hbw⟩).1
            · first | replace h32 := of_decide_eq_false h32 | replace h32 := of_decide_eq_true (notF h32) | replace h32 := notF h32 | skip
              refine W_skip ?_
              refine bN ?_
              refine tN ?_
              refine W_rs ?_
              refine sm rfl rfl ?_
              refine sa rfl rfl ?_
              refine sa rfl rfl ?_
              refine Wn ?_
              refine tN ?_
              refine W_ret ?_
              rw [if_neg (by omega)] at hc
              subst hc
              exact (rTT rfl rfl rfl ⟨rfl, hbw⟩).1
/-- the cells of entries that have been read -/
def FilledE (cs : Array Value) (n j : Nat) (l : List Ent) : Prop := cs.size = n * 35 ∧ cs.toList.take (j * 35) = (l.take j).flatMap Ent.cells
theorem set3 (A C : List Value) (u v x : Value) (p : Nat) (hp : A.length = p) (hC : 3 ≤ C.length) : (((A ++ C).set p u).set (p + 1) v).set (p + 2) x = A ++ [u, v, x] ++ C.drop 3 := by
  subst hp
  match C, hC with
  | c0 :: c1 :: c2 :: C, _ =>
    rw [List.set_append_right _ _ (Nat.le_refl _), List.set_append_right _ _ (by omega), List.set_append_right _ _ (by omega)]
    simp
theorem FilledE.next {cs : Array Value} {n j : Nat} {l : List Ent} {x : Ent} (h : FilledE cs n j l) (hj : j < n) (hx : l[j]? = some x) (hs : x.sum.length = 32) :
    FilledE ((((cs.toList.take (j * 35) ++ x.sum.map bv ++ cs.toList.drop (j * 35 + 32)).toArray.setIfInBounds (j * 35 + 32) (.int .i64 x.pack)).setIfInBounds (j * 35 + 33) (.int .i64 x.pos)).setIfInBounds (j * 35 + 34) (.int .i64 x.len)) n (j + 1) l := by
  obtain ⟨h1, h2⟩ := h
  have hlen : cs.toList.length = n * 35 := by simpa using h1
  have hb : (j + 1) * 35 ≤ n * 35 := Nat.mul_le_mul_right 35 hj
  have e1 : (cs.toList.take (j * 35)).length = j * 35 := by rw [List.length_take]; omega
  refine ⟨by simp [hs]; omega, ?_⟩
  simp only [List.setIfInBounds_toArray]
  rw [set3 (cs.toList.take (j * 35) ++ x.sum.map bv) (cs.toList.drop (j * 35 + 32)) _ _ _ (j * 35 + 32) (by rw [List.length_append, e1, List.length_map, hs]) (by rw [List.length_drop]; omega)]
  rw [take_next' hx, List.flatMap_append, ← h2, List.append_assoc (cs.toList.take (j * 35))]
  rw [List.take_left' (by simp [hs]; omega)]
  simp [Ent.cells]
theorem filledE_sum {w : World} {g : Nat} {t : TypeId} {cs : Array Value} {n j i : Nat} {l : List Ent} {x : Ent} (hB : Blk w g t cs) (hf : FilledE cs n j l) (hl : S32 l) (hi : i < j) (hx : l[i]? = some x) : w.rangeAt g (0 + i * 35 + 0) (x.sum.map bv) := fun q v hv => by
  have hxs := hl x (List.mem_of_getElem? hx)
  have hq : q < 32 := by have := (List.getElem?_eq_some_iff.1 hv).1; simpa [hxs] using this
  have h1 := flat_at Ent.cells 35 (l.take j) i x (fun a ha => Ent.cells_length (hl a (List.mem_of_mem_take ha))) (by rw [List.getElem?_take_of_lt hi]; exact hx)
  have h2 : (x.cells)[q]? = some v := by
    unfold Ent.cells
    rw [List.getElem?_append_left (by rw [List.length_map, hxs]; exact hq)]
    exact hv
  rw [← h1, ← hf.2, List.getElem?_take, if_pos (by omega), List.getElem?_drop, List.getElem?_take] at h2
  rw [if_pos (by have : (i + 1) * 35 ≤ j * 35 := Nat.mul_le_mul_right 35 hi; omega)] at h2
  rw [hB.cell, ← Array.getElem?_toList, show 0 + i * 35 + 0 + q = i * 35 + q by omega]
  exact h2
theorem dec_check {s : List UInt8} (h : checkM s ≠ 0) : decM s = ([], checkM s) := by unfold decM; rw [if_pos h]
theorem dec_18 {s : List UInt8} (h : checkM s = 0) (h2 : upB (lE s) = false) : decM s = ([], 18) := by unfold decM; rw [if_neg (by rw [h]; simp), if_pos h2]
theorem dec_12 {s : List UInt8} (h : checkM s = 0) (h2 : upB (lE s) = true) {k : Nat} (hk : k < 256) (h3 : num (s.drop (4 + 4 * k)) ≠ cntM (lE s) k) : decM s = ([], 12) := by
  unfold decM
  rw [if_neg (by rw [h]; simp), if_neg (by rw [h2]; simp), if_neg]
  intro he
  exact h3 ((enc_iff h).1 he k hk)
theorem dec_0 {s : List UInt8} (h : checkM s = 0) (h2 : upB (lE s) = true) (h3 : fansOk s (lE s) 256) : decM s = (lE s, 0) := by
  unfold decM
  rw [if_neg (by rw [h]; simp), if_neg (by rw [h2]; simp), if_pos ((enc_iff h).2 h3)]
theorem EntsAt.chgB {w w' : World} {g o n c k : Nat} {l : List Ent} (h : EntsAt w (.slice (some ⟨g, o, none⟩) n c) l) (hc : Chg (fun q => q = k) w w') (hk : g ≠ k) : EntsAt w' (.slice (some ⟨g, o, none⟩) n c) l := by
  obtain ⟨h1, a, cap, e, h3, h4, h5⟩ := h
  refine ⟨h1, a, cap, e, h3, h4, fun h0 => ?_⟩
  obtain ⟨g', off, rfl, hg, hcl⟩ := h5 h0
  injection e with e1
  injection e1 with e1
  injection e1 with e1
  subst e1
  have := hc.size
  exact ⟨_, off, rfl, by omega, fun j u hu => (hc.cell (p := ⟨g, off + j, none⟩) hg hk).trans (hcl j u hu)⟩
set_option maxRecDepth 10000 in
set_option maxHeartbeats 1000000 in
theorem Decode_any (s : List UInt8) (w : World) (hs : s.length < 10000000) : Calls Try.prog 50 #[str s] w (IdxPost w (decM s)) := by
  refine W_enter (args := [str s]) 106 Try.func50 rfl rfl rfl ?_
  refine W_sub [(0, str s)] ?_ ⟨rfl, trivial⟩
  have hbw := Below.refl w.heap.size w
  refine W_rs ?_
  refine salA inf71 rfl (fun g2 w1 hB2 hg2 hb hl2 => ?_)
  replace hbw := bthen hbw hb
  have hz_w1 := hb.size
  clear hb
  refine sa rfl rfl ?_
  refine Wn ?_
  refine tN ?_
  refine W_rs ?_
  refine sm rfl rfl ?_
  refine sc _ Try.func84 rfl (by kernel_rfl) rfl rfl ((checked_any s _ hs).mono ?_)
  rintro e_ w2 ⟨rfl, hb⟩
  refine cR ?_
  replace hbw := bthen hbw hb
  replace hB2 := hB2.bel hb
  have hz_w2 := hb.size
  clear hb
  refine sm rfl rfl ?_
  refine st (X.ext rfl rfl) rfl ?_
  refine st (X.ext rfl rfl) rfl ?_
  refine sa rfl rfl ?_
  refine sa rfl rfl ?_
  refine Wn ?_
  refine tN ?_
  refine W_seq ?_
  refine W_rs ?_
  refine sm rfl rfl ?_
  refine st (X.neq rfl rfl) rfl ?_
  refine Wn ?_
  refine tN ?_
  refine W_if rfl (fun h17 => ?_) (fun h17 => ?_)
  · first | replace h17 := of_decide_eq_true h17 | replace h17 := of_decide_eq_false (notT h17) | replace h17 := notT h17 | skip
    refine W_rs ?_
    refine st (X.bld rfl (bidx0 _)) rfl ?_
    refine sm rfl rfl ?_
    refine ssBN rfl rfl hB2 siz71 rfl rfl (fun w3 hB_ hc_ => ?_)
    replace hB2 := hB_
    clear hB_
    replace hbw := bset hbw hc_ (by omega)
    have hz_w3 := hc_.size
    clear hc_
    refine sa rfl rfl ?_
    refine Wn ?_
    refine tN ?_
    refine W_ret (tR ?_)
    exact (rCT rfl rfl hB2 Try.underlying71 rfl siz71 rfl (idx_err (dec_check h17) hbw)).1
  · first | replace h17 := of_decide_eq_false h17 | replace h17 := of_decide_eq_true (notF h17) | replace h17 := notF h17 | skip
    have h0 : checkM s = 0 := Classical.not_not.1 h17
    rw [if_pos h0]
    obtain ⟨c1, c2, c3, c4, c5⟩ := check_ok h0
    obtain ⟨n, hn⟩ : ∃ n, num (s.drop 1024) = n := ⟨_, rfl⟩
    obtain ⟨L, hL⟩ : ∃ L, lE s = L := ⟨_, rfl⟩
    have hLl : L.length = n := by rw [← hL, ← hn]; exact entsOf_length _ _
    have hL32 : S32 L := by rw [← hL]; exact lE_S32 h0
    rw [hn]
    rw [hn] at c3 c4
    refine W_skip ?_
    refine tN ?_
    refine W_rs ?_
    refine sm rfl rfl ?_
    refine smkB rfl rfl rfl rfl Try.underlying69 inf90 (by omega) (by simp only [maxLen]; omega) rfl (fun gL w4 hLB hgL hb hlL => ?_)
    replace hB2 := hB2.belowAll hb
    replace hbw := bthen hbw hb
    clear hb
    refine st (X.bld rfl (bidx _ _ _ _)) rfl ?_
    refine salA inf71 rfl (fun g6 w5 hB6 hg6 hb hl6 => ?_)
    have hpend := hb
    replace hbw := bthen hbw hb
    replace hB2 := hB2.bel hb
    have hz_w5 := hb.size
    clear hb
    refine ssBN rfl rfl hB6 siz71 rfl rfl (fun w6 hB_ hc_ => ?_)
    replace hB6 := hB_
    clear hB_
    replace hpend := bset hpend hc_ (by omega)
    replace hB2 := hB2.chg hc_ (by first | (show ¬ _ = _; omega) | (intro k_ hk_; simp [Value.ownBlock] at hk_; subst hk_; show ¬ _ = _; omega))
    replace hbw := bset hbw hc_ (by omega)
    have hz_w6 := hc_.size
    clear hc_
    refine Wn ?_
    refine tN ?_
    refine W_seq ?_
    refine W_rs ?_
    refine st (X.fa fa71_0 rfl) rfl ?_
    refine st (X.ldL rfl hB6 Try.underlying69 rfl rfl) rfl ?_
    refine st (X.lenL rfl rfl Try.underlying69) rfl ?_
    refine sm rfl rfl ?_
    refine Wn ?_
    refine tN ?_
    refine W_block ?_
    replace hLB := hLB.bel hpend
    clear hpend
    refine W_lp (fun nw7_ lw7_ w7 => ∃ j : Nat, ∃ cs : Array Value, nw7_ = n - j ∧ lw7_ = ([(0, str s), (2, .pointer (some ⟨g2, 0, none⟩)), (6, .pointer (some ⟨g6, 0, none⟩)), (25, .int .i64 n), (26, .int .i64 j)] : Env) ∧ (j ≤ n) ∧ (Blk w7 g2 71 #[.slice none 0 0]) ∧ (Blk w7 g6 71 #[.slice (some ⟨gL, 0, none⟩) n n]) ∧ (Blk w7 gL 90 cs) ∧ (FilledE cs n j L) ∧ (upB (L.take j) = true) ∧ (Below w.heap.size w w7)) _ ⟨_, ⟨0, _, rfl, rfl, by omega, hB2, hB6, hLB, ⟨madeCells_size _ _, by simp⟩, rfl, hbw⟩, ⟨rfl, rfl, rfl, rfl, rfl, trivial⟩⟩ ?_
    clear hB2 hB6 hLB hbw
    rintro nw7_ lw7_ w7 ⟨j, cs, rfl, rfl, hj, hB2, hB6, hLB, hf, hso, hbw⟩
    have hz_w7 := hbw.size
    have hlt_hB2_w7 := hB2.lt
    have hlt_hB6_w7 := hB6.lt
    refine W_rs ?_
    refine st (X.lss rfl rfl) rfl ?_
    refine Wn ?_
    refine tN ?_
    refine W_seq ?_
    refine W_if rfl (fun h27 => ?_) (fun h27 => ?_)
    · first | replace h27 := of_decide_eq_true h27 | replace h27 := of_decide_eq_false (notT h27) | replace h27 := notT h27 | skip
      obtain ⟨x, hx⟩ : ∃ x, L[j]? = some x := ⟨_, List.getElem?_eq_getElem (by omega)⟩
      have hx' := entsOf_at (num (s.drop 1024)) (s.drop 1028) j (by omega)
      rw [show entsOf (num (s.drop 1024)) (s.drop 1028) = L from hL, hx] at hx'
      injection hx' with hx'
      have hxs := hL32 x (List.mem_of_getElem? hx)
      simp only [List.drop_drop] at hx'
      have hfs := hf.1
      refine W_skip ?_
      refine tN ?_
      refine W_seq ?_
      refine W_block ?_
      refine W_rs ?_
      refine sm rfl rfl ?_
      refine sa rfl rfl ?_
      refine Wn ?_
      refine tN ?_
      refine W_rs ?_
      refine sm rfl rfl ?_
      refine st (X.mul64 rfl rfl (by omega)) rfl ?_
      refine st (X.add rfl rfl (show IntKind.i64.wrap (1028 + (j : Int) * 44) = ((1028 + 44 * j : Nat) : Int) by rw [w64 (by omega)]; omega)) rfl ?_
      refine sa rfl rfl ?_
      refine Wn ?_
      refine tN ?_
      refine W_still_s 9 (by kernel_rfl) (by kernel_rfl) ?_
      obtain ⟨w8, hw_⟩ : ∃ w8 : World, w8 = World.drew w7 := ⟨_, rfl⟩
      rw [← hw_]
      have hb : Below w7.heap.size w7 w8 := by rw [hw_]; exact bdrew (Below.refl _ _)
      clear hw_
      replace hbw := bthen hbw hb
      replace hB2 := hB2.bel hb
      replace hB6 := hB6.bel hb
      replace hLB := hLB.bel hb
      have hz_w8 := hb.size
      clear hb
      refine hY (X.fa fa71_0 rfl) rfl ?_
      refine hY (X.ldL rfl hB6 Try.underlying69 rfl rfl) rfl ?_
      refine hY (X.move rfl) rfl ?_
      refine hY (X.idxA rfl rfl Try.underlying69 siz90 rfl (by omega)) rfl ?_
      refine hY (X.fa fa90_0 rfl) rfl ?_
      refine hY (X.slArr rfl Try.underlying36 siz5) rfl ?_
      refine hY (X.move rfl) rfl ?_
      refine hY (X.move rfl) rfl ?_
      refine hY (X.fromS (i := 1028 + 44 * j) rfl rfl Try.underlying9 rfl (by omega)) rfl ?_
      refine hN ?_
      refine scpT rfl rfl Try.underlying81 siz5 hLB (by rw [List.length_drop]; omega) (by rw [hfs]; omega) rfl (fun w9 hLB_ hc_ => ?_)
      replace hB2 := hB2.chg hc_ (by show ¬ _ = _; omega)
      replace hB6 := hB6.chg hc_ (by show ¬ _ = _; omega)
      replace hbw := bset hbw hc_ (by omega)
      have hz_c := hc_.size
      replace hLB := hLB_
      clear hLB_ hc_
      refine Wn ?_
      refine tN ?_
      refine W_drsN (fun W_ => Blk W_ g6 71 #[.slice (some ⟨gL, 0, none⟩) n n]) [0, 1, 2, 3, 4, 5, 6, 7, 8, 9, 10, 11, 13, 14, 15, 17, 18, 19, 12, 16, 20, 21, 22, 23, 24, 25, 26, 27, 28, 29] [true, true, true, true, true, true, true, true, true, true, true, true, true, true, true, true, true, true, false, false, false, true, true, false, true, true, false, true, true, false] (by kernel_rfl) (by kernel_rfl) (hB6.drew) ?_
      obtain ⟨w10, hw_⟩ : ∃ w10 : World, w10 = World.drew w9 := ⟨_, rfl⟩
      rw [← hw_]
      have hb : Below w9.heap.size w9 w10 := by rw [hw_]; exact bdrew (Below.refl _ _)
      clear hw_
      have hS := hb
      replace hbw := bthen hbw hb
      replace hB2 := hB2.bel hb
      replace hB6 := hB6.bel hb
      replace hLB := hLB.bel hb
      have hz_w10 := hb.size
      clear hb
      refine oY rfl (fun W_ hW_ => (X.fa fa71_0 rfl)) rfl ?_
      refine oY rfl (fun W_ hW_ => (X.ldB rfl hW_ Try.underlying69 rfl rfl)) rfl ?_
      refine oY rfl (fun W_ hW_ => (X.move rfl)) rfl ?_
      refine oY rfl (fun W_ hW_ => (X.fa fa71_0 rfl)) rfl ?_
      refine oY rfl (fun W_ hW_ => (X.ldB rfl hW_ Try.underlying69 rfl rfl)) rfl ?_
      refine oY rfl (fun W_ hW_ => (X.move rfl)) rfl ?_
      refine oY rfl (fun W_ hW_ => (X.fa fa71_0 rfl)) rfl ?_
      refine oY rfl (fun W_ hW_ => (X.ldB rfl hW_ Try.underlying69 rfl rfl)) rfl ?_
      refine oY rfl (fun W_ hW_ => (X.move rfl)) rfl ?_
      refine oY rfl (fun W_ hW_ => (X.move rfl)) rfl ?_
      refine oY rfl (fun W_ hW_ => (X.move rfl)) rfl ?_
      refine oY rfl (fun W_ hW_ => (X.add rfl rfl (show IntKind.i64.wrap (((1028 + 44 * j : Nat) : Int) + 32) = ((1028 + 44 * j + 32 : Nat) : Int) by rw [w64 (by omega)]; omega))) rfl ?_
      refine oY rfl (fun W_ hW_ => (X.move rfl)) rfl ?_
      refine oY rfl (fun W_ hW_ => (X.move rfl)) rfl ?_
      refine oY rfl (fun W_ hW_ => (X.add rfl rfl (show IntKind.i64.wrap (((1028 + 44 * j : Nat) : Int) + 36) = ((1028 + 44 * j + 36 : Nat) : Int) by rw [w64 (by omega)]; omega))) rfl ?_
      refine oY rfl (fun W_ hW_ => (X.move rfl)) rfl ?_
      refine oY rfl (fun W_ hW_ => (X.move rfl)) rfl ?_
      refine oY rfl (fun W_ hW_ => (X.add rfl rfl (show IntKind.i64.wrap (((1028 + 44 * j : Nat) : Int) + 40) = ((1028 + 44 * j + 40 : Nat) : Int) by rw [w64 (by omega)]; omega))) rfl ?_
      refine oL rfl (fun Q_ hQ_ hP_ => ?_)
      refine sc _ Try.func85 rfl (by kernel_rfl) rfl rfl ((fnumbered_any s (1028 + 44 * j + 32) _ (by omega) (by omega)).mono ?_)
      rintro e_ w11 ⟨rfl, hb⟩
      refine cR ?_
      replace hbw := bthen hbw hb
      replace hB2 := hB2.bel hb
      replace hB6 := hB6.bel hb
      replace hLB := hLB.bel hb
      have hz_w11 := hb.size
      clear hb
      refine Wn (hQ_ _ _ (hB6) ?_)
      clear hQ_ hP_ Q_
      refine oL rfl (fun Q_ hQ_ hP_ => ?_)
      refine sc _ Try.func85 rfl (by kernel_rfl) rfl rfl ((fnumbered_any s (1028 + 44 * j + 36) _ (by omega) (by omega)).mono ?_)
      rintro e_ w12 ⟨rfl, hb⟩
      refine cR ?_
      replace hbw := bthen hbw hb
      replace hB2 := hB2.bel hb
      replace hB6 := hB6.bel hb
      replace hLB := hLB.bel hb
      have hz_w12 := hb.size
      clear hb
      refine Wn (hQ_ _ _ (hB6) ?_)
      clear hQ_ hP_ Q_
      refine oL rfl (fun Q_ hQ_ hP_ => ?_)
      refine sc _ Try.func85 rfl (by kernel_rfl) rfl rfl ((fnumbered_any s (1028 + 44 * j + 40) _ (by omega) (by omega)).mono ?_)
      rintro e_ w13 ⟨rfl, hb⟩
      refine cR ?_
      replace hbw := bthen hbw hb
      replace hB2 := hB2.bel hb
      replace hB6 := hB6.bel hb
      replace hLB := hLB.bel hb
      have hz_w13 := hb.size
      clear hb
      refine Wn (hQ_ _ _ (hB6) ?_)
      clear hQ_ hP_ Q_
      refine oY rfl (fun W_ hW_ => (X.idxA rfl rfl Try.underlying69 siz90 rfl (by omega))) rfl ?_
      refine oY rfl (fun W_ hW_ => (X.fa fa90_1 rfl)) rfl ?_
      refine oL rfl (fun Q_ hQ_ hP_ => ?_)
      refine ssB rfl rfl hLB siz3 rfl (by rw [splice_size _ _ _ _ (by rw [List.length_take, List.length_drop]; omega) (by rw [hfs]; omega), hfs]; omega) (fun w14 hLB_ hc_ => ?_)
      replace hB2 := hB2.chg hc_ (by show ¬ _ = _; omega)
      replace hB6 := hB6.chg hc_ (by show ¬ _ = _; omega)
      replace hbw := bset hbw hc_ (by omega)
      have hz_d := hc_.size
      replace hLB := hLB_
      clear hLB_ hc_
      refine Wn (hQ_ _ _ (hB6) ?_)
      clear hQ_ hP_ Q_
      refine oY rfl (fun W_ hW_ => (X.idxA rfl rfl Try.underlying69 siz90 rfl (by omega))) rfl ?_
      refine oY rfl (fun W_ hW_ => (X.fa fa90_2 rfl)) rfl ?_
      refine oL rfl (fun Q_ hQ_ hP_ => ?_)
      refine ssB rfl rfl hLB siz3 rfl (by rw [Array.size_setIfInBounds, splice_size _ _ _ _ (by rw [List.length_take, List.length_drop]; omega) (by rw [hfs]; omega), hfs]; omega) (fun w15 hLB_ hc_ => ?_)
      replace hB2 := hB2.chg hc_ (by show ¬ _ = _; omega)
      replace hB6 := hB6.chg hc_ (by show ¬ _ = _; omega)
      replace hbw := bset hbw hc_ (by omega)
      have hz_e := hc_.size
      replace hLB := hLB_
      clear hLB_ hc_
      refine Wn (hQ_ _ _ (hB6) ?_)
      clear hQ_ hP_ Q_
      refine oY rfl (fun W_ hW_ => (X.idxA rfl rfl Try.underlying69 siz90 rfl (by omega))) rfl ?_
      refine oY rfl (fun W_ hW_ => (X.fa fa90_3 rfl)) rfl ?_
      refine oL rfl (fun Q_ hQ_ hP_ => ?_)
      refine ssB rfl rfl hLB siz3 rfl (by rw [Array.size_setIfInBounds, Array.size_setIfInBounds, splice_size _ _ _ _ (by rw [List.length_take, List.length_drop]; omega) (by rw [hfs]; omega), hfs]; omega) (fun w16 hLB_ hc_ => ?_)
      replace hB2 := hB2.chg hc_ (by show ¬ _ = _; omega)
      replace hB6 := hB6.chg hc_ (by show ¬ _ = _; omega)
      replace hbw := bset hbw hc_ (by omega)
      have hz_f := hc_.size
      replace hLB := hLB_
      clear hLB_ hc_
      replace hf := hf.next (by omega) hx hxs
      have hx1 : x.sum = (s.drop (1028 + 44 * j)).take 32 := by rw [hx']
      have hx2 : x.pack = num (s.drop (1028 + 44 * j + 32)) := by rw [hx', Nat.add_assoc]
      have hx3 : x.pos = num (s.drop (1028 + 44 * j + 36)) := by rw [hx', Nat.add_assoc]
      have hx4 : x.len = num (s.drop (1028 + 44 * j + 40)) := by rw [hx', Nat.add_assoc]
      rw [hx1, hx2, hx3, hx4] at hf
      simp only [Nat.zero_add, Nat.add_zero, Nat.add_assoc] at hLB hf
      refine Wn (hQ_ _ _ (hB6) ?_)
      clear hQ_ hP_ Q_
      refine oN ?_
      refine nN ?_
      by_cases hsp_ : 0 < j
      · obtain ⟨y, hy⟩ : ∃ y, L[j - 1]? = some y := ⟨_, List.getElem?_eq_getElem (by omega)⟩
        have hy' : L[j - 1 + 1]? = some x := by rw [show j - 1 + 1 = j by omega]; exact hx
        have hys := hL32 y (List.mem_of_getElem? hy)
        refine W_drsN (fun W_ => Blk W_ g6 71 #[.slice (some ⟨gL, 0, none⟩) n n] ∧ ∃ cx, Blk W_ gL 90 cx ∧ FilledE cx n (j + 1) L) [0, 1, 2, 3, 4, 5, 6, 7, 8, 9, 10, 11, 12, 13, 14, 15, 16, 17, 18] [true, true, true, true, true, true, true, true, true, true, true, true, true, true, true, true, false, true, true] (by kernel_rfl) (by kernel_rfl) (⟨hB6.drew, _, hLB.drew, hf⟩) ?_
        obtain ⟨w17, hw_⟩ : ∃ w17 : World, w17 = World.drew w16 := ⟨_, rfl⟩
        rw [← hw_]
        have hb : Below w16.heap.size w16 w17 := by rw [hw_]; exact bdrew (Below.refl _ _)
        clear hw_
        have hS := hb
        replace hbw := bthen hbw hb
        replace hB2 := hB2.bel hb
        replace hB6 := hB6.bel hb
        replace hLB := hLB.bel hb
        have hz_w17 := hb.size
        clear hb
        refine oY rfl (fun W_ hW_ => (X.move rfl)) rfl ?_
        refine oY rfl (fun W_ hW_ => (X.gtr rfl rfl)) rfl ?_
        refine oY rfl (fun W_ hW_ => (X.mvB (c := true) rfl (decide_eq_true (by omega)))) rfl ?_
        refine oYg (g := 71) rfl rfl rfl rfl (fun W_ hW_ => (X.fa fa71_0 rfl)) rfl ?_
        refine oYg (g := 71) rfl rfl rfl rfl (fun W_ hW_ => (X.ldB rfl hW_.1 Try.underlying69 rfl rfl)) rfl ?_
        refine oYg (g := 71) rfl rfl rfl rfl (fun W_ hW_ => (X.move rfl)) rfl ?_
        refine oYg (g := 71) rfl rfl rfl rfl (fun W_ hW_ => (X.sub rfl rfl (show IntKind.i64.wrap ((j : Int) - 1) = ((j - 1 : Nat) : Int) by rw [w64 (by omega)]; omega))) rfl ?_
        refine oYg (g := 71) rfl rfl rfl rfl (fun W_ hW_ => (X.idxA rfl rfl Try.underlying69 siz90 rfl (by omega))) rfl ?_
        refine oYg (g := 71) rfl rfl rfl rfl (fun W_ hW_ => (X.fa fa90_0 rfl)) rfl ?_
        refine oYg (g := 71) rfl rfl rfl rfl (fun W_ hW_ => (X.ldN (cs := y.sum.map bv) rfl Try.underlying36 rfl (by rw [List.length_map, hys]; exact siz36) (by obtain ⟨_, cx, h1, h2⟩ := hW_; exact filledE_sum h1 h2 hL32 (by omega) hy))) rfl ?_
        refine oYg (g := 71) rfl rfl rfl rfl (fun W_ hW_ => (X.fa fa71_0 rfl)) rfl ?_
        refine oYg (g := 71) rfl rfl rfl rfl (fun W_ hW_ => (X.ldB rfl hW_.1 Try.underlying69 rfl rfl)) rfl ?_
        refine oYg (g := 71) rfl rfl rfl rfl (fun W_ hW_ => (X.move rfl)) rfl ?_
        refine oYg (g := 71) rfl rfl rfl rfl (fun W_ hW_ => (X.idxA rfl rfl Try.underlying69 siz90 rfl (by omega))) rfl ?_
        refine oYg (g := 71) rfl rfl rfl rfl (fun W_ hW_ => (X.fa fa90_0 rfl)) rfl ?_
        refine oYg (g := 71) rfl rfl rfl rfl (fun W_ hW_ => (X.ldN (cs := x.sum.map bv) rfl Try.underlying36 rfl (by rw [List.length_map, hxs]; exact siz36) (by obtain ⟨_, cx, h1, h2⟩ := hW_; exact filledE_sum h1 h2 hL32 (by omega) hx))) rfl ?_
        refine oL rfl (fun Q_ hQ_ hP_ => ?_)
        refine gY (g := 71) rfl rfl rfl ?_
        refine sc _ Try.func59 rfl (by kernel_rfl) rfl rfl ((Less_any y.sum x.sum hys hxs _).mono ?_)
        rintro e_ w18 ⟨rfl, hb⟩
        refine cR ?_
        replace hbw := bthen hbw hb
        replace hB2 := hB2.bel hb
        replace hB6 := hB6.bel hb
        replace hLB := hLB.bel hb
        have hz_w18 := hb.size
        clear hb
        refine Wn (hQ_ _ _ (⟨hB6, _, hLB, hf⟩) ?_)
        clear hQ_ hP_ Q_
        refine oYg (g := 71) rfl rfl rfl rfl (fun W_ hW_ => (X.not rfl)) rfl ?_
        refine oY rfl (fun W_ hW_ => (X.pickT rfl rfl)) rfl ?_
        refine oN ?_
        refine nN ?_
        refine W_if rfl (fun h87 => ?_) (fun h87 => ?_)
        · first | replace h87 := of_decide_eq_true h87 | replace h87 := of_decide_eq_false (notT h87) | replace h87 := notT h87 | skip
          refine W_rs ?_
          refine st (X.bld rfl (bidx0 _)) rfl ?_
          refine ssBN rfl rfl hB2 siz71 rfl rfl (fun w19 hB_ hc_ => ?_)
          replace hB2 := hB_
          clear hB_
          replace hB6 := hB6.chg hc_ (by first | (show ¬ _ = _; omega) | (intro k_ hk_; simp [Value.ownBlock] at hk_; subst hk_; show ¬ _ = _; omega))
          replace hLB := hLB.chg hc_ (by first | (show ¬ _ = _; omega) | (intro k_ hk_; simp [Value.ownBlock] at hk_; subst hk_; show ¬ _ = _; omega))
          replace hbw := bset hbw hc_ (by omega)
          have hz_w19 := hc_.size
          clear hc_
          refine sa rfl rfl ?_
          refine Wn ?_
          refine tN ?_
          refine W_ret (bR (tR (tR (bR (tR ?_)))))
          have hnlt : ¬ y.sum < x.sum := by simpa using h87
          exact (rCT rfl rfl hB2 Try.underlying71 rfl siz71 rfl (idx_err (dec_18 h0 (by rw [hL]; exact upB_no hy hy' hnlt)) hbw)).1
        · first | replace h87 := of_decide_eq_false h87 | replace h87 := of_decide_eq_true (notF h87) | replace h87 := notF h87 | skip
          refine W_skip ?_
          refine bN ?_
          refine tN ?_
          refine W_reg ?_
          have hlt' : y.sum < x.sum := by simpa using h87
          have hso' : upB (L.take (j + 1)) = true := by
            have := upB_take (i := j - 1) (by rw [show j - 1 + 1 = j by omega]; exact hso) hy hy' hlt'
            rwa [show j - 1 + 2 = j + 1 by omega] at this
          refine st (X.add64 rfl rfl (by omega)) rfl ?_
          refine sm rfl rfl ?_
          refine Wn ?_
          refine tN ⟨_, _, ?_, ⟨j + 1, _, rfl, rfl, by omega, hB2, hB6, hLB, hf, hso', hbw⟩, ⟨rfl, rfl, rfl, rfl, rfl, trivial⟩⟩
          omega
      · refine W_drsN (fun _ => True) [0, 1, 2, 3, 4, 5, 6, 7, 8, 9, 10, 11, 12, 13, 14, 15, 16, 17, 18] [true, true, true, true, true, true, true, true, true, true, true, true, true, true, true, true, false, true, true] (by kernel_rfl) (by kernel_rfl) (trivial) ?_
        obtain ⟨w20, hw_⟩ : ∃ w20 : World, w20 = World.drew w16 := ⟨_, rfl⟩
        rw [← hw_]
        have hb : Below w16.heap.size w16 w20 := by rw [hw_]; exact bdrew (Below.refl _ _)
        clear hw_
        have hS : True := trivial
        replace hbw := bthen hbw hb
        replace hB2 := hB2.bel hb
        replace hB6 := hB6.bel hb
        replace hLB := hLB.bel hb
        have hz_w20 := hb.size
        clear hb
        refine oY rfl (fun W_ hW_ => (X.move rfl)) rfl ?_
        refine oY rfl (fun W_ hW_ => (X.gtr rfl rfl)) rfl ?_
        refine oY rfl (fun W_ hW_ => (X.mvB (c := false) rfl (decide_eq_false (by omega)))) rfl ?_
        refine oNg (g := 71) rfl rfl rfl rfl hS rfl ?_
        refine oNg (g := 71) rfl rfl rfl rfl hS rfl ?_
        refine oNg (g := 71) rfl rfl rfl rfl hS rfl ?_
        refine oNg (g := 71) rfl rfl rfl rfl hS rfl ?_
        refine oNg (g := 71) rfl rfl rfl rfl hS rfl ?_
        refine oNg (g := 71) rfl rfl rfl rfl hS rfl ?_
        refine oNg (g := 71) rfl rfl rfl rfl hS rfl ?_
        refine oNg (g := 71) rfl rfl rfl rfl hS rfl ?_
        refine oNg (g := 71) rfl rfl rfl rfl hS rfl ?_
        refine oNg (g := 71) rfl rfl rfl rfl hS rfl ?_
        refine oNg (g := 71) rfl rfl rfl rfl hS rfl ?_
        refine oNg (g := 71) rfl rfl rfl rfl hS rfl ?_
        refine oNg (g := 71) rfl rfl rfl rfl hS rfl ?_
        refine oNg (g := 71) rfl rfl rfl rfl hS rfl ?_
        refine oNg (g := 71) rfl rfl rfl rfl hS rfl ?_
        refine oY rfl (fun W_ hW_ => (X.pickF rfl rfl)) rfl ?_
        refine oN ?_
        refine nN ?_
        refine W_no rfl (rfl) ?_
        refine W_skip ?_
        refine bN ?_
        refine tN ?_
        refine W_reg ?_
        have hso' : upB (L.take (j + 1)) = true := by
          obtain rfl : j = 0 := by omega
          cases L with
          | nil => rfl
          | cons c L => rfl
        refine st (X.add64 rfl rfl (by omega)) rfl ?_
        refine sm rfl rfl ?_
        refine Wn ?_
        refine tN ⟨_, _, ?_, ⟨j + 1, _, rfl, rfl, by omega, hB2, hB6, hLB, hf, hso', hbw⟩, ⟨rfl, rfl, rfl, rfl, rfl, trivial⟩⟩
        omega
    · first | replace h27 := of_decide_eq_false h27 | replace h27 := of_decide_eq_true (notF h27) | replace h27 := notF h27 | skip
      obtain rfl : n = j := by omega
      rw [List.take_of_length_le (by omega)] at hso
      have hcl : cs.toList = L.flatMap Ent.cells := by
        have h5 := hf.2
        rw [List.take_of_length_le (by have := hf.1; simp; omega), List.take_of_length_le (by omega)] at h5
        exact h5
      have hRow : Row w7 90 35 (.slice (some ⟨gL, 0, none⟩) n n) n (L.flatMap Ent.cells) := by rw [← hcl]; exact hLB.row_ hf.1 (by simp only [maxLen]; omega)
      have hE : EntsAt w7 (.slice (some ⟨gL, 0, none⟩) n n) L := by unfold EntsAt; rw [hLl]; exact hRow.reads
      refine W_exit (tE (tE (bH ?_)))
      refine tN ?_
      refine W_seq ?_
      refine W_rs ?_
      refine st (X.ldBN rfl hB6 Try.underlying71 rfl siz71) rfl ?_
      refine sc _ Try.func80 rfl (by kernel_rfl) rfl rfl ((fan_any _ L _ hE hL32 (by omega)).mono ?_)
      rintro e_ w21 ⟨rfl, hb⟩
      refine cR ?_
      have hpend := hb
      replace hbw := bthen hbw hb
      replace hB2 := hB2.bel hb
      replace hB6 := hB6.bel hb
      have hz_w21 := hb.size
      clear hb
      refine sm rfl rfl ?_
      refine Wn ?_
      refine tN ?_
      refine W_block ?_
      replace hE := hE.bel hpend
      clear hpend
      refine W_lp (fun nw22_ lw22_ w22 => ∃ k : Nat, nw22_ = 256 - k ∧ lw22_ = ([(0, str s), (2, .pointer (some ⟨g2, 0, none⟩)), (6, .pointer (some ⟨g6, 0, none⟩)), (91, .agg (cntV L)), (92, .int .i64 k)] : Env) ∧ (k ≤ 256) ∧ (fansOk s L k) ∧ (Blk w22 g2 71 #[.slice none 0 0]) ∧ (Blk w22 g6 71 #[.slice (some ⟨gL, 0, none⟩) n n]) ∧ (EntsAt w22 (.slice (some ⟨gL, 0, none⟩) n n) L) ∧ (Below w.heap.size w w22)) _ ⟨_, ⟨0, rfl, rfl, by omega, (fun b hb => by omega), hB2, hB6, hE, hbw⟩, ⟨rfl, rfl, rfl, rfl, rfl, trivial⟩⟩ ?_
      clear hB2 hB6 hE hbw
      rintro nw22_ lw22_ w22 ⟨k, rfl, rfl, hk, hok, hB2, hB6, hE, hbw⟩
      have hz_w22 := hbw.size
      have hlt_hB2_w22 := hB2.lt
      have hlt_hB6_w22 := hB6.lt
      refine W_rs ?_
      refine st (X.lss rfl rfl) rfl ?_
      refine Wn ?_
      refine tN ?_
      refine W_seq ?_
      refine W_if rfl (fun h93 => ?_) (fun h93 => ?_)
      · first | replace h93 := of_decide_eq_true h93 | replace h93 := of_decide_eq_false (notT h93) | replace h93 := notT h93 | skip
        refine W_skip ?_
        refine tN ?_
        refine W_seq ?_
        refine W_block ?_
        refine W_rs ?_
        refine sm rfl rfl ?_
        refine st (X.idxV (j := k) rfl rfl Try.underlying124 siz3 Try.underlying3 rfl rfl (by omega) (cntV_at L k (by omega))) rfl ?_
        refine sa rfl rfl ?_
        refine sa rfl rfl ?_
        refine Wn ?_
        refine tN ?_
        refine W_rs ?_
        refine sm rfl rfl ?_
        refine sm rfl rfl ?_
        refine st (X.mul64 rfl rfl (by omega)) rfl ?_
        refine st (X.add rfl rfl (show IntKind.i64.wrap (4 + 4 * (k : Int)) = ((4 + 4 * k : Nat) : Int) by rw [w64 (by omega)]; omega)) rfl ?_
        refine sc _ Try.func85 rfl (by kernel_rfl) rfl rfl ((fnumbered_any s (4 + 4 * k) _ (by omega) (by omega)).mono ?_)
        rintro e_ w23 ⟨rfl, hb⟩
        refine cR ?_
        replace hbw := bthen hbw hb
        replace hB2 := hB2.bel hb
        replace hB6 := hB6.bel hb
        replace hE := hE.bel hb
        have hz_w23 := hb.size
        clear hb
        refine sm rfl rfl ?_
        refine st (X.neq rfl rfl) rfl ?_
        refine Wn ?_
        refine tN ?_
        refine W_if rfl (fun h102 => ?_) (fun h102 => ?_)
        · first | replace h102 := of_decide_eq_true h102 | replace h102 := of_decide_eq_false (notT h102) | replace h102 := notT h102 | skip
          refine W_rs ?_
          refine st (X.bld rfl (bidx0 _)) rfl ?_
          refine ssBN rfl rfl hB2 siz71 rfl rfl (fun w24 hB_ hc_ => ?_)
          replace hB2 := hB_
          clear hB_
          replace hB6 := hB6.chg hc_ (by first | (show ¬ _ = _; omega) | (intro k_ hk_; simp [Value.ownBlock] at hk_; subst hk_; show ¬ _ = _; omega))
          replace hbw := bset hbw hc_ (by omega)
          have hz_w24 := hc_.size
          clear hc_
          refine sa rfl rfl ?_
          refine Wn ?_
          refine tN ?_
          refine W_ret (bR (tR (tR (bR (tR ?_)))))
          exact (rCT rfl rfl hB2 Try.underlying71 rfl siz71 rfl (idx_err (dec_12 h0 (by rw [hL]; exact hso) (k := k) (by omega) (by rw [hL]; omega)) hbw)).1
        · first | replace h102 := of_decide_eq_false h102 | replace h102 := of_decide_eq_true (notF h102) | replace h102 := notF h102 | skip
          have hok' : fansOk s L (k + 1) := fun b hb => by
            rcases Nat.lt_or_ge b k with q | q
            · exact hok b q
            · obtain rfl : b = k := by omega
              omega
          refine W_skip ?_
          refine bN ?_
          refine tN ?_
          refine W_reg ?_
          refine st (X.add64 rfl rfl (by omega)) rfl ?_
          refine sm rfl rfl ?_
          refine Wn ?_
          refine tN ⟨_, _, ?_, ⟨k + 1, rfl, rfl, by omega, hok', hB2, hB6, hE, hbw⟩, ⟨rfl, rfl, rfl, rfl, rfl, trivial⟩⟩
          omega
      · first | replace h93 := of_decide_eq_false h93 | replace h93 := of_decide_eq_true (notF h93) | replace h93 := notF h93 | skip
        obtain rfl : k = 256 := by omega
        have hd0 := dec_0 h0 (by rw [hL]; exact hso) (by rw [hL]; exact hok)
        refine W_exit (tE (tE (bH ?_)))
        refine tN ?_
        refine W_rs ?_
        refine st (X.ldBN rfl hB6 Try.underlying71 rfl siz71) rfl ?_
        refine ssBN rfl rfl hB2 siz71 rfl rfl (fun w25 hB_ hc_ => ?_)
        replace hE := hE.chgB hc_ (by show gL ≠ g2; omega)
        replace hB2 := hB_
        replace hbw := bset hbw hc_ (by omega)
        clear hB_ hc_
        refine sa rfl rfl ?_
        refine Wn ?_
        refine tN ?_
        refine W_ret ?_
        refine (rCT rfl rfl hB2 Try.underlying71 rfl siz71 rfl ?_).1
        rw [hd0, hL]
        exact ⟨_, rfl, hE, hbw⟩
end Go.Proofs.Ytnagmpnpgekhfaa
