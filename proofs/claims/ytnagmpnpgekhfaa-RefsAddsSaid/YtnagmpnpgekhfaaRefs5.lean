/- refs: Add. -/
import Derived.Test.YtnagmpnpgekhfaaRefs4
namespace Go.Proofs.Ytnagmpnpgekhfaa
open Go.RowKit
theorem Row.neMap {κ ν : Type} [DecidableEq κ] {w : World} {e : TypeId} {size n b : Nat} {v : Value} {xs : List Value} {enc : κ → Value} {encv : ν → Value} {m : List (κ × ν)} (h : Row w e size v n xs) (hM : MapAt w b enc encv m) (k : Nat) (hk : v.ownBlock = some k) : ¬ k = b := by
  rintro rfl
  obtain ⟨ts, clock, h1, h2, h3, h4⟩ := hM.obj
  have := h.onCells k _ hk h4
  cases this
theorem Blk.neMap {κ ν : Type} [DecidableEq κ] {w : World} {g b : Nat} {t : TypeId} {cs : Array Value} {enc : κ → Value} {encv : ν → Value} {m : List (κ × ν)} (h : Blk w g t cs) (hM : MapAt w b enc encv m) : ¬ g = b := by
  rintro rfl
  obtain ⟨ts, clock, h1, h2, h3, h4⟩ := hM.obj
  have := h.onCells g _ rfl h4
  cases this
def keyCells (l : List Key) : List Value := l.flatMap (·.map bv)
theorem keyCells_snoc (l : List Key) (k : Key) : keyCells (l ++ [k]) = keyCells l ++ k.map bv := by simp [keyCells]
theorem srt_take_tot {l : List Chk} (h : Srt l) {j : Nat} {d : Chk} (hd : l[j]? = some d) : tot d.sum (l.take j) = 0 := by
  refine tot_none fun hm => ?_
  obtain ⟨c, hc, he⟩ := List.mem_map.1 hm
  obtain ⟨i, hi, hci⟩ := List.mem_iff_getElem.1 hc
  rw [List.length_take] at hi
  rw [List.getElem_take] at hci
  obtain ⟨hj, hdj⟩ := List.getElem?_eq_some_iff.1 hd
  have := List.pairwise_iff_getElem.1 h i j (by omega) hj (by omega)
  rw [hci, hdj, he] at this
  exact klt_irrefl _ this
theorem net_bound {l : List Chk} (ht : Tame l) (hl : l.length ≤ 1000000) {d : Chk} (hd : d ∈ netM l) : -1099511627776000000 ≤ d.len ∧ d.len ≤ 1099511627776000000 := by
  have h1 := ((isNet l).mem d).1 hd
  rw [h1.1]
  exact ht.tot hl d.sum
/-- the counts' map -/
def CntMap (m : List (Sum32 × Int)) (x : List Chk) : Prop := ∀ a : Sum32, mget m a = if tot a.1 x = 0 then none else some (tot a.1 x)
theorem CntMap.put {m : List (Sum32 × Int)} {x l : List Chk} {j : Nat} {d : Chk} (h : CntMap m (x ++ l.take j)) (hd : l[j]? = some d) (hs : d.sum.length = 32) {v : Int} (hv : v = tot d.sum (x ++ l.take j) + d.len) (h0 : v ≠ 0) : CntMap (mput m ⟨d.sum, hs⟩ v) (x ++ l.take (j + 1)) := fun a => by
  rw [mget_mput, tot_append, tot_take hd]
  rw [tot_append] at hv
  by_cases ha : a = ⟨d.sum, hs⟩
  · subst ha
    simp only [if_true]
    rw [← Int.add_assoc, ← hv, if_neg h0]
  · have e : (if d.sum = a.1 then d.len else 0) = 0 := if_neg (fun e => ha (Subtype.ext e.symm))
    rw [if_neg ha, e, Int.add_zero, ← tot_append]
    exact h a
theorem CntMap.del {m : List (Sum32 × Int)} {x l : List Chk} {j : Nat} {d : Chk} (h : CntMap m (x ++ l.take j)) (hd : l[j]? = some d) (hs : d.sum.length = 32) {v : Int} (hv : v = tot d.sum (x ++ l.take j) + d.len) (h0 : v = 0) (hn : ((mput m (⟨d.sum, hs⟩ : Sum32) v).map (·.1)).Nodup) : CntMap (mdel (mput m ⟨d.sum, hs⟩ v) ⟨d.sum, hs⟩) (x ++ l.take (j + 1)) := fun a => by
  rw [mget_mdel hn, mget_mput, tot_append, tot_take hd]
  rw [tot_append] at hv
  by_cases ha : a = ⟨d.sum, hs⟩
  · subst ha
    simp only [if_true]
    rw [← Int.add_assoc, ← hv, if_pos h0]
  · have e : (if d.sum = a.1 then d.len else 0) = 0 := if_neg (fun e => ha (Subtype.ext e.symm))
    rw [if_neg ha, if_neg ha, e, Int.add_zero, ← tot_append]
    exact h a
def goneP (x : List Chk) (d : Chk) : Bool := decide (tot d.sum x + d.len = 0)
theorem gone_take {x l : List Chk} {j : Nat} {d : Chk} (hd : l[j]? = some d) : keysOf ((l.take (j + 1)).filter (goneP x)) = keysOf ((l.take j).filter (goneP x)) ++ (if tot d.sum x + d.len = 0 then [d.sum] else []) := by
  unfold keysOf
  rw [take_next' hd, List.filter_append, List.map_append]
  congr 1
  by_cases h : tot d.sum x + d.len = 0 <;> simp [goneP, h]
def AddPost (w : World) (g b : Nat) (r : List Chk × List Key × Int) (e : Ending) (w' : World) : Prop := ∃ v, e = .returned (.tuple #[v, .int .i64 r.2.2]) ∧ Row w' 36 32 v r.2.1.length (keyCells r.2.1) ∧ (∀ k, v.ownBlock = some k → w.heap.size ≤ k) ∧ CountsAt w' g b r.1 ∧ Chg (fun k => k = b) w w'
theorem add_err {w w' : World} {g b : Nat} {x : List Chk} {k : Int} {r : List Chk × List Key × Int} (hr : r = (x, [], k)) (hC : CountsAt w' g b x) (hc : Chg (fun k => k = b) w w') : AddPost w g b r (.returned (.tuple #[.slice none 0 0, .int .i64 k])) w' := by
  subst hr
  exact ⟨_, rfl, Row.nil _ _ _, fun k hk => by simp [Value.ownBlock] at hk, hC, hc⟩
theorem deltaSum {w : World} {g : Nat} {t : TypeId} {x : Chk} (h : Blk w g t x.cells.toArray) : w.rangeAt g (0 + 0) (x.sum.map bv) := sumRange h.range
set_option maxRecDepth 20000 in
set_option maxHeartbeats 2000000 in
theorem Add_any (g b : Nat) (x : List Chk) (v : Value) (l : List Chk) (w : World) (hC : CountsAt w g b x) (hx : Cnts x) (h : ChksAt w v l) :
    Calls Try.prog 26 #[.pointer (some ⟨g, 0, none⟩), v] w (AddPost w g b (addM x l)) := by
  have hB := hC.blk
  have hgl := hC.lt
  obtain ⟨m0, hM, hm0⟩ := hC.map
  have hb0 : Since w w := ⟨Below.refl _ _⟩
  refine W_enter (args := [.pointer (some ⟨g, 0, none⟩), v]) 85 Try.func26 rfl rfl rfl ?_
  refine W_sub [(0, .pointer (some ⟨g, 0, none⟩)), (1, v)] ?_ ⟨rfl, rfl, trivial⟩
  have hcw := Chg.refl (fun k => k = b) w
  refine W_rs ?_
  refine sa rfl rfl ?_
  refine sa rfl rfl ?_
  refine Wn ?_
  refine tN ?_
  refine W_seq ?_
  refine W_rs ?_
  refine sm rfl rfl ?_
  refine st (X.nilP rfl) rfl ?_
  refine Wn ?_
  refine tN ?_
  refine W_no rfl (rfl) ?_
  refine W_skip ?_
  refine tN ?_
  refine W_seq ?_
  refine W_rs ?_
  refine sm rfl rfl ?_
  refine sc _ Try.func61 rfl (by kernel_rfl) rfl rfl ((may_any v l _ h).mono ?_)
  rintro e_ w1 ⟨rfl, hb⟩
  refine cR ?_
  replace hcw := hcw.then_below hb
  replace hB := hB.bel hb
  replace hM := hM.bel hb
  replace hb0 := hb0.bel hb
  have hz_w1 := hb.size
  clear hb
  refine sa rfl rfl ?_
  refine Wn ?_
  refine tN ?_
  refine W_rs ?_
  refine sm rfl rfl ?_
  refine st (X.neq rfl rfl) rfl ?_
  refine Wn ?_
  refine tN ?_
  refine W_if rfl (fun h19 => ?_) (fun h19 => ?_)
  · first | replace h19 := of_decide_eq_true h19 | replace h19 := of_decide_eq_false (notT h19) | replace h19 := notT h19 | skip
    refine W_rs ?_
    refine sm rfl rfl ?_
    refine sa rfl rfl ?_
    refine sa rfl rfl ?_
    refine Wn ?_
    refine tN ?_
    refine W_ret (tR ?_)
    exact (rTT rfl rfl rfl (add_err (show addM x l = (x, [], mayM l) by unfold addM; rw [if_pos h19]) ⟨hB, m0, hM, hm0⟩ hcw)).1
  · first | replace h19 := of_decide_eq_false h19 | replace h19 := of_decide_eq_true (notF h19) | replace h19 := notF h19 | skip
    have h80 : mayM l = 0 := Classical.not_not.1 h19
    obtain ⟨htm, htl⟩ := may_tame h80
    have hl32 := h.2
    refine W_skip ?_
    refine tN ?_
    refine W_rs ?_
    refine sm rfl rfl ?_
    refine sc _ Try.func23 rfl (by kernel_rfl) rfl rfl ((Net_any v l _ (h.bel hb0.b) (by omega) htm).mono ?_)
    rintro e_ w2 ⟨vn, rfl, hR, hO, hb⟩
    refine cR ?_
    replace hcw := hcw.then_below hb
    replace hB := hB.bel hb
    replace hM := hM.bel hb
    replace hb0 := hb0.bel hb
    have hz_w2 := hb.size
    clear hb
    obtain ⟨an, cn, rfl, hnn, hcn⟩ := hR.shape
    have hn32 := netM_sum32 hl32
    have hnl := netM_length l
    have hns := (isNet l).srt
    have hnb := fun d hd => net_bound htm (by omega) (d := d) hd
    obtain ⟨L, hL⟩ : ∃ L, netM l = L := ⟨_, rfl⟩
    have hout := out_iff (l := l) hx
    have hgone := gone_eq (l := l) hx
    have hisn := isNet l
    rw [hL] at hR hn32 hnl hns hnb hout hgone hisn
    rw [hL]
    refine sa rfl rfl ?_
    refine Wn ?_
    refine tN ?_
    refine W_seq ?_
    refine W_rs ?_
    refine sm rfl rfl ?_
    refine st (X.lenL rfl rfl Try.underlying22) rfl ?_
    refine sm rfl rfl ?_
    refine Wn ?_
    refine tN ?_
    refine W_block ?_
    refine W_lp (fun nw3_ lw3_ w3 => ∃ j : Nat, nw3_ = L.length - j ∧ lw3_ = ([(0, .pointer (some ⟨g, 0, none⟩)), (7, .slice an L.length cn), (23, .slice an L.length cn), (24, .int .i64 L.length), (25, .int .i64 j)] : Env) ∧ (j ≤ L.length) ∧ ((L.any fun d => outN ⟨d.sum, tot d.sum x + d.len⟩) = ((L.drop j).any fun d => outN ⟨d.sum, tot d.sum x + d.len⟩)) ∧ (Blk w3 g 111 #[.map (some b)]) ∧ (MapAt w3 b encSum encInt m0) ∧ (Row w3 57 33 (.slice an L.length cn) L.length (L.flatMap Chk.cells)) ∧ (Chg (fun k => k = b) w w3)) _ ⟨_, ⟨0, rfl, rfl, by omega, rfl, hB, hM, hR, hcw⟩, ⟨rfl, rfl, rfl, rfl, rfl, trivial⟩⟩ ?_
    clear hB hM hR hcw
    rintro nw3_ lw3_ w3 ⟨j, rfl, rfl, hj, hq, hB, hM, hR, hcw⟩
    have hlt_hB_w3 := hB.lt
    have hz_h := hcw.size
    refine W_rs ?_
    refine st (X.lss rfl rfl) rfl ?_
    refine Wn ?_
    refine tN ?_
    refine W_seq ?_
    refine W_if rfl (fun h26 => ?_) (fun h26 => ?_)
    · first | replace h26 := of_decide_eq_true h26 | replace h26 := of_decide_eq_false (notT h26) | replace h26 := notT h26 | skip
      obtain ⟨d, hd⟩ : ∃ d, L[j]? = some d := ⟨_, List.getElem?_eq_getElem (by omega)⟩
      have hds := hn32 d (List.mem_of_getElem? hd)
      have hdb := hnb d (List.mem_of_getElem? hd)
      have hxb := hx.tot d.sum
      have hRe := hR.reads
      obtain ⟨g1, o1, c', hv, hg1⟩ := hRe.some_ (by omega)
      injection hv with e1 _ e3
      subst e1 e3
      refine W_skip ?_
      refine tN ?_
      refine W_seq ?_
      refine W_block ?_
      refine W_rs ?_
      refine st (X.idxA rfl rfl Try.underlying22 siz57 rfl (by omega)) rfl ?_
      refine st (X.ldN (cs := d.cells) rfl Try.underlying57 rfl (by rw [Chk.cells_length hds]; exact siz57) ((show ChksAt _ _ L from ⟨hRe, hn32⟩).range hd)) rfl ?_
      refine salA inf57 rfl (fun g9 w4 hB9 hg9 hb hl9 => ?_)
      have hpend := hb
      replace hcw := hcw.then_below hb
      replace hB := hB.bel hb
      replace hM := hM.bel hb
      have hz_w4 := hb.size
      clear hb
      refine ssBN rfl rfl hB9 (by rw [Chk.size hds]; exact siz57) (by rw [Chk.size hds]; rfl) (Chk.cells_one d) (fun w5 hB_ hc_ => ?_)
      replace hB9 := hB_
      clear hB_
      replace hpend := bset hpend hc_ (by omega)
      replace hB := hB.chg hc_ (by first | (show ¬ _ = _; omega) | (intro k_ hk_; simp [Value.ownBlock] at hk_; subst hk_; show ¬ _ = _; omega))
      replace hM := hM.chg hc_ (by first | (show ¬ _ = _; omega) | (intro k_ hk_; simp [Value.ownBlock] at hk_; subst hk_; show ¬ _ = _; omega))
      replace hcw := hcw.next hc_ (fun i_ hi_ => by first | exact .inl hi_ | (right; subst hi_; omega))
      have hz_w5 := hc_.size
      clear hc_
      refine Wn ?_
      refine tN ?_
      refine W_drsN (fun W_ => ∃ gx, gx = g9 ∧ Blk W_ gx 57 d.cells.toArray ∧ Blk W_ g 111 #[.map (some b)]) [0, 1, 2, 3, 4, 5, 7, 8, 6, 9, 10] [true, true, true, true, true, true, true, true, false, true, true] (by kernel_rfl) (by kernel_rfl) (⟨_, rfl, hB9.drew, hB.drew⟩) ?_
      obtain ⟨w6, hw_⟩ : ∃ w6 : World, w6 = World.drew w5 := ⟨_, rfl⟩
      rw [← hw_]
      have hb : Below w5.heap.size w5 w6 := by rw [hw_]; exact bdrew (Below.refl _ _)
      clear hw_
      have hS := hb
      replace hpend := bthen hpend hb
      replace hcw := hcw.then_below hb
      replace hB := hB.bel hb
      replace hM := hM.bel hb
      replace hB9 := hB9.bel hb
      have hz_w6 := hb.size
      clear hb
      refine oY rfl (fun W_ hW_ => (X.move rfl)) rfl ?_
      refine oY rfl (fun W_ hW_ => (X.nilChk rfl)) rfl ?_
      refine oY rfl (fun W_ hW_ => (X.fa fa111_0 rfl)) rfl ?_
      refine oY rfl (fun W_ hW_ => (X.ldL rfl (by obtain ⟨gx, rfl, h1, h2⟩ := hW_; exact h2) Try.underlying108 rfl rfl)) rfl ?_
      refine oY rfl (fun W_ hW_ => (X.fa fa57_0 rfl)) rfl ?_
      refine oY rfl (fun W_ hW_ => (X.ldN (cs := d.sum.map bv) rfl Try.underlying36 rfl (by rw [List.length_map, hds]; exact siz36) (by obtain ⟨gx, rfl, h1, h2⟩ := hW_; exact deltaSum h1))) rfl ?_
      refine oY rfl (fun W_ hW_ => (X.fa fa57_1 rfl)) rfl ?_
      refine oY rfl (fun W_ hW_ => (X.ldB rfl (by obtain ⟨gx, rfl, h1, h2⟩ := hW_; exact h1) Try.underlying3 rfl (Chk.cells_len hds))) rfl ?_
      refine oL rfl (fun Q_ hQ_ hP_ => ?_)
      refine st (X.lookIv (z := tot d.sum x) keySum rfl ⟨d.sum, hds⟩ rfl Try.underlying108 (zint _) hM (cnt_getD hm0 ⟨d.sum, hds⟩)) rfl ?_
      refine Wn (hQ_ _ _ (⟨_, rfl, hB9, hB⟩) ?_)
      clear hQ_ hP_ Q_
      refine oY rfl (fun W_ hW_ => (X.add64 rfl rfl (by omega))) rfl ?_
      refine oY rfl (fun W_ hW_ => (X.assign rfl)) rfl ?_
      refine oN ?_
      refine nN ?_
      refine W_rs ?_
      refine sm rfl rfl ?_
      refine st (X.lss rfl rfl) rfl ?_
      refine sb rfl rfl (fun h41 => ?_) (fun h41 => ?_)
      · first | replace h41 := of_decide_eq_true h41 | replace h41 := of_decide_eq_false (notT h41) | replace h41 := notT h41 | skip
        refine gN (g := 41) rfl rfl rfl rfl ?_
        refine gN (g := 41) rfl rfl rfl rfl ?_
        refine st (X.pickT rfl rfl) rfl ?_
        refine Wn ?_
        refine tN ?_
        refine W_yes rfl (rfl) ?_
        refine W_rs ?_
        refine sa rfl rfl ?_
        refine sa rfl rfl ?_
        refine Wn ?_
        refine tN ?_
        replace hR := hR.bel hpend
        clear hpend
        refine W_ret (bR (tR (tR (bR (tR ?_)))))
        have hno : outN ⟨d.sum, tot d.sum x + d.len⟩ = true := decide_eq_true (by show tot d.sum x + d.len < 0 ∨ 2147483647 < tot d.sum x + d.len; omega)
        refine (rTT rfl rfl rfl (add_err ?_ ⟨hB, m0, hM, hm0⟩ hcw)).1
        unfold addM
        rw [if_neg (by omega), if_pos]
        rw [← hout, hq, any_drop _ hd, hno]; rfl
      · first | replace h41 := of_decide_eq_false h41 | replace h41 := of_decide_eq_true (notF h41) | replace h41 := notF h41 | skip
        refine gY (g := 41) rfl rfl rfl ?_
        refine sm rfl rfl ?_
        refine gY (g := 41) rfl rfl rfl ?_
        refine st (X.gtr rfl rfl) rfl ?_
        refine st (X.pickF rfl rfl) rfl ?_
        refine Wn ?_
        refine tN ?_
        refine W_if rfl (fun h44 => ?_) (fun h44 => ?_)
        · first | replace h44 := of_decide_eq_true h44 | replace h44 := of_decide_eq_false (notT h44) | replace h44 := notT h44 | skip
          refine W_rs ?_
          refine sa rfl rfl ?_
          refine sa rfl rfl ?_
          refine Wn ?_
          refine tN ?_
          replace hR := hR.bel hpend
          clear hpend
          refine W_ret (bR (tR (tR (bR (tR ?_)))))
          have hno : outN ⟨d.sum, tot d.sum x + d.len⟩ = true := decide_eq_true (by show tot d.sum x + d.len < 0 ∨ 2147483647 < tot d.sum x + d.len; omega)
          refine (rTT rfl rfl rfl (add_err ?_ ⟨hB, m0, hM, hm0⟩ hcw)).1
          unfold addM
          rw [if_neg (by omega), if_pos]
          rw [← hout, hq, any_drop _ hd, hno]; rfl
        · first | replace h44 := of_decide_eq_false h44 | replace h44 := of_decide_eq_true (notF h44) | replace h44 := notF h44 | skip
          refine W_skip ?_
          refine bN ?_
          refine tN ?_
          refine W_reg ?_
          have hno : outN ⟨d.sum, tot d.sum x + d.len⟩ = false := decide_eq_false (by show ¬ (tot d.sum x + d.len < 0 ∨ 2147483647 < tot d.sum x + d.len); omega)
          refine st (X.add64 rfl rfl (by omega)) rfl ?_
          refine sm rfl rfl ?_
          refine Wn ?_
          replace hR := hR.bel hpend
          clear hpend
          refine tN ⟨_, _, ?_, ⟨j + 1, rfl, rfl, by omega, by rw [hq, any_drop _ hd, hno]; rfl, hB, hM, hR, hcw⟩, ⟨rfl, rfl, rfl, rfl, rfl, trivial⟩⟩
          omega
    · first | replace h26 := of_decide_eq_false h26 | replace h26 := of_decide_eq_true (notF h26) | replace h26 := notF h26 | skip
      obtain rfl : j = L.length := by omega
      rw [List.drop_length] at hq
      have hchk : (netM (x ++ l)).any outN = false := by rw [← hout, hq]; rfl
      have hgood : ∀ d ∈ L, 0 ≤ tot d.sum x + d.len ∧ tot d.sum x + d.len ≤ 2147483647 := fun d hd => by
        have h1 := hout.trans hchk
        rw [List.any_eq_false] at h1
        have h2 := of_decide_eq_false (by simpa [outN] using h1 d hd : decide (tot d.sum x + d.len < 0 ∨ 2147483647 < tot d.sum x + d.len) = false)
        omega
      have hmx : CntMap m0 (x ++ L.take 0) := by rw [List.take_zero, List.append_nil]; exact hm0
      refine W_exit (tE (tE (bH ?_)))
      refine tN ?_
      refine W_rs ?_
      refine sa rfl rfl ?_
      refine Wn ?_
      refine tN ?_
      refine W_seq ?_
      refine W_rs ?_
      refine sm rfl rfl ?_
      refine st (X.lenL rfl rfl Try.underlying22) rfl ?_
      refine sm rfl rfl ?_
      refine Wn ?_
      refine tN ?_
      refine W_block ?_
      refine W_lp (fun nw7_ lw7_ w7 => ∃ j : Nat, ∃ m : List (Sum32 × Int), ∃ vg : Value, nw7_ = L.length - j ∧ lw7_ = ([(0, .pointer (some ⟨g, 0, none⟩)), (11, vg), (46, .slice an L.length cn), (47, .int .i64 L.length), (48, .int .i64 j)] : Env) ∧ (j ≤ L.length) ∧ (CntMap m (x ++ L.take j)) ∧ (Blk w7 g 111 #[.map (some b)]) ∧ (MapAt w7 b encSum encInt m) ∧ (Row w7 57 33 (.slice an L.length cn) L.length (L.flatMap Chk.cells)) ∧ (Row w7 36 32 vg (keysOf ((L.take j).filter (goneP x))).length (keyCells (keysOf ((L.take j).filter (goneP x))))) ∧ (∀ k, vg.ownBlock = some k → w.heap.size ≤ k) ∧ (Chg (fun k => k = b) w w7)) _ ⟨_, ⟨0, m0, .slice none 0 0, rfl, rfl, by omega, hmx, hB, hM, hR, Row.nil _ _ _, (fun k hk => by simp [Value.ownBlock] at hk), hcw⟩, ⟨rfl, rfl, rfl, rfl, rfl, trivial⟩⟩ ?_
      clear hmx hB hM hR hcw
      rintro nw7_ lw7_ w7 ⟨j, m, vg, rfl, rfl, hj, hmx, hB, hM, hR, hG, hOg, hcw⟩
      have hlt_hB_w7 := hB.lt
      have hz_h := hcw.size
      refine W_rs ?_
      refine st (X.lss rfl rfl) rfl ?_
      refine Wn ?_
      refine tN ?_
      refine W_seq ?_
      refine W_if rfl (fun h49 => ?_) (fun h49 => ?_)
      · first | replace h49 := of_decide_eq_true h49 | replace h49 := of_decide_eq_false (notT h49) | replace h49 := notT h49 | skip
        obtain ⟨d, hd⟩ : ∃ d, L[j]? = some d := ⟨_, List.getElem?_eq_getElem (by omega)⟩
        have hds := hn32 d (List.mem_of_getElem? hd)
        have hdb := hnb d (List.mem_of_getElem? hd)
        have hgd := hgood d (List.mem_of_getElem? hd)
        have hxb := hx.tot d.sum
        have hRe := hR.reads
        obtain ⟨g1, o1, c', hv, hg1⟩ := hRe.some_ (by omega)
        injection hv with e1 _ e3
        subst e1 e3
        obtain ⟨n0, hn0⟩ : ∃ n0, tot d.sum x = n0 := ⟨_, rfl⟩
        have hn1 : tot d.sum (x ++ L.take j) = n0 := by rw [tot_append, srt_take_tot hns hd, hn0]; omega
        have hgl0 : (mget m ⟨d.sum, hds⟩).getD 0 = n0 := by rw [cnt_getD hmx]; exact hn1
        obtain ⟨v1, hv1⟩ : ∃ v1, n0 + d.len = v1 := ⟨_, rfl⟩
        rw [hn0] at hgd hxb
        have hv2 : v1 = tot d.sum (x ++ L.take j) + d.len := by rw [hn1, hv1]
        refine W_skip ?_
        refine tN ?_
        refine W_seq ?_
        refine W_block ?_
        refine W_rs ?_
        refine st (X.idxA rfl rfl Try.underlying22 siz57 rfl (by omega)) rfl ?_
        refine st (X.ldN (cs := d.cells) rfl Try.underlying57 rfl (by rw [Chk.cells_length hds]; exact siz57) ((show ChksAt _ _ L from ⟨hRe, hn32⟩).range hd)) rfl ?_
        refine salA inf57 rfl (fun g13 w8 hB13 hg13 hb hl13 => ?_)
        have hpend := hb
        replace hcw := hcw.then_below hb
        replace hB := hB.bel hb
        replace hM := hM.bel hb
        have hz_w8 := hb.size
        clear hb
        refine ssBN rfl rfl hB13 (by rw [Chk.size hds]; exact siz57) (by rw [Chk.size hds]; rfl) (Chk.cells_one d) (fun w9 hB_ hc_ => ?_)
        replace hB13 := hB_
        clear hB_
        replace hpend := bset hpend hc_ (by omega)
        replace hB := hB.chg hc_ (by first | (show ¬ _ = _; omega) | (intro k_ hk_; simp [Value.ownBlock] at hk_; subst hk_; show ¬ _ = _; omega))
        replace hM := hM.chg hc_ (by first | (show ¬ _ = _; omega) | (intro k_ hk_; simp [Value.ownBlock] at hk_; subst hk_; show ¬ _ = _; omega))
        replace hcw := hcw.next hc_ (fun i_ hi_ => by first | exact .inl hi_ | (right; subst hi_; omega))
        have hz_w9 := hc_.size
        clear hc_
        refine Wn ?_
        refine tN ?_
        refine W_trsN (fun W_ => ∃ gx, gx = g13 ∧ Blk W_ gx 57 d.cells.toArray ∧ Blk W_ g 111 #[.map (some b)]) (.yes 0 (.yes 1 (.yes 2 (.yes 3 (.yes 4 (.yes 5 (.yes 7 (.yes 8 (.pick (.alt 6 (.yes 9 (.pick (.alt 10 (.yes 11 (.pick (.alt 12 (.nil) (.no)))) (.no)))) (.alt 10 (.yes 11 (.pick (.alt 6 (.yes 9 (.pick (.alt 12 (.nil) (.no)))) (.no)))) (.no)))))))))))) (by kernel_rfl) (by kernel_rfl) (⟨_, rfl, hB13.drew, hB.drew⟩) ?_
        obtain ⟨w10, hw_⟩ : ∃ w10 : World, w10 = World.drew w9 := ⟨_, rfl⟩
        rw [← hw_]
        have hb : Below w9.heap.size w9 w10 := by rw [hw_]; exact bdrew (Below.refl _ _)
        clear hw_
        have hS := hb
        replace hpend := bthen hpend hb
        replace hcw := hcw.then_below hb
        replace hB := hB.bel hb
        replace hM := hM.bel hb
        replace hB13 := hB13.bel hb
        have hz_w10 := hb.size
        clear hb
        refine uY rfl (fun W_ hW_ => (X.move rfl)) rfl ?_
        refine uY rfl (fun W_ hW_ => (X.nilChk rfl)) rfl ?_
        refine uY rfl (fun W_ hW_ => (X.fa fa111_0 rfl)) rfl ?_
        refine uY rfl (fun W_ hW_ => (X.ldL rfl (by obtain ⟨gx, rfl, h1, h2⟩ := hW_; exact h2) Try.underlying108 rfl rfl)) rfl ?_
        refine uY rfl (fun W_ hW_ => (X.fa fa57_0 rfl)) rfl ?_
        refine uY rfl (fun W_ hW_ => (X.ldN (cs := d.sum.map bv) rfl Try.underlying36 rfl (by rw [List.length_map, hds]; exact siz36) (by obtain ⟨gx, rfl, h1, h2⟩ := hW_; exact deltaSum h1))) rfl ?_
        refine uY rfl (fun W_ hW_ => (X.fa fa57_1 rfl)) rfl ?_
        refine uY rfl (fun W_ hW_ => (X.ldB rfl (by obtain ⟨gx, rfl, h1, h2⟩ := hW_; exact h1) Try.underlying3 rfl (Chk.cells_len hds))) rfl ?_
        refine uP (uA rfl (fun Q_ hQ_ hP_ => ?_) (uA rfl (fun Q_ hQ_ hP_ => ?_) u0))
        · refine st (X.lookIv (z := n0) keySum rfl ⟨d.sum, hds⟩ rfl Try.underlying108 (zint _) hM (by first | exact hgl0 | (rw [mget_mput, if_pos rfl, Option.getD_some]; exact hgl0))) rfl ?_
          refine Wn (hQ_ _ _ (⟨_, rfl, hB13, hB⟩) ?_)
          clear hQ_ hP_ Q_
          refine uY rfl (fun W_ hW_ => (X.add rfl rfl (show IntKind.i64.wrap (n0 + d.len) = v1 by rw [w64 (by omega), hv1]))) rfl ?_
          refine uP (uA rfl (fun Q_ hQ_ hP_ => ?_) u0)
          replace hR := hR.bel hpend
          replace hG := hG.bel hpend
          clear hpend
          refine sme keySum rfl ⟨d.sum, hds⟩ rfl Try.underlying108 (0 : Int) (zint _) hM rfl (fun s_ w11 hS_ hCm => ?_)
          replace hR := hR.chg hCm (hR.neMap hM)
          replace hG := hG.chg hCm (hG.neMap hM)
          replace hB13 := hB13.chg hCm (hB13.neMap hM)
          replace hB := hB.chg hCm (hB.neMap hM)
          replace hcw := hcw.next hCm (fun i_ hi_ => .inl hi_)
          have hz1810 := hCm.size
          replace hM := hS_.map
          clear hCm
          refine Wn (hQ_ _ _ (⟨_, rfl, hB13, hB⟩) ?_)
          clear hQ_ hP_ Q_
          refine uY rfl (fun W_ hW_ => (X.ext rfl rfl)) rfl ?_
          refine uP (uA rfl (fun Q_ hQ_ hP_ => ?_) u0)
          refine ses rfl v1 rfl rfl hS_ (fun w12 hM_ hCm => ?_)
          replace hR := hR.chg hCm (hR.neMap hS_.map)
          replace hG := hG.chg hCm (hG.neMap hS_.map)
          replace hB13 := hB13.chg hCm (hB13.neMap hS_.map)
          replace hB := hB.chg hCm (hB.neMap hS_.map)
          replace hcw := hcw.next hCm (fun i_ hi_ => .inl hi_)
          have hz1812 := hCm.size
          replace hM := hM_
          clear hCm hS_ hM_
          refine Wn (hQ_ _ _ (⟨_, rfl, hB13, hB⟩) ?_)
          clear hQ_ hP_ Q_
          refine uN ?_
          refine nN ?_
          refine W_drsN (fun W_ => ∃ gx, gx = g13 ∧ Blk W_ gx 57 d.cells.toArray ∧ Blk W_ g 111 #[.map (some b)]) [0, 1, 2, 3, 4, 5, 6, 7] [true, true, true, true, true, true, false, true] (by kernel_rfl) (by kernel_rfl) (⟨_, rfl, hB13.drew, hB.drew⟩) ?_
          obtain ⟨w13, hw_⟩ : ∃ w13 : World, w13 = World.drew w12 := ⟨_, rfl⟩
          rw [← hw_]
          have hb : Below w12.heap.size w12 w13 := by rw [hw_]; exact bdrew (Below.refl _ _)
          clear hw_
          have hS := hb
          have hpend := hb
          replace hcw := hcw.then_below hb
          replace hB := hB.bel hb
          replace hM := hM.bel hb
          replace hB13 := hB13.bel hb
          have hz_w13 := hb.size
          clear hb
          refine oY rfl (fun W_ hW_ => (X.move rfl)) rfl ?_
          refine oY rfl (fun W_ hW_ => (X.nilChk rfl)) rfl ?_
          refine oY rfl (fun W_ hW_ => (X.fa fa111_0 rfl)) rfl ?_
          refine oY rfl (fun W_ hW_ => (X.ldL rfl (by obtain ⟨gx, rfl, h1, h2⟩ := hW_; exact h2) Try.underlying108 rfl rfl)) rfl ?_
          refine oY rfl (fun W_ hW_ => (X.fa fa57_0 rfl)) rfl ?_
          refine oY rfl (fun W_ hW_ => (X.ldN (cs := d.sum.map bv) rfl Try.underlying36 rfl (by rw [List.length_map, hds]; exact siz36) (by obtain ⟨gx, rfl, h1, h2⟩ := hW_; exact deltaSum h1))) rfl ?_
          refine oL rfl (fun Q_ hQ_ hP_ => ?_)
          refine st (X.lookIv (z := v1) keySum rfl ⟨d.sum, hds⟩ rfl Try.underlying108 (zint _) hM (by rw [mget_mput, if_pos rfl]; rfl)) rfl ?_
          refine Wn (hQ_ _ _ (⟨_, rfl, hB13, hB⟩) ?_)
          clear hQ_ hP_ Q_
          refine oY rfl (fun W_ hW_ => (X.eql rfl rfl)) rfl ?_
          refine oN ?_
          refine nN ?_
          refine W_if rfl (fun h71 => ?_) (fun h71 => ?_)
          · first | replace h71 := of_decide_eq_true h71 | replace h71 := of_decide_eq_false (notT h71) | replace h71 := notT h71 | skip
            refine W_drsN (fun W_ => ∃ gx, gx = g13 ∧ Blk W_ gx 57 d.cells.toArray ∧ Blk W_ g 111 #[.map (some b)]) [0, 1, 2, 3, 4, 5, 6] [true, true, true, true, true, true, false] (by kernel_rfl) (by kernel_rfl) (⟨_, rfl, hB13.drew, hB.drew⟩) ?_
            obtain ⟨w14, hw_⟩ : ∃ w14 : World, w14 = World.drew w13 := ⟨_, rfl⟩
            rw [← hw_]
            have hb : Below w13.heap.size w13 w14 := by rw [hw_]; exact bdrew (Below.refl _ _)
            clear hw_
            have hS := hb
            replace hpend := bthen hpend hb
            replace hcw := hcw.then_below hb
            replace hB := hB.bel hb
            replace hM := hM.bel hb
            replace hB13 := hB13.bel hb
            have hz_w14 := hb.size
            clear hb
            refine oY rfl (fun W_ hW_ => (X.move rfl)) rfl ?_
            refine oY rfl (fun W_ hW_ => (X.nilChk rfl)) rfl ?_
            refine oY rfl (fun W_ hW_ => (X.fa fa111_0 rfl)) rfl ?_
            refine oY rfl (fun W_ hW_ => (X.ldL rfl (by obtain ⟨gx, rfl, h1, h2⟩ := hW_; exact h2) Try.underlying108 rfl rfl)) rfl ?_
            refine oY rfl (fun W_ hW_ => (X.fa fa57_0 rfl)) rfl ?_
            refine oY rfl (fun W_ hW_ => (X.ldN (cs := d.sum.map bv) rfl Try.underlying36 rfl (by rw [List.length_map, hds]; exact siz36) (by obtain ⟨gx, rfl, h1, h2⟩ := hW_; exact deltaSum h1))) rfl ?_
            refine oL rfl (fun Q_ hQ_ hP_ => ?_)
            replace hR := hR.bel hpend
            replace hG := hG.bel hpend
            clear hpend
            refine sdel keySum rfl ⟨d.sum, hds⟩ rfl Try.underlying108 hM (fun w15 hM_ hCm => ?_)
            have hmx' := hmx.del hd hds hv2 h71 hM.nodup
            replace hR := hR.chg hCm (hR.neMap hM)
            replace hG := hG.chg hCm (hG.neMap hM)
            replace hB13 := hB13.chg hCm (hB13.neMap hM)
            replace hB := hB.chg hCm (hB.neMap hM)
            replace hcw := hcw.next hCm (fun i_ hi_ => .inl hi_)
            have hz206 := hCm.size
            replace hM := hM_
            obtain ⟨m', hm'⟩ : ∃ m', mdel (mput m ⟨d.sum, hds⟩ v1) ⟨d.sum, hds⟩ = m' := ⟨_, rfl⟩
            rw [hm'] at hM hmx'
            clear hCm hM_ hm'
            refine Wn (hQ_ _ _ (⟨_, rfl, hB13, hB⟩) ?_)
            clear hQ_ hP_ Q_
            refine oN ?_
            refine nN ?_
            refine W_reg ?_
            refine sm rfl rfl ?_
            refine st (X.fa fa57_0 rfl) rfl ?_
            refine st (X.ldN (cs := d.sum.map bv) rfl Try.underlying36 rfl (by rw [List.length_map, hds]; exact siz36) (deltaSum hB13)) rfl ?_
            refine sbs1 rfl Try.underlying39 inf36 (by show (d.sum.map bv).toArray.size = 32; simp [hds]) rfl (by decide) (by decide) rfl (fun g81 w16 hR81 hg81 hb => ?_)
            replace hcw := hcw.then_below hb
            replace hB := hB.bel hb
            replace hM := hM.bel hb
            replace hR := hR.bel hb
            replace hG := hG.bel hb
            have hz81 := hb.size
            have hgl2 : (keysOf ((L.take j).filter (goneP x))).length ≤ 16000 := by unfold keysOf; rw [List.length_map]; have := List.length_filter_le (goneP x) (L.take j); rw [List.length_take] at this; omega
            clear hb
            refine sapp rfl rfl Try.underlying39 inf36 rfl (by decide) hG (hR81.reads.src Try.underlying39 (by intro u hu; simp [Value.cells] at hu; obtain ⟨q, _, rfl⟩ := hu; rfl)) (by simp only [maxLen]; omega) (by omega) rfl (fun vg' w17 hG1 hCg hvg => ?_)
            have hOg1 := own_next hvg hOg (by omega)
            replace hB := hB.chg hCg (hG.ne_ hB (by decide))
            replace hR := hR.chg hCg (fun k hk => hR.apart_ hG (by decide) k hk)
            replace hM := hM.chg hCg (fun e => hG.neMap hM _ e rfl)
            replace hcw := hcw.next hCg (fun i_ hi_ => .inr (hOg i_ hi_))
            have hz84 := hCg.size
            clear hCg hvg
            refine sa rfl rfl ?_
            have hge := gone_take (x := x) hd
            rw [if_pos (by omega)] at hge
            replace hG : Row w17 36 32 vg' (keysOf ((L.take (j + 1)).filter (goneP x))).length (keyCells (keysOf ((L.take (j + 1)).filter (goneP x)))) := by rw [hge, keyCells_snoc, List.length_append]; exact hG1
            replace hOg := hOg1
            refine Wn ?_
            refine bN ?_
            refine tN ?_
            refine W_reg ?_
            refine st (X.add64 rfl rfl (by omega)) rfl ?_
            refine sm rfl rfl ?_
            refine Wn ?_
            refine tN ⟨_, _, ?_, ⟨j + 1, m', vg', rfl, rfl, by omega, hmx', hB, hM, hR, hG, hOg, hcw⟩, ⟨rfl, rfl, rfl, rfl, rfl, trivial⟩⟩
            omega
          · first | replace h71 := of_decide_eq_false h71 | replace h71 := of_decide_eq_true (notF h71) | replace h71 := notF h71 | skip
            have hmx' := hmx.put hd hds hv2 h71
            obtain ⟨m', hm'⟩ : ∃ m', mput m ⟨d.sum, hds⟩ v1 = m' := ⟨_, rfl⟩
            rw [hm'] at hM hmx'
            clear hm'
            have hge := gone_take (x := x) hd
            rw [if_neg (by omega), List.append_nil] at hge
            rw [← hge] at hG
            obtain ⟨vg', rfl⟩ : ∃ vg', vg' = vg := ⟨_, rfl⟩
            refine W_skip ?_
            refine bN ?_
            refine tN ?_
            refine W_reg ?_
            refine st (X.add64 rfl rfl (by omega)) rfl ?_
            refine sm rfl rfl ?_
            refine Wn ?_
            replace hR := hR.bel hpend
            replace hG := hG.bel hpend
            clear hpend
            refine tN ⟨_, _, ?_, ⟨j + 1, m', vg', rfl, rfl, by omega, hmx', hB, hM, hR, hG, hOg, hcw⟩, ⟨rfl, rfl, rfl, rfl, rfl, trivial⟩⟩
            omega
        · replace hR := hR.bel hpend
          replace hG := hG.bel hpend
          clear hpend
          refine sme keySum rfl ⟨d.sum, hds⟩ rfl Try.underlying108 (0 : Int) (zint _) hM rfl (fun s_ w18 hS_ hCm => ?_)
          replace hR := hR.chg hCm (hR.neMap hM)
          replace hG := hG.chg hCm (hG.neMap hM)
          replace hB13 := hB13.chg hCm (hB13.neMap hM)
          replace hB := hB.chg hCm (hB.neMap hM)
          replace hcw := hcw.next hCm (fun i_ hi_ => .inl hi_)
          have hz1810 := hCm.size
          replace hM := hS_.map
          clear hCm
          refine Wn (hQ_ _ _ (⟨_, rfl, hB13, hB⟩) ?_)
          clear hQ_ hP_ Q_
          refine uY rfl (fun W_ hW_ => (X.ext rfl rfl)) rfl ?_
          refine uP (uA rfl (fun Q_ hQ_ hP_ => ?_) u0)
          refine st (X.lookIv (z := n0) keySum rfl ⟨d.sum, hds⟩ rfl Try.underlying108 (zint _) hM (by first | exact hgl0 | (rw [mget_mput, if_pos rfl, Option.getD_some]; exact hgl0))) rfl ?_
          refine Wn (hQ_ _ _ (⟨_, rfl, hB13, hB⟩) ?_)
          clear hQ_ hP_ Q_
          refine uY rfl (fun W_ hW_ => (X.add rfl rfl (show IntKind.i64.wrap (n0 + d.len) = v1 by rw [w64 (by omega), hv1]))) rfl ?_
          refine uP (uA rfl (fun Q_ hQ_ hP_ => ?_) u0)
          refine ses rfl v1 rfl rfl hS_ (fun w19 hM_ hCm => ?_)
          replace hR := hR.chg hCm (hR.neMap hS_.map)
          replace hG := hG.chg hCm (hG.neMap hS_.map)
          replace hB13 := hB13.chg hCm (hB13.neMap hS_.map)
          replace hB := hB.chg hCm (hB.neMap hS_.map)
          replace hcw := hcw.next hCm (fun i_ hi_ => .inl hi_)
          have hz1812 := hCm.size
          replace hM := hM_
          clear hCm hS_ hM_
          refine Wn (hQ_ _ _ (⟨_, rfl, hB13, hB⟩) ?_)
          clear hQ_ hP_ Q_
          refine uN ?_
          refine nN ?_
          refine W_drsN (fun W_ => ∃ gx, gx = g13 ∧ Blk W_ gx 57 d.cells.toArray ∧ Blk W_ g 111 #[.map (some b)]) [0, 1, 2, 3, 4, 5, 6, 7] [true, true, true, true, true, true, false, true] (by kernel_rfl) (by kernel_rfl) (⟨_, rfl, hB13.drew, hB.drew⟩) ?_
          obtain ⟨w20, hw_⟩ : ∃ w20 : World, w20 = World.drew w19 := ⟨_, rfl⟩
          rw [← hw_]
          have hb : Below w19.heap.size w19 w20 := by rw [hw_]; exact bdrew (Below.refl _ _)
          clear hw_
          have hS := hb
          have hpend := hb
          replace hcw := hcw.then_below hb
          replace hB := hB.bel hb
          replace hM := hM.bel hb
          replace hB13 := hB13.bel hb
          have hz_w20 := hb.size
          clear hb
          refine oY rfl (fun W_ hW_ => (X.move rfl)) rfl ?_
          refine oY rfl (fun W_ hW_ => (X.nilChk rfl)) rfl ?_
          refine oY rfl (fun W_ hW_ => (X.fa fa111_0 rfl)) rfl ?_
          refine oY rfl (fun W_ hW_ => (X.ldL rfl (by obtain ⟨gx, rfl, h1, h2⟩ := hW_; exact h2) Try.underlying108 rfl rfl)) rfl ?_
          refine oY rfl (fun W_ hW_ => (X.fa fa57_0 rfl)) rfl ?_
          refine oY rfl (fun W_ hW_ => (X.ldN (cs := d.sum.map bv) rfl Try.underlying36 rfl (by rw [List.length_map, hds]; exact siz36) (by obtain ⟨gx, rfl, h1, h2⟩ := hW_; exact deltaSum h1))) rfl ?_
          refine oL rfl (fun Q_ hQ_ hP_ => ?_)
          refine st (X.lookIv (z := v1) keySum rfl ⟨d.sum, hds⟩ rfl Try.underlying108 (zint _) hM (by rw [mget_mput, if_pos rfl]; rfl)) rfl ?_
          refine Wn (hQ_ _ _ (⟨_, rfl, hB13, hB⟩) ?_)
          clear hQ_ hP_ Q_
          refine oY rfl (fun W_ hW_ => (X.eql rfl rfl)) rfl ?_
          refine oN ?_
          refine nN ?_
          refine W_if rfl (fun h71 => ?_) (fun h71 => ?_)
          · first | replace h71 := of_decide_eq_true h71 | replace h71 := of_decide_eq_false (notT h71) | replace h71 := notT h71 | skip
            refine W_drsN (fun W_ => ∃ gx, gx = g13 ∧ Blk W_ gx 57 d.cells.toArray ∧ Blk W_ g 111 #[.map (some b)]) [0, 1, 2, 3, 4, 5, 6] [true, true, true, true, true, true, false] (by kernel_rfl) (by kernel_rfl) (⟨_, rfl, hB13.drew, hB.drew⟩) ?_
            obtain ⟨w21, hw_⟩ : ∃ w21 : World, w21 = World.drew w20 := ⟨_, rfl⟩
            rw [← hw_]
            have hb : Below w20.heap.size w20 w21 := by rw [hw_]; exact bdrew (Below.refl _ _)
            clear hw_
            have hS := hb
            replace hpend := bthen hpend hb
            replace hcw := hcw.then_below hb
            replace hB := hB.bel hb
            replace hM := hM.bel hb
            replace hB13 := hB13.bel hb
            have hz_w21 := hb.size
            clear hb
            refine oY rfl (fun W_ hW_ => (X.move rfl)) rfl ?_
            refine oY rfl (fun W_ hW_ => (X.nilChk rfl)) rfl ?_
            refine oY rfl (fun W_ hW_ => (X.fa fa111_0 rfl)) rfl ?_
            refine oY rfl (fun W_ hW_ => (X.ldL rfl (by obtain ⟨gx, rfl, h1, h2⟩ := hW_; exact h2) Try.underlying108 rfl rfl)) rfl ?_
            refine oY rfl (fun W_ hW_ => (X.fa fa57_0 rfl)) rfl ?_
            refine oY rfl (fun W_ hW_ => (X.ldN (cs := d.sum.map bv) rfl Try.underlying36 rfl (by rw [List.length_map, hds]; exact siz36) (by obtain ⟨gx, rfl, h1, h2⟩ := hW_; exact deltaSum h1))) rfl ?_
            refine oL rfl (fun Q_ hQ_ hP_ => ?_)
            replace hR := hR.bel hpend
            replace hG := hG.bel hpend
            clear hpend
            refine sdel keySum rfl ⟨d.sum, hds⟩ rfl Try.underlying108 hM (fun w22 hM_ hCm => ?_)
            have hmx' := hmx.del hd hds hv2 h71 hM.nodup
            replace hR := hR.chg hCm (hR.neMap hM)
            replace hG := hG.chg hCm (hG.neMap hM)
            replace hB13 := hB13.chg hCm (hB13.neMap hM)
            replace hB := hB.chg hCm (hB.neMap hM)
            replace hcw := hcw.next hCm (fun i_ hi_ => .inl hi_)
            have hz206 := hCm.size
            replace hM := hM_
            obtain ⟨m', hm'⟩ : ∃ m', mdel (mput m ⟨d.sum, hds⟩ v1) ⟨d.sum, hds⟩ = m' := ⟨_, rfl⟩
            rw [hm'] at hM hmx'
            clear hCm hM_ hm'
            refine Wn (hQ_ _ _ (⟨_, rfl, hB13, hB⟩) ?_)
            clear hQ_ hP_ Q_
            refine oN ?_
            refine nN ?_
            refine W_reg ?_
            refine sm rfl rfl ?_
            refine st (X.fa fa57_0 rfl) rfl ?_
            refine st (X.ldN (cs := d.sum.map bv) rfl Try.underlying36 rfl (by rw [List.length_map, hds]; exact siz36) (deltaSum hB13)) rfl ?_
            refine sbs1 rfl Try.underlying39 inf36 (by show (d.sum.map bv).toArray.size = 32; simp [hds]) rfl (by decide) (by decide) rfl (fun g81 w23 hR81 hg81 hb => ?_)
            replace hcw := hcw.then_below hb
            replace hB := hB.bel hb
            replace hM := hM.bel hb
            replace hR := hR.bel hb
            replace hG := hG.bel hb
            have hz81 := hb.size
            have hgl2 : (keysOf ((L.take j).filter (goneP x))).length ≤ 16000 := by unfold keysOf; rw [List.length_map]; have := List.length_filter_le (goneP x) (L.take j); rw [List.length_take] at this; omega
            clear hb
            refine sapp rfl rfl Try.underlying39 inf36 rfl (by decide) hG (hR81.reads.src Try.underlying39 (by intro u hu; simp [Value.cells] at hu; obtain ⟨q, _, rfl⟩ := hu; rfl)) (by simp only [maxLen]; omega) (by omega) rfl (fun vg' w24 hG1 hCg hvg => ?_)
            have hOg1 := own_next hvg hOg (by omega)
            replace hB := hB.chg hCg (hG.ne_ hB (by decide))
            replace hR := hR.chg hCg (fun k hk => hR.apart_ hG (by decide) k hk)
            replace hM := hM.chg hCg (fun e => hG.neMap hM _ e rfl)
            replace hcw := hcw.next hCg (fun i_ hi_ => .inr (hOg i_ hi_))
            have hz84 := hCg.size
            clear hCg hvg
            refine sa rfl rfl ?_
            have hge := gone_take (x := x) hd
            rw [if_pos (by omega)] at hge
            replace hG : Row w24 36 32 vg' (keysOf ((L.take (j + 1)).filter (goneP x))).length (keyCells (keysOf ((L.take (j + 1)).filter (goneP x)))) := by rw [hge, keyCells_snoc, List.length_append]; exact hG1
            replace hOg := hOg1
            refine Wn ?_
            refine bN ?_
            refine tN ?_
            refine W_reg ?_
            refine st (X.add64 rfl rfl (by omega)) rfl ?_
            refine sm rfl rfl ?_
            refine Wn ?_
            refine tN ⟨_, _, ?_, ⟨j + 1, m', vg', rfl, rfl, by omega, hmx', hB, hM, hR, hG, hOg, hcw⟩, ⟨rfl, rfl, rfl, rfl, rfl, trivial⟩⟩
            omega
          · first | replace h71 := of_decide_eq_false h71 | replace h71 := of_decide_eq_true (notF h71) | replace h71 := notF h71 | skip
            have hmx' := hmx.put hd hds hv2 h71
            obtain ⟨m', hm'⟩ : ∃ m', mput m ⟨d.sum, hds⟩ v1 = m' := ⟨_, rfl⟩
            rw [hm'] at hM hmx'
            clear hm'
            have hge := gone_take (x := x) hd
            rw [if_neg (by omega), List.append_nil] at hge
            rw [← hge] at hG
            obtain ⟨vg', rfl⟩ : ∃ vg', vg' = vg := ⟨_, rfl⟩
            refine W_skip ?_
            refine bN ?_
            refine tN ?_
            refine W_reg ?_
            refine st (X.add64 rfl rfl (by omega)) rfl ?_
            refine sm rfl rfl ?_
            refine Wn ?_
            replace hR := hR.bel hpend
            replace hG := hG.bel hpend
            clear hpend
            refine tN ⟨_, _, ?_, ⟨j + 1, m', vg', rfl, rfl, by omega, hmx', hB, hM, hR, hG, hOg, hcw⟩, ⟨rfl, rfl, rfl, rfl, rfl, trivial⟩⟩
            omega
      · first | replace h49 := of_decide_eq_false h49 | replace h49 := of_decide_eq_true (notF h49) | replace h49 := notF h49 | skip
        obtain rfl : j = L.length := by omega
        rw [List.take_length] at hmx hG
        refine W_exit (tE (tE (bH ?_)))
        refine tN ?_
        refine W_rs ?_
        refine sm rfl rfl ?_
        refine sa rfl rfl ?_
        refine sa rfl rfl ?_
        refine Wn ?_
        refine tN ?_
        refine W_ret ?_
        have hadd : addM x l = (netM (x ++ l), keysOf (x.filter fun c => decide (tot c.sum (netM (x ++ l)) = 0)), 0) := by unfold addM; rw [if_neg (by omega), if_neg (by rw [hchk]; simp)]
        refine (rTT rfl rfl rfl ?_).1
        rw [hadd]
        refine ⟨vg, rfl, ?_, hOg, ⟨hB, m, hM, fun a => ?_⟩, hcw⟩
        · have hgone' : keysOf (L.filter (goneP x)) = keysOf (x.filter fun c => decide (tot c.sum (netM (x ++ l)) = 0)) := hgone
          rw [hgone'] at hG
          exact hG
        · have h1 := hmx a
          rw [tot_append, ← hL, net_tot, ← tot_append] at h1
          show mget m a = if tot a.1 (netM (x ++ l)) = 0 then none else some (tot a.1 (netM (x ++ l)))
          rw [net_tot]
          exact h1
end Go.Proofs.Ytnagmpnpgekhfaa
