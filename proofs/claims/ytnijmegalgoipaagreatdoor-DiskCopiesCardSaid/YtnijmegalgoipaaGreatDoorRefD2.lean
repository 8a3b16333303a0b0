/- armariumref01: put, take, and the calls that change which files there are. -/
import Derived.Test.YtnijmegalgoipaaGreatDoorRefD1
namespace Go.Proofs.YtnijmegalgoipaaGreatDoor
open Go.RowKit
theorem flat_drop3 : ∀ (l : List RRec) (i : Nat), (l.flatMap RRec.cells).drop (i * 3) = (l.drop i).flatMap RRec.cells
  | l, 0 => by simp
  | [], i + 1 => by simp
  | x :: l, i + 1 => by
    rw [List.drop_succ_cons, ← flat_drop3 l i, List.flatMap_cons, List.drop_append, List.drop_of_length_le (by rw [RRec.cells_length]; omega), RRec.cells_length, List.nil_append]
    congr 1
    omega
theorem flat_take3 : ∀ (l : List RRec) (i : Nat), (l.flatMap RRec.cells).take (i * 3) = (l.take i).flatMap RRec.cells
  | l, 0 => by simp
  | [], i + 1 => by simp
  | x :: l, i + 1 => by
    rw [List.take_succ_cons, List.flatMap_cons, List.flatMap_cons, ← flat_take3 l i, List.take_append, List.take_of_length_le (by rw [RRec.cells_length]; omega), RRec.cells_length]
    congr 2
    omega
theorem rcellsR_one {rs : List RRec} (h : ∀ r ∈ rs, r.v.oneCell' = true) : ∀ u ∈ rs.flatMap RRec.cells, u.oneCell' = true := by
  intro u hu
  obtain ⟨r, hr, hu⟩ := List.mem_flatMap.1 hu
  simp only [RRec.cells, List.mem_cons, List.not_mem_nil, or_false] at hu
  rcases hu with rfl | rfl | rfl
  · rfl
  · rfl
  · exact h r hr
theorem RIn.ones {w : World} {g : Nat} {D : DiskD} {vF : Value} {rs : List RRec} (h : RIn w g D vF rs) : ∀ r ∈ rs, r.v.oneCell' = true := fun r hr => (h.rows r hr).one1
/-- into its place -/
def insR : List RRec → RRec → List RRec
  | [], r => [r]
  | a :: l, r => if r.n < a.n then r :: a :: l else a :: insR l r
theorem insR_map {rs : List RRec} {r : RRec} (h : ∀ a ∈ rs, a.n ≠ r.n) : (insR rs r).map (fun r => (r.n, r.f)) = sput (rs.map fun r => (r.n, r.f)) r.n r.f := by
  induction rs with
  | nil => rfl
  | cons a l ih =>
    have h1 := h a (List.mem_cons_self ..)
    have h2 := ih (fun b hb => h b (List.mem_cons_of_mem _ hb))
    rw [List.map_cons, sput, if_neg (show ¬ r.n = a.n from fun e => h1 e.symm)]
    by_cases hlt : r.n < a.n
    · rw [insR, if_pos hlt, if_pos hlt]
      rfl
    · rw [insR, if_neg hlt, if_neg hlt, List.map_cons, h2]
theorem insR_mem {rs : List RRec} {r a : RRec} (h : a ∈ insR rs r) : a = r ∨ a ∈ rs := by
  induction rs with
  | nil => simpa [insR] using h
  | cons b l ih =>
    unfold insR at h
    split at h
    · rcases List.mem_cons.1 h with h | h
      · exact .inl h
      · exact .inr h
    · rcases List.mem_cons.1 h with h | h
      · exact .inr (by rw [h]; exact List.mem_cons_self ..)
      · exact (ih h).imp (fun e => e) (List.mem_cons_of_mem _)
theorem insR_length (rs : List RRec) (r : RRec) : (insR rs r).length = rs.length + 1 := by
  induction rs with
  | nil => rfl
  | cons a l ih =>
    unfold insR
    split
    · simp
    · simp [ih]
/-- out of its place -/
def delR (rs : List RRec) (i : Nat) : List RRec := rs.take i ++ rs.drop (i + 1)
theorem delR_map : ∀ {rs : List RRec} {i : Nat} {r : RRec}, rs[i]? = some r → (∀ j s, j < i → rs[j]? = some s → s.n ≠ r.n) → (delR rs i).map (fun r => (r.n, r.f)) = mdel (rs.map fun r => (r.n, r.f)) r.n
  | [], _, _, h, _ => by simp at h
  | a :: l, 0, r, h, _ => by
    simp only [List.getElem?_cons_zero, Option.some.injEq] at h
    subst h
    simp [delR, mdel]
  | a :: l, i + 1, r, h, hm => by
    rw [List.getElem?_cons_succ] at h
    have h0 := hm 0 a (by omega) rfl
    have := delR_map (rs := l) (i := i) h (fun j s hj hs => hm (j + 1) s (by omega) (by rw [List.getElem?_cons_succ]; exact hs))
    simp only [delR, List.take_succ_cons, List.cons_append, List.map_cons, List.drop_succ_cons] at this ⊢
    rw [mdel, if_neg (fun e => h0 e.symm)]
    rw [← this]
theorem gtS_lt {a b : List UInt8} : (!(Op.bytesLess a b || a == b)) = true ↔ b < a := by
  have h1 : Op.bytesLess a b = decide (a < b) := by
    have h := bytesLess_eq a b
    exact h
  rw [h1]
  simp only [Bool.not_eq_true', Bool.or_eq_false_iff, decide_eq_false_iff_not, beq_eq_false_iff_ne]
  constructor
  · rintro ⟨p, q⟩
    rcases klt_tri a b with e | e | e
    · exact absurd e p
    · exact absurd e q
    · exact e
  · intro e
    exact ⟨fun p => klt_irrefl _ (klt_trans p e), fun p => by rw [p] at e; exact klt_irrefl _ e⟩
/-- what holds along put's loop -/
def PutInv (rs : List RRec) (r : RRec) (i : Nat) (dn : Bool) (out : List RRec) : Prop :=
  if dn = true then insR rs r = out ++ rs.drop i else out = rs.take i ∧ insR rs r = rs.take i ++ insR (rs.drop i) r
theorem PutInv.len {rs out : List RRec} {r : RRec} {i : Nat} {dn : Bool} (h : PutInv rs r i dn out) (hi : i ≤ rs.length) : out.length ≤ i + 1 := by
  unfold PutInv at h
  split at h
  · have e := congrArg List.length h
    rw [insR_length, List.length_append, List.length_drop] at e
    omega
  · rw [h.1, List.length_take]
    omega
theorem PutInv.first {rs out : List RRec} {r x : RRec} {i : Nat} (h : PutInv rs r i false out) (hd : rs.drop i = x :: rs.drop (i + 1)) (hlt : r.n < x.n) : PutInv rs r i true (out ++ [r]) := by
  obtain ⟨h1, h2⟩ := h
  show insR rs r = out ++ [r] ++ rs.drop i
  rw [h2, ← h1, hd, insR, if_pos hlt]
  simp
theorem PutInv.next {rs out : List RRec} {r x : RRec} {i : Nat} {dn : Bool} (h : PutInv rs r i dn out) (hd : rs.drop i = x :: rs.drop (i + 1)) (hx : rs[i]? = some x) (hc : dn = false → ¬ r.n < x.n) : PutInv rs r (i + 1) dn (out ++ [x]) := by
  cases dn with
  | true =>
    have h' : insR rs r = out ++ rs.drop i := h
    show insR rs r = out ++ [x] ++ rs.drop (i + 1)
    rw [h', hd]
    simp
  | false =>
    obtain ⟨h1, h2⟩ := h
    refine ⟨by rw [h1, take_next' hx], ?_⟩
    rw [h2, hd, insR, if_neg (hc rfl), take_next' hx]
    simp
set_option maxRecDepth 10000 in
theorem put_any' (g : Nat) (D : DiskD) (vF : Value) (rs : List RRec) (r : RRec) (w : World) (h : RIn w g D vF rs) (h1 : r.v.oneCell' = true) (hrl : rs.length ≤ 1000000) :
    Calls Tryz.prog 96 #[.pointer (some ⟨g, 0, none⟩), .agg r.cells.toArray] w fun e w' => e = .returned (.tuple #[]) ∧ ∃ vo, Blk w' g 83 #[vo, .int .i64 D.limit, .int .i64 D.refused, .bool D.stops, .int .i64 D.left] ∧
      Row w' 92 3 vo (insR rs r).length ((insR rs r).flatMap RRec.cells) ∧ (∀ k, vo.ownBlock = some k → w.heap.size ≤ k) ∧ Chg (fun k => k = g) w w' := by
  have hB := h.blk
  have hlt := hB.lt
  obtain ⟨a, c, rfl, hc1, hc2⟩ := h.row.shape
  have hnn := h.row.nle
  obtain ⟨n, f, v⟩ := r
  refine W_enter (args := [.pointer (some ⟨g, 0, none⟩), .agg #[str n, str f.last, v]]) 55 Tryz.func96 rfl rfl rfl ?_
  refine W_sub [(0, .pointer (some ⟨g, 0, none⟩)), (1, .agg #[str n, str f.last, v])] ?_ ⟨rfl, rfl, trivial⟩
  have hbw := Below.refl w.heap.size w
  refine W_rs ?_
  refine sboxA rfl rfl (fun g3 w1 hB3 hg3 hb hl3 => ?_)
  replace hbw := bthen hbw hb
  have hz_w1 := hb.size
  clear hb
  refine Wn ?_
  refine tN ?_
  refine W_rs ?_
  refine sa rfl rfl ?_
  refine Wn ?_
  refine tN ?_
  refine W_rs ?_
  refine sa rfl rfl ?_
  refine Wn ?_
  refine tN ?_
  refine W_seq ?_
  refine W_rs ?_
  refine sa rfl rfl ?_
  refine Wn ?_
  refine tN ?_
  refine W_block ?_
  refine W_lp (fun nw2_ lw2_ w2 => ∃ i : Nat, ∃ dn : Bool, ∃ out : List RRec, ∃ vo : Value, nw2_ = rs.length - i ∧ lw2_ = ([(0, .pointer (some ⟨g, 0, none⟩)), (3, .pointer (some ⟨g3, 0, none⟩)), (4, vo), (5, .bool dn), (6, .int .i64 i)] : Env) ∧ (Row w2 92 3 vo out.length (out.flatMap RRec.cells)) ∧ (∀ k, vo.ownBlock = some k → w.heap.size ≤ k ∧ ¬ k = g3) ∧ (Blk w2 g 83 #[.slice a rs.length c, .int .i64 D.limit, .int .i64 D.refused, .bool D.stops, .int .i64 D.left]) ∧ (Blk w2 g3 92 #[str n, str f.last, v]) ∧ (i ≤ rs.length) ∧ (PutInv rs ⟨n, f, v⟩ i dn out) ∧ (Below w.heap.size w w2)) _ ⟨_, ⟨0, false, [], .slice none 0 0, rfl, rfl, Row.nil _ _ _, (by simp [Value.ownBlock]), h.blk.bel hbw, hB3, by omega, ⟨rfl, by simp⟩, hbw⟩, ⟨rfl, rfl, rfl, rfl, rfl, trivial⟩⟩ ?_
  clear hB3 hbw
  rintro nw2_ lw2_ w2 ⟨i, dn, out, vo, rfl, rfl, hR, hvo, hB, hB3, hi, hin, hbw⟩
  have hz_w2 := hbw.size
  have hlt_hB_w2 := hB.lt
  have hlt_hB3_w2 := hB3.lt
  have hol := hin.len hi
  refine W_seq ?_
  refine W_rs ?_
  refine sm rfl rfl ?_
  refine sm rfl rfl ?_
  refine st (X.nilChk rfl) rfl ?_
  refine st (X.fa fa83_0 rfl) rfl ?_
  refine st (X.ldL rfl hB Tryz.underlying81 rfl rfl) rfl ?_
  refine st (X.lenL rfl rfl Tryz.underlying81) rfl ?_
  refine st (X.lss rfl rfl) rfl ?_
  refine Wn ?_
  refine tN ?_
  refine W_if rfl (fun h13 => ?_) (fun h13 => ?_)
  · first | replace h13 := of_decide_eq_true h13 | replace h13 := of_decide_eq_false (notT h13) | replace h13 := notT h13 | skip
    obtain ⟨x, hx⟩ : ∃ x, rs[i]? = some x := ⟨_, List.getElem?_eq_getElem (by omega)⟩
    obtain ⟨gF, oF, c', hv, hgF⟩ := h.row.reads.some_ (by omega)
    injection hv with e1 _ e3
    subst e1 e3
    have hdx : rs.drop i = x :: rs.drop (i + 1) := by
      obtain ⟨hj, rfl⟩ := List.getElem?_eq_some_iff.1 hx
      exact List.drop_eq_getElem_cons hj
    have hrec := h.row.reads.rec_ (f := RRec.cells) (rrec_len rs) hx
    refine W_skip ?_
    refine tN ?_
    refine W_seq ?_
    refine W_block ?_
    refine W_seq ?_
    by_cases hsp_ : dn = false
    · refine W_drsN (fun W_ => Blk W_ g 83 #[.slice (some ⟨gF, oF, none⟩) rs.length c, .int .i64 D.limit, .int .i64 D.refused, .bool D.stops, .int .i64 D.left] ∧ Blk W_ g3 92 #[str n, str f.last, v] ∧ W_.cell? ⟨gF, oF + i * 3 + 0, none⟩ = some (str x.n)) [0, 1, 2, 3, 4, 5, 6, 7, 8, 9, 10, 11, 12, 13, 14] [true, true, true, true, true, true, true, true, true, true, true, true, true, true, true] (by kernel_rfl) (by kernel_rfl) (⟨hB.bel (bdrew (Below.refl _ _)), hB3.bel (bdrew (Below.refl _ _)), (h.bel (bdrew hbw)).row.reads.rec_ (f := RRec.cells) (rrec_len rs) hx 0 _ rfl⟩) ?_
      obtain ⟨w3, hw_⟩ : ∃ w3 : World, w3 = World.drew w2 := ⟨_, rfl⟩
      rw [← hw_]
      have hb : Below w2.heap.size w2 w3 := by rw [hw_]; exact bdrew (Below.refl _ _)
      clear hw_
      have hS := hb
      replace hbw := bthen hbw hb
      replace hB3 := hB3.bel hb
      replace hR := hR.bel hb
      replace hB := hB.bel hb
      have hz_w3 := hb.size
      clear hb
      refine oY rfl (fun W_ hW_ => (X.move rfl)) rfl ?_
      refine oY rfl (fun W_ hW_ => (X.not rfl)) rfl ?_
      refine oY rfl (fun W_ hW_ => (X.mvB (c := true) rfl (by rw [hsp_]; rfl))) rfl ?_
      refine oYg (g := 18) rfl rfl rfl rfl (fun W_ hW_ => (X.move rfl)) rfl ?_
      refine oYg (g := 18) rfl rfl rfl rfl (fun W_ hW_ => (X.nilChk rfl)) rfl ?_
      refine oYg (g := 18) rfl rfl rfl rfl (fun W_ hW_ => (X.fa fa83_0 rfl)) rfl ?_
      refine oYg (g := 18) rfl rfl rfl rfl (fun W_ hW_ => (X.ldL rfl hW_.1 Tryz.underlying81 rfl rfl)) rfl ?_
      refine oYg (g := 18) rfl rfl rfl rfl (fun W_ hW_ => (X.move rfl)) rfl ?_
      refine oYg (g := 18) rfl rfl rfl rfl (fun W_ hW_ => (X.idxA rfl rfl Tryz.underlying81 siz92 rfl (by omega))) rfl ?_
      refine oYg (g := 18) rfl rfl rfl rfl (fun W_ hW_ => (X.fa fa92_0 rfl)) rfl ?_
      refine oYg (g := 18) rfl rfl rfl rfl (fun W_ hW_ => (X.ld rfl Tryz.underlying9 rfl hW_.2.2)) rfl ?_
      refine oYg (g := 18) rfl rfl rfl rfl (fun W_ hW_ => (X.fa fa92_0 rfl)) rfl ?_
      refine oYg (g := 18) rfl rfl rfl rfl (fun W_ hW_ => (X.ldL rfl hW_.2.1 Tryz.underlying9 rfl rfl)) rfl ?_
      refine oYg (g := 18) rfl rfl rfl rfl (fun W_ hW_ => (X.gtS rfl rfl)) rfl ?_
      refine oY rfl (fun W_ hW_ => (X.pickT rfl rfl)) rfl ?_
      refine oN ?_
      refine nN ?_
      refine W_if rfl (fun h30 => ?_) (fun h30 => ?_)
      · first | replace h30 := of_decide_eq_true h30 | replace h30 := of_decide_eq_false (notT h30) | replace h30 := notT h30 | skip
        refine W_rs ?_
        refine sm rfl rfl ?_
        refine st (X.ldBN rfl hB3 Tryz.underlying92 rfl siz92) rfl ?_
        refine sbs1 rfl Tryz.underlying81 inf92 rfl rfl (by decide) (by decide) rfl (fun g33 w4 hR33 hg33 hb => ?_)
        replace hbw := bthen hbw hb
        replace hB3 := hB3.bel hb
        replace hR := hR.bel hb
        replace hB := hB.bel hb
        have hz_w4 := hb.size
        clear hb
        have hl33 := hR33.blt (by decide)
        refine sapp rfl rfl Tryz.underlying81 inf92 rfl (by decide) hR (hR33.reads.src Tryz.underlying81 (by intro u hu; exact rcellsR_one (rs := [(⟨n, f, v⟩ : RRec)]) (by intro q hq; rw [List.mem_singleton.1 hq]; exact h1) u (by simpa [RRec.cells, Value.cells] using hu))) (by simp only [maxLen]; omega) (by omega) rfl (fun vo' w5 hR2 hC2 hv => ?_)
        have hz_w5 := hC2.size
        have hRn : Row w5 92 3 vo' (out ++ [(⟨n, f, v⟩ : RRec)]).length ((out ++ [(⟨n, f, v⟩ : RRec)]).flatMap RRec.cells) := by rw [List.flatMap_append, List.length_append]; simpa [RRec.cells, Value.cells] using hR2
        have hvn : ∀ k, vo'.ownBlock = some k → w.heap.size ≤ k ∧ ¬ k = g3 := fun k hk => by
          rcases hv with hv | hv
          · exact hvo k (hv ▸ hk)
          · rw [hv] at hk
            injection hk with hk
            have := hB3.lt
            omega
        have hbw' := bapp hbw hC2 (fun k hk => (hvo k hk).1)
        replace hB3 := hB3.chg hC2 (fun e => (hvo _ e).2 rfl)
        replace hB := h.blk.bel hbw'
        clear hbw hR2 hC2 hR hvo hv
        have hbw := hbw'
        clear hbw'
        rw [hsp_] at hin
        have hin' := hin.first (r := ⟨n, f, v⟩) hdx (gtS_lt.1 (by rw [h30]; rfl))
        obtain ⟨out, hout⟩ : ∃ o, out ++ [(⟨n, f, v⟩ : RRec)] = o := ⟨_, rfl⟩
        rw [hout] at hRn hin'
        clear hin hout hol
        have hin := hin'
        have hR := hRn
        have hvo := hvn
        have hol := hin.len hi
        clear hin' hRn hvn
        refine sa rfl rfl ?_
        refine Wn ?_
        refine tN ?_
        refine W_reg ?_
        refine sa rfl rfl ?_
        refine Wn ?_
        refine tN ?_
        refine W_reg ?_
        refine sm rfl rfl ?_
        refine sm rfl rfl ?_
        refine st (X.nilChk rfl) rfl ?_
        refine st (X.fa fa83_0 rfl) rfl ?_
        refine st (X.ldL rfl hB Tryz.underlying81 rfl rfl) rfl ?_
        refine sm rfl rfl ?_
        refine st (X.idxA rfl rfl Tryz.underlying81 siz92 rfl (by omega)) rfl ?_
        have hcnd : True := trivial
        refine st (X.ldN (cs := x.cells) rfl Tryz.underlying92 rfl siz92 ((h.bel hbw).row.reads.rec_ (f := RRec.cells) (rrec_len rs) hx)) rfl ?_
        refine sbs1 rfl Tryz.underlying81 inf92 rfl rfl (by decide) (by decide) rfl (fun g43 w6 hR43 hg43 hb => ?_)
        replace hbw := bthen hbw hb
        replace hB3 := hB3.bel hb
        replace hR := hR.bel hb
        replace hB := hB.bel hb
        have hz_w6 := hb.size
        clear hb
        have hl43 := hR43.blt (by decide)
        refine sapp rfl rfl Tryz.underlying81 inf92 rfl (by decide) hR (hR43.reads.src Tryz.underlying81 (by intro u hu; exact rcellsR_one (rs := [x]) (by intro q hq; rw [List.mem_singleton.1 hq]; exact (h.ones x (List.mem_of_getElem? hx))) u (by simpa [RRec.cells, Value.cells] using hu))) (by simp only [maxLen]; omega) (by omega) rfl (fun vo' w7 hR2 hC2 hv => ?_)
        have hz_w7 := hC2.size
        have hRn : Row w7 92 3 vo' (out ++ [x]).length ((out ++ [x]).flatMap RRec.cells) := by rw [List.flatMap_append, List.length_append]; simpa [RRec.cells, Value.cells] using hR2
        have hvn : ∀ k, vo'.ownBlock = some k → w.heap.size ≤ k ∧ ¬ k = g3 := fun k hk => by
          rcases hv with hv | hv
          · exact hvo k (hv ▸ hk)
          · rw [hv] at hk
            injection hk with hk
            have := hB3.lt
            omega
        have hbw' := bapp hbw hC2 (fun k hk => (hvo k hk).1)
        replace hB3 := hB3.chg hC2 (fun e => (hvo _ e).2 rfl)
        replace hB := h.blk.bel hbw'
        clear hbw hR2 hC2 hR hvo hv
        have hbw := hbw'
        clear hbw'
        have hinn := hin.next hdx hx (by first | (intro e; exact absurd e hsp_) | (intro e; cases e; done) | (intro _ e; have := gtS_lt.2 e; rw [h30] at this; cases this))
        refine sa rfl rfl ?_
        refine Wn ?_
        refine bN ?_
        refine tN ?_
        refine W_reg ?_
        refine sm rfl rfl ?_
        refine st (X.add64 rfl rfl (by omega)) rfl ?_
        refine sa rfl rfl ?_
        refine Wn ?_
        refine tN ⟨_, _, ?_, ⟨i + 1, _, _, _, rfl, rfl, hRn, hvn, h.blk.bel hbw, hB3, by omega, hinn, hbw⟩, ⟨rfl, rfl, rfl, rfl, rfl, trivial⟩⟩
        omega
      · first | replace h30 := of_decide_eq_false h30 | replace h30 := of_decide_eq_true (notF h30) | replace h30 := notF h30 | skip
        refine W_skip ?_
        refine tN ?_
        refine W_reg ?_
        refine sm rfl rfl ?_
        refine sm rfl rfl ?_
        refine st (X.nilChk rfl) rfl ?_
        refine st (X.fa fa83_0 rfl) rfl ?_
        refine st (X.ldL rfl hB Tryz.underlying81 rfl rfl) rfl ?_
        refine sm rfl rfl ?_
        refine st (X.idxA rfl rfl Tryz.underlying81 siz92 rfl (by omega)) rfl ?_
        have hcnd : True := trivial
        refine st (X.ldN (cs := x.cells) rfl Tryz.underlying92 rfl siz92 ((h.bel hbw).row.reads.rec_ (f := RRec.cells) (rrec_len rs) hx)) rfl ?_
        refine sbs1 rfl Tryz.underlying81 inf92 rfl rfl (by decide) (by decide) rfl (fun g43 w8 hR43 hg43 hb => ?_)
        replace hbw := bthen hbw hb
        replace hB3 := hB3.bel hb
        replace hR := hR.bel hb
        replace hB := hB.bel hb
        have hz_w8 := hb.size
        clear hb
        have hl43 := hR43.blt (by decide)
        refine sapp rfl rfl Tryz.underlying81 inf92 rfl (by decide) hR (hR43.reads.src Tryz.underlying81 (by intro u hu; exact rcellsR_one (rs := [x]) (by intro q hq; rw [List.mem_singleton.1 hq]; exact (h.ones x (List.mem_of_getElem? hx))) u (by simpa [RRec.cells, Value.cells] using hu))) (by simp only [maxLen]; omega) (by omega) rfl (fun vo' w9 hR2 hC2 hv => ?_)
        have hz_w9 := hC2.size
        have hRn : Row w9 92 3 vo' (out ++ [x]).length ((out ++ [x]).flatMap RRec.cells) := by rw [List.flatMap_append, List.length_append]; simpa [RRec.cells, Value.cells] using hR2
        have hvn : ∀ k, vo'.ownBlock = some k → w.heap.size ≤ k ∧ ¬ k = g3 := fun k hk => by
          rcases hv with hv | hv
          · exact hvo k (hv ▸ hk)
          · rw [hv] at hk
            injection hk with hk
            have := hB3.lt
            omega
        have hbw' := bapp hbw hC2 (fun k hk => (hvo k hk).1)
        replace hB3 := hB3.chg hC2 (fun e => (hvo _ e).2 rfl)
        replace hB := h.blk.bel hbw'
        clear hbw hR2 hC2 hR hvo hv
        have hbw := hbw'
        clear hbw'
        have hinn := hin.next hdx hx (by first | (intro e; exact absurd e hsp_) | (intro e; cases e; done) | (intro _ e; have := gtS_lt.2 e; rw [h30] at this; cases this))
        refine sa rfl rfl ?_
        refine Wn ?_
        refine bN ?_
        refine tN ?_
        refine W_reg ?_
        refine sm rfl rfl ?_
        refine st (X.add64 rfl rfl (by omega)) rfl ?_
        refine sa rfl rfl ?_
        refine Wn ?_
        refine tN ⟨_, _, ?_, ⟨i + 1, _, _, _, rfl, rfl, hRn, hvn, h.blk.bel hbw, hB3, by omega, hinn, hbw⟩, ⟨rfl, rfl, rfl, rfl, rfl, trivial⟩⟩
        omega
    · refine W_drsN (fun W_ => Blk W_ g 83 #[.slice (some ⟨gF, oF, none⟩) rs.length c, .int .i64 D.limit, .int .i64 D.refused, .bool D.stops, .int .i64 D.left] ∧ Blk W_ g3 92 #[str n, str f.last, v] ∧ W_.cell? ⟨gF, oF + i * 3 + 0, none⟩ = some (str x.n)) [0, 1, 2, 3, 4, 5, 6, 7, 8, 9, 10, 11, 12, 13, 14] [true, true, true, true, true, true, true, true, true, true, true, true, true, true, true] (by kernel_rfl) (by kernel_rfl) (⟨hB.bel (bdrew (Below.refl _ _)), hB3.bel (bdrew (Below.refl _ _)), (h.bel (bdrew hbw)).row.reads.rec_ (f := RRec.cells) (rrec_len rs) hx 0 _ rfl⟩) ?_
      obtain ⟨w10, hw_⟩ : ∃ w10 : World, w10 = World.drew w2 := ⟨_, rfl⟩
      rw [← hw_]
      have hb : Below w2.heap.size w2 w10 := by rw [hw_]; exact bdrew (Below.refl _ _)
      clear hw_
      have hS := hb
      replace hbw := bthen hbw hb
      replace hB3 := hB3.bel hb
      replace hR := hR.bel hb
      replace hB := hB.bel hb
      have hz_w10 := hb.size
      clear hb
      refine oY rfl (fun W_ hW_ => (X.move rfl)) rfl ?_
      refine oY rfl (fun W_ hW_ => (X.not rfl)) rfl ?_
      refine oY rfl (fun W_ hW_ => (X.mvB (c := false) rfl (by simpa using hsp_))) rfl ?_
      refine oNg (g := 18) rfl rfl rfl rfl (⟨hB, hB3, (h.bel hbw).row.reads.rec_ (f := RRec.cells) (rrec_len rs) hx 0 _ rfl⟩) rfl ?_
      refine oNg (g := 18) rfl rfl rfl rfl (⟨hB, hB3, (h.bel hbw).row.reads.rec_ (f := RRec.cells) (rrec_len rs) hx 0 _ rfl⟩) rfl ?_
      refine oNg (g := 18) rfl rfl rfl rfl (⟨hB, hB3, (h.bel hbw).row.reads.rec_ (f := RRec.cells) (rrec_len rs) hx 0 _ rfl⟩) rfl ?_
      refine oNg (g := 18) rfl rfl rfl rfl (⟨hB, hB3, (h.bel hbw).row.reads.rec_ (f := RRec.cells) (rrec_len rs) hx 0 _ rfl⟩) rfl ?_
      refine oNg (g := 18) rfl rfl rfl rfl (⟨hB, hB3, (h.bel hbw).row.reads.rec_ (f := RRec.cells) (rrec_len rs) hx 0 _ rfl⟩) rfl ?_
      refine oNg (g := 18) rfl rfl rfl rfl (⟨hB, hB3, (h.bel hbw).row.reads.rec_ (f := RRec.cells) (rrec_len rs) hx 0 _ rfl⟩) rfl ?_
      refine oNg (g := 18) rfl rfl rfl rfl (⟨hB, hB3, (h.bel hbw).row.reads.rec_ (f := RRec.cells) (rrec_len rs) hx 0 _ rfl⟩) rfl ?_
      refine oNg (g := 18) rfl rfl rfl rfl (⟨hB, hB3, (h.bel hbw).row.reads.rec_ (f := RRec.cells) (rrec_len rs) hx 0 _ rfl⟩) rfl ?_
      refine oNg (g := 18) rfl rfl rfl rfl (⟨hB, hB3, (h.bel hbw).row.reads.rec_ (f := RRec.cells) (rrec_len rs) hx 0 _ rfl⟩) rfl ?_
      refine oNg (g := 18) rfl rfl rfl rfl (⟨hB, hB3, (h.bel hbw).row.reads.rec_ (f := RRec.cells) (rrec_len rs) hx 0 _ rfl⟩) rfl ?_
      refine oNg (g := 18) rfl rfl rfl rfl (⟨hB, hB3, (h.bel hbw).row.reads.rec_ (f := RRec.cells) (rrec_len rs) hx 0 _ rfl⟩) rfl ?_
      refine oY rfl (fun W_ hW_ => (X.pickF rfl rfl)) rfl ?_
      refine oN ?_
      refine nN ?_
      refine W_no rfl (rfl) ?_
      refine W_skip ?_
      refine tN ?_
      refine W_reg ?_
      refine sm rfl rfl ?_
      refine sm rfl rfl ?_
      refine st (X.nilChk rfl) rfl ?_
      refine st (X.fa fa83_0 rfl) rfl ?_
      refine st (X.ldL rfl hB Tryz.underlying81 rfl rfl) rfl ?_
      refine sm rfl rfl ?_
      refine st (X.idxA rfl rfl Tryz.underlying81 siz92 rfl (by omega)) rfl ?_
      have hcnd : True := trivial
      refine st (X.ldN (cs := x.cells) rfl Tryz.underlying92 rfl siz92 ((h.bel hbw).row.reads.rec_ (f := RRec.cells) (rrec_len rs) hx)) rfl ?_
      refine sbs1 rfl Tryz.underlying81 inf92 rfl rfl (by decide) (by decide) rfl (fun g43 w11 hR43 hg43 hb => ?_)
      replace hbw := bthen hbw hb
      replace hB3 := hB3.bel hb
      replace hR := hR.bel hb
      replace hB := hB.bel hb
      have hz_w11 := hb.size
      clear hb
      have hl43 := hR43.blt (by decide)
      refine sapp rfl rfl Tryz.underlying81 inf92 rfl (by decide) hR (hR43.reads.src Tryz.underlying81 (by intro u hu; exact rcellsR_one (rs := [x]) (by intro q hq; rw [List.mem_singleton.1 hq]; exact (h.ones x (List.mem_of_getElem? hx))) u (by simpa [RRec.cells, Value.cells] using hu))) (by simp only [maxLen]; omega) (by omega) rfl (fun vo' w12 hR2 hC2 hv => ?_)
      have hz_w12 := hC2.size
      have hRn : Row w12 92 3 vo' (out ++ [x]).length ((out ++ [x]).flatMap RRec.cells) := by rw [List.flatMap_append, List.length_append]; simpa [RRec.cells, Value.cells] using hR2
      have hvn : ∀ k, vo'.ownBlock = some k → w.heap.size ≤ k ∧ ¬ k = g3 := fun k hk => by
        rcases hv with hv | hv
        · exact hvo k (hv ▸ hk)
        · rw [hv] at hk
          injection hk with hk
          have := hB3.lt
          omega
      have hbw' := bapp hbw hC2 (fun k hk => (hvo k hk).1)
      replace hB3 := hB3.chg hC2 (fun e => (hvo _ e).2 rfl)
      replace hB := h.blk.bel hbw'
      clear hbw hR2 hC2 hR hvo hv
      have hbw := hbw'
      clear hbw'
      have hinn := hin.next hdx hx (by first | (intro e; exact absurd e hsp_) | (intro e; cases e; done) | (intro _ e; have := gtS_lt.2 e; rw [h30] at this; cases this))
      refine sa rfl rfl ?_
      refine Wn ?_
      refine bN ?_
      refine tN ?_
      refine W_reg ?_
      refine sm rfl rfl ?_
      refine st (X.add64 rfl rfl (by omega)) rfl ?_
      refine sa rfl rfl ?_
      refine Wn ?_
      refine tN ⟨_, _, ?_, ⟨i + 1, _, _, _, rfl, rfl, hRn, hvn, h.blk.bel hbw, hB3, by omega, hinn, hbw⟩, ⟨rfl, rfl, rfl, rfl, rfl, trivial⟩⟩
      omega
  · first | replace h13 := of_decide_eq_false h13 | replace h13 := of_decide_eq_true (notF h13) | replace h13 := notF h13 | skip
    refine W_exit (tE (tE (bH ?_)))
    refine tN ?_
    refine W_seq ?_
    refine W_rs ?_
    refine sm rfl rfl ?_
    refine st (X.not rfl) rfl ?_
    refine Wn ?_
    refine tN ?_
    refine W_if rfl (fun h46 => ?_) (fun h46 => ?_)
    · first | replace h46 := of_decide_eq_true h46 | replace h46 := of_decide_eq_false (notT h46) | replace h46 := notT h46 | skip
      refine W_reg ?_
      refine sm rfl rfl ?_
      refine st (X.ldBN rfl hB3 Tryz.underlying92 rfl siz92) rfl ?_
      refine sbs1 rfl Tryz.underlying81 inf92 rfl rfl (by decide) (by decide) rfl (fun g49 w13 hR49 hg49 hb => ?_)
      replace hbw := bthen hbw hb
      replace hB3 := hB3.bel hb
      replace hR := hR.bel hb
      replace hB := hB.bel hb
      have hz_w13 := hb.size
      clear hb
      have hl49 := hR49.blt (by decide)
      refine sapp rfl rfl Tryz.underlying81 inf92 rfl (by decide) hR (hR49.reads.src Tryz.underlying81 (by intro u hu; exact rcellsR_one (rs := [(⟨n, f, v⟩ : RRec)]) (by intro q hq; rw [List.mem_singleton.1 hq]; exact h1) u (by simpa [RRec.cells, Value.cells] using hu))) (by simp only [maxLen]; omega) (by omega) rfl (fun vo' w14 hR2 hC2 hv => ?_)
      have hz_w14 := hC2.size
      have hRn : Row w14 92 3 vo' (out ++ [(⟨n, f, v⟩ : RRec)]).length ((out ++ [(⟨n, f, v⟩ : RRec)]).flatMap RRec.cells) := by rw [List.flatMap_append, List.length_append]; simpa [RRec.cells, Value.cells] using hR2
      have hvn : ∀ k, vo'.ownBlock = some k → w.heap.size ≤ k ∧ ¬ k = g3 := fun k hk => by
        rcases hv with hv | hv
        · exact hvo k (hv ▸ hk)
        · rw [hv] at hk
          injection hk with hk
          have := hB3.lt
          omega
      have hbw' := bapp hbw hC2 (fun k hk => (hvo k hk).1)
      replace hB3 := hB3.chg hC2 (fun e => (hvo _ e).2 rfl)
      replace hB := h.blk.bel hbw'
      clear hbw hR2 hC2 hR hvo hv
      have hbw := hbw'
      clear hbw'
      have hfin : insR rs ⟨n, f, v⟩ = out ++ [(⟨n, f, v⟩ : RRec)] := by
        rw [h46] at hin
        obtain ⟨e1, e2⟩ := hin
        obtain rfl : i = rs.length := by omega
        rw [e2, e1, List.drop_of_length_le (by omega)]
        rfl
      rw [← hfin] at hRn
      have hR := hRn
      have hvo := hvn
      clear hRn hvn
      refine sa rfl rfl ?_
      refine Wn ?_
      refine tN ?_
      refine W_reg ?_
      refine sm rfl rfl ?_
      refine sm rfl rfl ?_
      refine st (X.nilChk rfl) rfl ?_
      refine st (X.fa fa83_0 rfl) rfl ?_
      refine ssB rfl rfl hB siz81 hR.one1 (by simp) (fun w15 hB_ hc_ => ?_)
      have hcw := (Chg.of_below hbw (fun k => k = g)).trans hc_ (fun i _ h => h)
      have hR' := hR.chg hc_ (fun k hk => by have := (hvo k hk).1; show ¬ k = g; omega)
      refine Wn ?_
      exact (r0 rfl ⟨rfl, _, hB_, hR', fun k hk => (hvo k hk).1, hcw⟩).2
    · first | replace h46 := of_decide_eq_false h46 | replace h46 := of_decide_eq_true (notF h46) | replace h46 := notF h46 | skip
      have hfin : insR rs ⟨n, f, v⟩ = out := by
        rw [h46] at hin
        have hin' : insR rs ⟨n, f, v⟩ = out ++ rs.drop i := hin
        obtain rfl : i = rs.length := by omega
        rw [hin', List.drop_of_length_le (by omega), List.append_nil]
      rw [← hfin] at hR
      refine W_skip ?_
      refine tN ?_
      refine W_reg ?_
      refine sm rfl rfl ?_
      refine sm rfl rfl ?_
      refine st (X.nilChk rfl) rfl ?_
      refine st (X.fa fa83_0 rfl) rfl ?_
      refine ssB rfl rfl hB siz81 hR.one1 (by simp) (fun w16 hB_ hc_ => ?_)
      have hcw := (Chg.of_below hbw (fun k => k = g)).trans hc_ (fun i _ h => h)
      have hR' := hR.chg hc_ (fun k hk => by have := (hvo k hk).1; show ¬ k = g; omega)
      refine Wn ?_
      exact (r0 rfl ⟨rfl, _, hB_, hR', fun k hk => (hvo k hk).1, hcw⟩).2
theorem rec_one {a b : List UInt8} {v : Value} (h : v.oneCell' = true) : (#[str a, str b, v].toList.all (fun x => x.oneCell')) = true := by
  show (true && (true && (v.oneCell' && true))) = true
  rw [h]
  rfl
set_option maxRecDepth 10000 in
theorem take_any' (g : Nat) (D : DiskD) (vF : Value) (rs : List RRec) (i : Nat) (r : RRec) (w : World) (h : RIn w g D vF rs) (hr : rs[i]? = some r) (hrl : rs.length ≤ 1000000) :
    Calls Tryz.prog 98 #[.pointer (some ⟨g, 0, none⟩), .int .i64 i] w fun e w' => e = .returned (.agg r.cells.toArray) ∧ ∃ vo, Blk w' g 83 #[vo, .int .i64 D.limit, .int .i64 D.refused, .bool D.stops, .int .i64 D.left] ∧
      Row w' 92 3 vo (delR rs i).length ((delR rs i).flatMap RRec.cells) ∧ (∀ k, vo.ownBlock = some k → w.heap.size ≤ k) ∧ Chg (fun k => k = g) w w' := by
  have hB := h.blk
  have hlt := hB.lt
  have hRF := h.row
  have hi := (List.getElem?_eq_some_iff.1 hr).1
  obtain ⟨a, c, rfl, hc1, hc2⟩ := h.row.shape
  obtain ⟨gF, oF, c', hv, hgF⟩ := h.row.reads.some_ (by omega)
  injection hv with e1 _ e3
  subst e1 e3
  have hnn := h.row.nle
  have h1r := h.ones r (List.mem_of_getElem? hr)
  have hrows := h.row.lt
  obtain ⟨n, f, v⟩ := r
  refine W_enter (args := [.pointer (some ⟨g, 0, none⟩), .int .i64 i]) 35 Tryz.func98 rfl rfl rfl ?_
  refine W_sub [(0, .pointer (some ⟨g, 0, none⟩)), (1, .int .i64 i)] ?_ ⟨rfl, rfl, trivial⟩
  have hcw := Chg.refl (fun k => k = g) w
  refine W_rs ?_
  refine salA inf92 rfl (fun g4 w1 hB4 hg4 hb hl4 => ?_)
  replace hcw := hcw.then_below hb
  replace hB := hB.bel hb
  replace hRF := hRF.bel hb
  have hz_w1 := hb.size
  clear hb
  refine Wn ?_
  refine tN ?_
  refine W_rs ?_
  refine sm rfl rfl ?_
  refine st (X.nilChk rfl) rfl ?_
  refine st (X.fa fa83_0 rfl) rfl ?_
  refine st (X.ldL rfl hB Tryz.underlying81 rfl rfl) rfl ?_
  refine sm rfl rfl ?_
  refine st (X.idxA rfl rfl Tryz.underlying81 siz92 rfl (by omega)) rfl ?_
  refine st (X.ldN (cs := RRec.cells ⟨n, f, v⟩) rfl Tryz.underlying92 rfl siz92 (hRF.reads.rec_ (f := RRec.cells) (rrec_len rs) hr)) rfl ?_
  refine salA inf92 rfl (fun g5 w2 hB5 hg5 hb hl5 => ?_)
  replace hcw := hcw.then_below hb
  replace hB := hB.bel hb
  replace hRF := hRF.bel hb
  replace hB4 := hB4.bel hb
  have hz_w2 := hb.size
  clear hb
  have hne5 : ∀ k, (Value.slice (some ⟨gF, oF, none⟩) rs.length c).ownBlock = some k → ¬ k = g5 := fun k hk => by have := hrows k hk; omega
  refine ssBN rfl rfl hB5 siz92 rfl (rec_one h1r) (fun w3 hB_ hc_ => ?_)
  replace hB5 := hB_
  clear hB_
  replace hB := hB.chg hc_ (by first | (show ¬ _ = _; omega) | (intro k_ hk_; simp [Value.ownBlock] at hk_; subst hk_; show ¬ _ = _; omega) | assumption | trivial)
  replace hRF := hRF.chg hc_ (by first | (show ¬ _ = _; omega) | (intro k_ hk_; simp [Value.ownBlock] at hk_; subst hk_; show ¬ _ = _; omega) | assumption | trivial)
  replace hB4 := hB4.chg hc_ (by first | (show ¬ _ = _; omega) | (intro k_ hk_; simp [Value.ownBlock] at hk_; subst hk_; show ¬ _ = _; omega) | assumption | trivial)
  replace hcw := hcw.next hc_ (fun i_ hi_ => by first | exact .inl hi_ | exact .inl (.inl hi_) | (right; subst hi_; omega) | (left; subst hi_; show _ ≤ _; omega) | (left; subst hi_; assumption))
  have hz_w3 := hc_.size
  clear hc_
  refine Wn ?_
  refine tN ?_
  refine W_rs ?_
  refine sa rfl rfl ?_
  refine Wn ?_
  refine tN ?_
  refine W_rs ?_
  refine sm rfl rfl ?_
  refine sm rfl rfl ?_
  refine st (X.nilChk rfl) rfl ?_
  refine st (X.fa fa83_0 rfl) rfl ?_
  refine st (X.ldL rfl hB Tryz.underlying81 rfl rfl) rfl ?_
  refine sm rfl rfl ?_
  refine st (X.toL (j := i) rfl rfl Tryz.underlying81 siz92 rfl (by omega)) rfl ?_
  refine sapp rfl rfl Tryz.underlying81 inf92 rfl (by decide) (Row.nil _ _ _) ((hRF.cut rfl 0 i (by omega) (by omega)).reads.src Tryz.underlying81 (by rw [Nat.zero_mul, List.drop_zero, flat_take3]; exact rcellsR_one (fun q hq => h.ones q (List.mem_of_mem_take hq)))) (by simp only [maxLen]; omega) (by omega) rfl (fun v1 w4 hR2 hC2 hv => ?_)
  have hz_w4 := hC2.size
  have hv1 : ∀ k, v1.ownBlock = some k → w.heap.size ≤ k ∧ ¬ k = g4 ∧ ¬ k = g5 := fun k hk => by
    rcases hv with hv | hv
    · have hv0 : (Value.slice none 0 0).ownBlock = none := rfl; rw [hv, hv0] at hk; cases hk
    · rw [hv] at hk
      injection hk with hk
      have := hB4.lt
      have := hB5.lt
      omega
  replace hB4 := hB4.chg hC2 (fun e => by simp [Value.ownBlock] at e)
  replace hB5 := hB5.chg hC2 (fun e => by simp [Value.ownBlock] at e)
  replace hB := hB.chg hC2 (fun e => by simp [Value.ownBlock] at e)
  replace hRF := hRF.chg hC2 (fun k _ e => by simp [Value.ownBlock] at e)
  replace hcw := hcw.next hC2 (fun k e => by simp [Value.ownBlock] at e)
  clear hC2 hv
  have hR1 : Row w4 92 3 v1 i ((rs.take i).flatMap RRec.cells) := by
    rw [Nat.zero_mul, List.drop_zero, flat_take3] at hR2
    simpa using hR2
  clear hR2
  refine sa rfl rfl ?_
  refine Wn ?_
  refine tN ?_
  refine W_rs ?_
  refine sm rfl rfl ?_
  refine sm rfl rfl ?_
  refine sm rfl rfl ?_
  refine st (X.nilChk rfl) rfl ?_
  refine st (X.fa fa83_0 rfl) rfl ?_
  refine st (X.ldL rfl hB Tryz.underlying81 rfl rfl) rfl ?_
  refine sm rfl rfl ?_
  refine st (X.add64 rfl rfl (by omega)) rfl ?_
  refine st (X.fromL (i := i + 1) rfl rfl Tryz.underlying81 siz92 (by omega) (by omega)) rfl ?_
  refine sapp rfl rfl Tryz.underlying81 inf92 rfl (by decide) hR1 ((hRF.cut rfl (i + 1) rs.length (by omega) (by omega)).reads.src Tryz.underlying81 (by rw [flat_take3, List.take_length, flat_drop3]; exact rcellsR_one (fun q hq => h.ones q (List.mem_of_mem_drop hq)))) (by simp only [maxLen]; omega) (by omega) rfl (fun v2 w5 hR2 hC2 hv => ?_)
  have hz_w5 := hC2.size
  have hv2 : ∀ k, v2.ownBlock = some k → w.heap.size ≤ k ∧ ¬ k = g4 ∧ ¬ k = g5 := fun k hk => by
    rcases hv with hv | hv
    · exact hv1 k (hv ▸ hk)
    · rw [hv] at hk
      injection hk with hk
      have := hB4.lt
      have := hB5.lt
      omega
  replace hB4 := hB4.chg hC2 (fun e => (hv1 _ e).2.1 rfl)
  replace hB5 := hB5.chg hC2 (fun e => (hv1 _ e).2.2 rfl)
  replace hB := hB.chg hC2 (fun e => by have := (hv1 _ e).1; omega)
  replace hRF := hRF.chg hC2 (fun k hk e => by have := (hv1 _ e).1; have := hrows k hk; omega)
  replace hcw := hcw.next hC2 (fun k e => .inr (hv1 _ e).1)
  clear hC2 hv
  have hR3 : Row w5 92 3 v2 (delR rs i).length ((delR rs i).flatMap RRec.cells) := by
    rw [flat_take3, List.take_length, flat_drop3] at hR2
    have hl : (delR rs i).length = i + (rs.length - (i + 1)) := by unfold delR; rw [List.length_append, List.length_take, List.length_drop]; omega
    rw [hl]
    unfold delR
    rw [List.flatMap_append]
    exact hR2
  clear hR2 hR1
  have hne6 : ∀ k, v2.ownBlock = some k → ¬ k = g := fun k hk => by have := (hv2 k hk).1; omega
  have hne7 : ∀ k, v2.ownBlock = some k → ¬ k = g4 := fun k hk => (hv2 k hk).2.1
  obtain ⟨a2, c2, rfl, _, _⟩ := hR3.shape
  refine st (X.nilChk rfl) rfl ?_
  refine st (X.fa fa83_0 rfl) rfl ?_
  refine ssB rfl rfl hB siz81 rfl (by first | decide | simp) (fun w6 hB_ hc_ => ?_)
  replace hB := hB_
  clear hB_
  replace hB4 := hB4.chg hc_ (by first | (show ¬ _ = _; omega) | (intro k_ hk_; simp [Value.ownBlock] at hk_; subst hk_; show ¬ _ = _; omega) | assumption | trivial)
  replace hB5 := hB5.chg hc_ (by first | (show ¬ _ = _; omega) | (intro k_ hk_; simp [Value.ownBlock] at hk_; subst hk_; show ¬ _ = _; omega) | assumption | trivial)
  replace hR3 := hR3.chg hc_ (by first | (show ¬ _ = _; omega) | (intro k_ hk_; simp [Value.ownBlock] at hk_; subst hk_; show ¬ _ = _; omega) | assumption | trivial)
  replace hcw := hcw.next hc_ (fun i_ hi_ => by first | exact .inl hi_ | exact .inl (.inl hi_) | (right; subst hi_; omega) | (left; subst hi_; show _ ≤ _; omega) | (left; subst hi_; assumption))
  have hz_w6 := hc_.size
  clear hc_
  refine Wn ?_
  refine tN ?_
  refine W_rs ?_
  refine st (X.ldBN rfl hB5 Tryz.underlying92 rfl siz92) rfl ?_
  refine ssBN rfl rfl hB4 siz92 rfl (rec_one h1r) (fun w7 hB_ hc_ => ?_)
  replace hB4 := hB_
  clear hB_
  replace hB := hB.chg hc_ (by first | (show ¬ _ = _; omega) | (intro k_ hk_; simp [Value.ownBlock] at hk_; subst hk_; show ¬ _ = _; omega) | assumption | trivial)
  replace hB5 := hB5.chg hc_ (by first | (show ¬ _ = _; omega) | (intro k_ hk_; simp [Value.ownBlock] at hk_; subst hk_; show ¬ _ = _; omega) | assumption | trivial)
  replace hR3 := hR3.chg hc_ (by first | (show ¬ _ = _; omega) | (intro k_ hk_; simp [Value.ownBlock] at hk_; subst hk_; show ¬ _ = _; omega) | assumption | trivial)
  replace hcw := hcw.next hc_ (fun i_ hi_ => by first | exact .inl hi_ | exact .inl (.inl hi_) | (right; subst hi_; omega) | (left; subst hi_; show _ ≤ _; omega) | (left; subst hi_; assumption))
  have hz_w7 := hc_.size
  clear hc_
  refine Wn ?_
  refine tN ?_
  refine W_ret ?_
  exact (rC rfl rfl hB4 Tryz.underlying92 rfl siz92 ⟨rfl, _, hB, hR3, fun k hk => (hv2 k hk).1, hcw⟩).1
end Go.Proofs.YtnijmegalgoipaaGreatDoor
