/- armariumref01: Write, Append, Read, Size, Sync, Rot. -/
import Derived.Test.YtnijmegalgoipaaGreatDoorRefD4
namespace Go.Proofs.YtnijmegalgoipaaGreatDoor
open Go.RowKit
theorem Row.storeN {w : World} {e : TypeId} {size n cap g o : Nat} {xs : List Value} (h : Row w e size (.slice (some ⟨g, o, none⟩) n cap) n xs) (j : Nat) (hj : j < n * size) (u : Value) : Row (w.setCell ⟨g, o + j, none⟩ u) e size (.slice (some ⟨g, o, none⟩) n cap) n (xs.set j u) := by
  refine ⟨by rw [List.length_set]; exact h.1, ?_⟩
  rcases h.2 with ⟨h0, _⟩ | ⟨g', off, cap', cur, fz, hv, hg, h1, h2, h3, h4, h5⟩
  · cases h0
  · injection hv with ha _ hc
    subst hc
    injection ha with ha
    injection ha with hg' ho
    subst hg'
    subst ho
    have hcs : n * size ≤ cap * size := Nat.mul_le_mul_right _ h1
    refine .inr ⟨g, o, cap, cur.setIfInBounds (o + j) u, fz, rfl, by simp [World.setCell, Array.getElem?_modify, hg], h1, h2, by simpa using h3, ?_, fun j hj => h5 j (by simpa using hj)⟩
    rw [← h4]
    apply List.ext_getElem?
    intro i
    have hl := h.1
    rw [← h4] at hl
    rw [List.getElem?_take, List.getElem?_set]
    by_cases hi : i < n * size
    · rw [if_pos hi, List.getElem?_drop, Array.getElem?_toList, Array.getElem?_setIfInBounds]
      by_cases hij : j = i
      · subst hij
        rw [if_pos rfl, if_pos (by omega), if_pos rfl, if_pos (by omega)]
      · rw [if_neg (by omega), if_neg hij, List.getElem?_take, if_pos hi, List.getElem?_drop, Array.getElem?_toList]
    · rw [if_neg hi, if_neg (by omega), List.getElem?_take, if_neg hi]
theorem ssRN {P : Program} {N : Nat} {ds : List Deferred} {Q : Post} {l : Env} {w : World} {ops : Array Oper} {rest : List Oper} {x y : Operand} {ty t e : TypeId} {pos : String} {aft : Array Edge} {g o p j n c size : Nat} {v : Value} {xs : List Value} (hx : ev l x = some (.pointer (some ⟨g, p, none⟩))) (hp : p = o + j) (hy : ev l y = some v) (hR : Row w e size (.slice (some ⟨g, o, none⟩) n c) n xs) (hj : j < n * size) (hn : 0 < n) (ht : (P.info? t).map (·.size) = some 1) (h1 : v.oneCell' = true)
    (h : ∀ w', Row w' e size (.slice (some ⟨g, o, none⟩) n c) n (xs.set j v) → Chg (fun k => k = g) w w' → WL P N ds ops Q rest l w') : WL P N ds ops Q (⟨none, .store t x y, ty, pos, aft, none⟩ :: rest) l w := by
  subst hp
  obtain ⟨g', o', c', hv, _, hnc, _, hc, hf⟩ := hR.form hn
  injection hv with ea _ ec
  injection ea with ea
  injection ea with eg eo
  subst eg eo ec
  have hlen := hR.1
  have hcs : n * size ≤ c * size := Nat.mul_le_mul_right _ hnc
  exact ss (Xs.st hx hy ht h1 (by rw [hc j _ (List.getElem?_eq_getElem (by omega))]; rfl) (hf j (by omega))) (h _ (hR.storeN j hj v) ((Chg.refl (fun k => k = g) w).setCell (p := ⟨g, o + j, none⟩) (.inl rfl) v))
theorem flat_set3 : ∀ {rs : List RRec} {i : Nat} {r : RRec} (r' : RRec) (j : Nat) (u : Value), rs[i]? = some r → j < 3 → r'.cells = r.cells.set j u → (rs.flatMap RRec.cells).set (i * 3 + j) u = (rs.set i r').flatMap RRec.cells
  | [], _, _, _, _, _, h, _, _ => by simp at h
  | a :: l, 0, r, r', j, u, h, hj, he => by
    simp only [List.getElem?_cons_zero, Option.some.injEq] at h
    subst h
    rw [List.set_cons_zero, List.flatMap_cons, List.flatMap_cons, he, Nat.zero_mul, Nat.zero_add, List.set_append_left _ _ (by rw [RRec.cells_length]; exact hj)]
  | a :: l, i + 1, r, r', j, u, h, hj, he => by
    rw [List.getElem?_cons_succ] at h
    rw [List.set_cons_succ, List.flatMap_cons, List.flatMap_cons, List.set_append_right _ _ (by rw [RRec.cells_length]; omega), RRec.cells_length, show (i + 1) * 3 + j - 3 = i * 3 + j by omega, flat_set3 r' j u h hj he]
/-- a file's record is another one -/
theorem RIn.upd {w w' : World} {g : Nat} {D : DiskD} {vF : Value} {rs : List RRec} {i : Nat} {r r' : RRec} (h : RIn w g D vF rs) (hr : rs[i]? = some r) (hn : r'.n = r.n) (hs : Rising D.files) (hB : Blk w' g 83 #[vF, .int .i64 D.limit, .int .i64 D.refused, .bool D.stops, .int .i64 D.left])
    (hR : Row w' 92 3 vF rs.length ((rs.set i r').flatMap RRec.cells)) (hrow : Row w' 132 2 r'.v r'.f.pend.length (r'.f.pend.flatMap putCells)) (ho : ∀ q ∈ delR rs i, Row w' 132 2 q.v q.f.pend.length (q.f.pend.flatMap putCells)) (u : Int) :
    RIn w' g { D with files := sput D.files r.n r'.f, used := u } vF (rs.set i r') := by
  refine ⟨hB, by rw [List.length_set]; exact hR, ?_, fun q hq => ?_⟩
  · rw [sput_set hs (h.file hr), List.map_set, h.files, hn]
  · have hi := (List.getElem?_eq_some_iff.1 hr).1
    rw [List.set_eq_take_append_cons_drop, if_pos hi] at hq
    rcases List.mem_append.1 hq with hq | hq
    · exact ho q (List.mem_append.2 (.inl hq))
    · rcases List.mem_cons.1 hq with rfl | hq
      · exact hrow
      · exact ho q (List.mem_append.2 (.inr hq))
theorem RHas.upd {g : Nat} {vF : Value} {rs : List RRec} {S T : Nat → Prop} {i : Nat} {r r' : RRec} (h : RHas g vF rs S) (hr : rs[i]? = some r) (hT : ∀ k, S k → T k) (hv : ∀ k, r'.v.ownBlock = some k → T k) (ha : ∀ q ∈ delR rs i, ∀ k, q.v.ownBlock = some k → ¬ r'.v.ownBlock = some k) : RHas g vF (rs.set i r') T := by
  have hi := (List.getElem?_eq_some_iff.1 hr).1
  have hp : RApart (rs.take i ++ r :: rs.drop (i + 1)) := by
    have e : rs = rs.take i ++ r :: rs.drop (i + 1) := by
      obtain ⟨_, rfl⟩ := List.getElem?_eq_some_iff.1 hr
      rw [← List.drop_eq_getElem_cons hi, List.take_append_drop]
    rw [← e]
    exact h.apart
  obtain ⟨p1, p2, p3⟩ := List.pairwise_append.1 hp
  refine ⟨?_, hT _ h.g, fun k hk => hT k (h.vF k hk), fun q hq k hk => ?_⟩
  · rw [List.set_eq_take_append_cons_drop, if_pos hi]
    refine List.pairwise_append.2 ⟨p1, List.pairwise_cons.2 ⟨fun q hq k hk e => ha q (List.mem_append.2 (.inr hq)) k e hk, (List.pairwise_cons.1 p2).2⟩, fun a ha' b hb => ?_⟩
    rcases List.mem_cons.1 hb with rfl | hb
    · exact ha a (List.mem_append.2 (.inl ha'))
    · exact p3 a ha' b (List.mem_cons_of_mem _ hb)
  · rw [List.set_eq_take_append_cons_drop, if_pos hi] at hq
    rcases List.mem_append.1 hq with hq | hq
    · exact hT k (h.v q (List.mem_of_mem_take hq) k hk)
    · rcases List.mem_cons.1 hq with rfl | hq
      · exact hv k hk
      · exact hT k (h.v q (List.mem_of_mem_drop hq) k hk)
theorem Row.ne2x {w : World} {e e' : TypeId} {size size' n n' : Nat} {v : Value} {xs xs' : List Value} {gF oF c : Nat} (h : Row w e size v n xs) (hR : Row w e' size' (.slice (some ⟨gF, oF, none⟩) n' c) n' xs') (hne : e ≠ e' := by decide) : ∀ k, v.ownBlock = some k → ¬ k = gF := fun k hk e => by
  subst e
  exact h.apart_ hR hne k hk rfl
theorem RDisk.mono {w : World} {g : Nat} {D : DiskD} {S T : Nat → Prop} (h : RDisk w g D S) (hT : ∀ k, S k → T k) : RDisk w g D T := by
  obtain ⟨vF, rs, h1, h2⟩ := h
  exact ⟨vF, rs, h1, h2.apart, hT _ h2.g, fun k hk => hT k (h2.vF k hk), fun r hr k hk => hT k (h2.v r hr k hk)⟩
theorem RPost.up {g : Nat} {S : Nat → Prop} {w w1 w' : World} {x y : Int × DiskD} {e : Ending} (h : RPost g S w1 x e w') (hC : Chg S w w1) (hy : y = x) : RPost g S w y e w' := by
  subst hy
  obtain ⟨h1, h2, h3⟩ := h
  have := hC.size
  exact ⟨h1, h2.mono (fun k hk => hk.imp (fun e => e) (fun e => ⟨by omega, e.2⟩)), hC.trans h3 (fun i _ h => h)⟩
theorem bRPut (a : Nat) (d : List UInt8) (w : World) : (Instr.build 132 #[(0, .int .i64 a), (1, str d)]).run Tryz.prog w = .ok (.agg #[.int .i64 a, str d]) w := by kernel_rfl
section
variable (g : Nat) (D : DiskD) (S : Nat → Prop) (w : World) (h : RDisk w g D S)
include h
theorem RSize_any (n : Key) (hok : DOk D) (hbud : DBud D) : Calls Tryz.prog 59 #[.pointer (some ⟨g, 0, none⟩), str n] w fun e w' => e = .returned (.tuple #[.int .i64 (sizeM D n).1, .int .i64 (sizeM D n).2]) ∧ Below w.heap.size w w' := by
  obtain ⟨vF, rs, h, hh⟩ := h
  obtain ⟨o, ho⟩ := place_ex rs n
  cases o with
  | none =>
    have e : sizeM D n = (0, 15) := by unfold sizeM; rw [h.get_none ho]
    rw [e]
    refine W_enter (args := [.pointer (some ⟨g, 0, none⟩), str n]) 21 Tryz.func59 rfl rfl rfl ?_
    refine W_sub [(0, .pointer (some ⟨g, 0, none⟩)), (1, str n)] ?_ ⟨rfl, rfl, trivial⟩
    have hbw := Below.refl w.heap.size w
    refine W_rs ?_
    refine sa rfl rfl ?_
    refine sa rfl rfl ?_
    refine Wn ?_
    refine tN ?_
    refine W_rs ?_
    refine sm rfl rfl ?_
    refine sm rfl rfl ?_
    refine sc _ Tryz.func95 rfl (by kernel_rfl) rfl rfl ((place_any g D vF rs n none _ h ho).mono ?_)
    rintro e_ w_ ⟨rfl, rfl⟩
    refine cR ?_
    refine sa rfl rfl ?_
    refine Wn ?_
    refine tN ?_
    refine W_seq ?_
    refine W_rs ?_
    refine sm rfl rfl ?_
    refine st (X.lss rfl rfl) rfl ?_
    refine Wn ?_
    refine tN ?_
    refine W_yes rfl (rfl) ?_
    refine W_rs ?_
    refine sa rfl rfl ?_
    refine sa rfl rfl ?_
    refine Wn ?_
    refine tN ?_
    refine W_ret (tR ?_)
    exact (rTT rfl rfl rfl ⟨rfl, hbw⟩).1
  | some i =>
    obtain ⟨r, hr, hrn, hg, _⟩ := h.get_some hok ho
    have e : sizeM D n = ((r.f.now.length : Int), 0) := by unfold sizeM; rw [hg]
    have hB := h.blk
    have hi := (List.getElem?_eq_some_iff.1 hr).1
    have hnl := (hok.len hg).1
    obtain ⟨gF, oF, c, rfl, hgF⟩ := h.row.reads.some_ (by omega)
    have hrec := h.row.reads.rec_ (f := RRec.cells) (rrec_len rs) hr
    rw [e]
    refine W_enter (args := [.pointer (some ⟨g, 0, none⟩), str n]) 21 Tryz.func59 rfl rfl rfl ?_
    refine W_sub [(0, .pointer (some ⟨g, 0, none⟩)), (1, str n)] ?_ ⟨rfl, rfl, trivial⟩
    have hbw := Below.refl w.heap.size w
    refine W_rs ?_
    refine sa rfl rfl ?_
    refine sa rfl rfl ?_
    refine Wn ?_
    refine tN ?_
    refine W_rs ?_
    refine sm rfl rfl ?_
    refine sm rfl rfl ?_
    refine sc _ Tryz.func95 rfl (by kernel_rfl) rfl rfl ((place_any g D (.slice (some ⟨gF, oF, none⟩) rs.length c) rs n (some i) _ h ho).mono ?_)
    rintro e_ w_ ⟨rfl, rfl⟩
    refine cR ?_
    refine sa rfl rfl ?_
    refine Wn ?_
    refine tN ?_
    refine W_seq ?_
    refine W_rs ?_
    refine sm rfl rfl ?_
    refine st (X.lss rfl rfl) rfl ?_
    refine Wn ?_
    refine tN ?_
    refine W_no rfl (decide_eq_false (by show ¬ (i : Int) < 0; omega)) ?_
    refine W_skip ?_
    refine tN ?_
    refine W_rs ?_
    refine sm rfl rfl ?_
    refine st (X.nilChk rfl) rfl ?_
    refine st (X.fa fa83_0 rfl) rfl ?_
    refine st (X.ldL rfl hB Tryz.underlying81 rfl rfl) rfl ?_
    refine sm rfl rfl ?_
    refine st (X.idxA (j := i) rfl rfl Tryz.underlying81 siz92 rfl (by omega)) rfl ?_
    refine st (X.ldN (cs := r.cells) rfl Tryz.underlying92 rfl siz92 hrec) rfl ?_
    refine sc _ Tryz.func62 rfl (by kernel_rfl) rfl rfl ((BytesOf_any h hok hbud (List.mem_of_getElem? hr)).mono ?_)
    rintro e_ w1 ⟨rfl, hb⟩
    refine cR ?_
    replace hbw := bthen hbw hb
    have hz_w1 := hb.size
    clear hb
    refine st (X.lenS rfl rfl Tryz.underlying9) rfl ?_
    refine sa rfl rfl ?_
    refine sa rfl rfl ?_
    refine Wn ?_
    refine tN ?_
    refine W_ret ?_
    exact (rTT rfl rfl rfl ⟨rfl, hbw⟩).1
theorem RRead_any (n : Key) (at_ k : Int) (hok : DOk D) (hbud : DBud D) : Calls Tryz.prog 57 #[.pointer (some ⟨g, 0, none⟩), str n, .int .i64 at_, .int .i64 k] w fun e w' => e = .returned (.tuple #[str (readM D n at_ k).1, .int .i64 (readM D n at_ k).2]) ∧ Below w.heap.size w w' := by
  obtain ⟨vF, rs, h, hh⟩ := h
  obtain ⟨o, ho⟩ := place_ex rs n
  cases o with
  | none =>
    have e : readM D n at_ k = ([], 15) := by unfold readM; rw [h.get_none ho]
    rw [e]
    refine W_enter (args := [.pointer (some ⟨g, 0, none⟩), str n, .int .i64 at_, .int .i64 k]) 48 Tryz.func57 rfl rfl rfl ?_
    refine W_sub [(0, .pointer (some ⟨g, 0, none⟩)), (1, str n), (2, .int .i64 at_), (3, .int .i64 k)] ?_ ⟨rfl, rfl, rfl, rfl, trivial⟩
    have hbw := Below.refl w.heap.size w
    refine W_rs ?_
    refine sa rfl rfl ?_
    refine sa rfl rfl ?_
    refine Wn ?_
    refine tN ?_
    refine W_rs ?_
    refine sm rfl rfl ?_
    refine sm rfl rfl ?_
    refine sc _ Tryz.func95 rfl (by kernel_rfl) rfl rfl ((place_any g D vF rs n none _ h ho).mono ?_)
    rintro e_ w_ ⟨rfl, rfl⟩
    refine cR ?_
    refine sa rfl rfl ?_
    refine Wn ?_
    refine tN ?_
    refine W_seq ?_
    refine W_rs ?_
    refine sm rfl rfl ?_
    refine st (X.lss rfl rfl) rfl ?_
    refine Wn ?_
    refine tN ?_
    refine W_yes rfl (rfl) ?_
    refine W_rs ?_
    refine sa rfl rfl ?_
    refine sa rfl rfl ?_
    refine Wn ?_
    refine tN ?_
    refine W_ret (tR ?_)
    exact (rTT rfl rfl rfl ⟨rfl, hbw⟩).1
  | some i =>
    obtain ⟨r, hr, hrn, hg, _⟩ := h.get_some hok ho
    have e : readM D n at_ k = (if k < 0 ∨ at_ < 0 ∨ (r.f.now.length : Int) < at_ then ([], 1) else ((r.f.now.drop at_.toNat).take k.toNat, 0)) := by unfold readM; rw [hg]
    have hB := h.blk
    have hi := (List.getElem?_eq_some_iff.1 hr).1
    have hnl := (hok.len hg).1
    obtain ⟨gF, oF, c, rfl, hgF⟩ := h.row.reads.some_ (by omega)
    have hrec := h.row.reads.rec_ (f := RRec.cells) (rrec_len rs) hr
    have hdl := List.length_drop (i := at_.toNat) (l := r.f.now)
    rw [e]
    refine W_enter (args := [.pointer (some ⟨g, 0, none⟩), str n, .int .i64 at_, .int .i64 k]) 48 Tryz.func57 rfl rfl rfl ?_
    refine W_sub [(0, .pointer (some ⟨g, 0, none⟩)), (1, str n), (2, .int .i64 at_), (3, .int .i64 k)] ?_ ⟨rfl, rfl, rfl, rfl, trivial⟩
    have hbw := Below.refl w.heap.size w
    refine W_rs ?_
    refine sa rfl rfl ?_
    refine sa rfl rfl ?_
    refine Wn ?_
    refine tN ?_
    refine W_rs ?_
    refine sm rfl rfl ?_
    refine sm rfl rfl ?_
    refine sc _ Tryz.func95 rfl (by kernel_rfl) rfl rfl ((place_any g D (.slice (some ⟨gF, oF, none⟩) rs.length c) rs n (some i) _ h ho).mono ?_)
    rintro e_ w_ ⟨rfl, rfl⟩
    refine cR ?_
    refine sa rfl rfl ?_
    refine Wn ?_
    refine tN ?_
    refine W_seq ?_
    refine W_rs ?_
    refine sm rfl rfl ?_
    refine st (X.lss rfl rfl) rfl ?_
    refine Wn ?_
    refine tN ?_
    refine W_no rfl (decide_eq_false (by show ¬ (i : Int) < 0; omega)) ?_
    refine W_skip ?_
    refine tN ?_
    refine W_rs ?_
    refine sm rfl rfl ?_
    refine st (X.nilChk rfl) rfl ?_
    refine st (X.fa fa83_0 rfl) rfl ?_
    refine st (X.ldL rfl hB Tryz.underlying81 rfl rfl) rfl ?_
    refine sm rfl rfl ?_
    refine st (X.idxA (j := i) rfl rfl Tryz.underlying81 siz92 rfl (by omega)) rfl ?_
    refine st (X.ldN (cs := r.cells) rfl Tryz.underlying92 rfl siz92 hrec) rfl ?_
    refine sc _ Tryz.func62 rfl (by kernel_rfl) rfl rfl ((BytesOf_any h hok hbud (List.mem_of_getElem? hr)).mono ?_)
    rintro e_ w1 ⟨rfl, hb⟩
    refine cR ?_
    replace hbw := bthen hbw hb
    have hz_w1 := hb.size
    clear hb
    refine sa rfl rfl ?_
    refine Wn ?_
    refine tN ?_
    refine W_seq ?_
    refine W_rs ?_
    refine sm rfl rfl ?_
    refine st (X.lss rfl rfl) rfl ?_
    refine sb rfl rfl (fun h27 => ?_) (fun h27 => ?_)
    · first | replace h27 := of_decide_eq_true h27 | replace h27 := of_decide_eq_false (notT h27) | replace h27 := notT h27 | skip
      rw [if_pos (.inl h27)]
      refine gN (g := 27) rfl rfl rfl rfl ?_
      refine gN (g := 27) rfl rfl rfl rfl ?_
      refine st (X.pickT rfl rfl) rfl ?_
      refine sm rfl rfl ?_
      refine gN (g := 31) rfl rfl rfl rfl ?_
      refine gN (g := 31) rfl rfl rfl rfl ?_
      refine gN (g := 31) rfl rfl rfl rfl ?_
      refine gN (g := 31) rfl rfl rfl rfl ?_
      refine st (X.pickT rfl rfl) rfl ?_
      refine Wn ?_
      refine tN ?_
      refine W_yes rfl (rfl) ?_
      refine W_rs ?_
      refine sa rfl rfl ?_
      refine sa rfl rfl ?_
      refine Wn ?_
      refine tN ?_
      refine W_ret (tR ?_)
      exact (rTT rfl rfl rfl ⟨rfl, hbw⟩).1
    · first | replace h27 := of_decide_eq_false h27 | replace h27 := of_decide_eq_true (notF h27) | replace h27 := notF h27 | skip
      refine gY (g := 27) rfl rfl rfl ?_
      refine sm rfl rfl ?_
      refine gY (g := 27) rfl rfl rfl ?_
      refine st (X.lss rfl rfl) rfl ?_
      refine st (X.pickF rfl rfl) rfl ?_
      refine sb rfl rfl (fun h31 => ?_) (fun h31 => ?_)
      · first | replace h31 := of_decide_eq_true h31 | replace h31 := of_decide_eq_false (notT h31) | replace h31 := notT h31 | skip
        rw [if_pos (.inr (.inl h31))]
        refine gN (g := 31) rfl rfl rfl rfl ?_
        refine gN (g := 31) rfl rfl rfl rfl ?_
        refine gN (g := 31) rfl rfl rfl rfl ?_
        refine gN (g := 31) rfl rfl rfl rfl ?_
        refine st (X.pickT rfl rfl) rfl ?_
        refine Wn ?_
        refine tN ?_
        refine W_yes rfl (rfl) ?_
        refine W_rs ?_
        refine sa rfl rfl ?_
        refine sa rfl rfl ?_
        refine Wn ?_
        refine tN ?_
        refine W_ret (tR ?_)
        exact (rTT rfl rfl rfl ⟨rfl, hbw⟩).1
      · first | replace h31 := of_decide_eq_false h31 | replace h31 := of_decide_eq_true (notF h31) | replace h31 := notF h31 | skip
        refine gY (g := 31) rfl rfl rfl ?_
        refine sm rfl rfl ?_
        refine gY (g := 31) rfl rfl rfl ?_
        refine sm rfl rfl ?_
        refine gY (g := 31) rfl rfl rfl ?_
        refine st (X.lenS rfl rfl Tryz.underlying9) rfl ?_
        refine gY (g := 31) rfl rfl rfl ?_
        refine st (X.gtr rfl rfl) rfl ?_
        refine st (X.pickF rfl rfl) rfl ?_
        refine Wn ?_
        refine tN ?_
        refine W_if rfl (fun h36 => ?_) (fun h36 => ?_)
        · first | replace h36 := of_decide_eq_true h36 | replace h36 := of_decide_eq_false (notT h36) | replace h36 := notT h36 | skip
          rw [if_pos (.inr (.inr (by omega)))]
          refine W_rs ?_
          refine sa rfl rfl ?_
          refine sa rfl rfl ?_
          refine Wn ?_
          refine tN ?_
          refine W_ret (tR ?_)
          exact (rTT rfl rfl rfl ⟨rfl, hbw⟩).1
        · first | replace h36 := of_decide_eq_false h36 | replace h36 := of_decide_eq_true (notF h36) | replace h36 := notF h36 | skip
          rw [if_neg (by omega)]
          refine W_skip ?_
          refine tN ?_
          refine W_rs ?_
          refine sm rfl rfl ?_
          refine sm rfl rfl ?_
          refine st (X.fromS (i := at_.toNat) rfl rfl Tryz.underlying9 (by omega) (by omega)) rfl ?_
          refine sa rfl rfl ?_
          refine Wn ?_
          refine tN ?_
          refine W_seq ?_
          refine W_rs ?_
          refine sm rfl rfl ?_
          refine sm rfl rfl ?_
          refine st (X.lenS rfl rfl Tryz.underlying9) rfl ?_
          refine st (X.lss rfl rfl) rfl ?_
          refine Wn ?_
          refine tN ?_
          refine W_if rfl (fun h43 => ?_) (fun h43 => ?_)
          · first | replace h43 := of_decide_eq_true h43 | replace h43 := of_decide_eq_false (notT h43) | replace h43 := notT h43 | skip
            refine W_reg ?_
            refine sm rfl rfl ?_
            refine sm rfl rfl ?_
            refine st (X.toS (j := k.toNat) rfl rfl Tryz.underlying9 (by omega) (by omega)) rfl ?_
            refine sa rfl rfl ?_
            refine Wn ?_
            refine tN ?_
            refine W_rs ?_
            refine sm rfl rfl ?_
            refine sa rfl rfl ?_
            refine sa rfl rfl ?_
            refine Wn ?_
            refine tN ?_
            refine W_ret ?_
            exact (rTT rfl rfl rfl ⟨rfl, hbw⟩).1
          · first | replace h43 := of_decide_eq_false h43 | replace h43 := of_decide_eq_true (notF h43) | replace h43 := notF h43 | skip
            refine W_skip ?_
            refine tN ?_
            refine W_rs ?_
            refine sm rfl rfl ?_
            refine sa rfl rfl ?_
            refine sa rfl rfl ?_
            refine Wn ?_
            refine tN ?_
            refine W_ret ?_
            rw [List.take_of_length_le (by omega)]
            exact (rTT rfl rfl rfl ⟨rfl, hbw⟩).1
set_option maxRecDepth 10000 in
theorem Rwrite_any (n : Key) (at_ : Int) (d : List UInt8) (hok : DOk D) (hbud : DBud D) (hd : d.length ≤ 1099511627776) : Calls Tryz.prog 97 #[.pointer (some ⟨g, 0, none⟩), str n, .int .i64 at_, str d] w (RPost g S w (fileM D n fun f => if at_ < 0 ∨ (f.now.length : Int) < at_ then (1, D) else putM D n f at_.toNat d)) := by
  have h0 := h
  obtain ⟨vF, rs, h, hh⟩ := h
  have hSg := hh.g
  obtain ⟨o, ho⟩ := place_ex rs n
  cases o with
  | none =>
    refine W_enter (args := [.pointer (some ⟨g, 0, none⟩), str n, .int .i64 at_, str d]) 78 Tryz.func97 rfl rfl rfl ?_
    refine W_sub [(0, .pointer (some ⟨g, 0, none⟩)), (1, str n), (2, .int .i64 at_), (3, str d)] ?_ ⟨rfl, rfl, rfl, rfl, trivial⟩
    have hbw := Below.refl w.heap.size w
    refine W_rs ?_
    refine sa rfl rfl ?_
    refine Wn ?_
    refine tN ?_
    refine W_rs ?_
    refine sm rfl rfl ?_
    refine sm rfl rfl ?_
    refine sc _ Tryz.func95 rfl (by kernel_rfl) rfl rfl ((place_any g D vF rs n none _ h ho).mono ?_)
    rintro e_ w_ ⟨rfl, rfl⟩
    refine cR ?_
    refine sa rfl rfl ?_
    refine Wn ?_
    refine tN ?_
    refine W_seq ?_
    refine W_rs ?_
    refine sm rfl rfl ?_
    refine st (X.lss rfl rfl) rfl ?_
    refine Wn ?_
    refine tN ?_
    refine W_yes rfl (rfl) ?_
    refine W_rs ?_
    refine sa rfl rfl ?_
    refine Wn ?_
    refine tN ?_
    refine W_ret (tR ?_)
    exact (rT rfl rfl (RPost.same h0 hbw (fileM_none (h.get_none ho) _))).1
  | some i =>
    obtain ⟨r, hr, hrn, hg, hfk⟩ := h.get_some hok ho
    have hB := h.blk
    have hlt := hB.lt
    have hi := (List.getElem?_eq_some_iff.1 hr).1
    have hnl := (hok.len hg).1
    have hpb := (hbud.pend _ _ hg).2
    have href := hbud.ref
    have href0 := hok.ref
    have hroom := hok.room
    have hlim := hok.lim
    have hus := hok.used
    have hmem := List.mem_of_getElem? hr
    have hra := hh.apart.others hr
    obtain ⟨gF, oF, c, rfl, hgF⟩ := h.row.reads.some_ (by omega)
    have hRow := h.row
    have hI := h
    have hneF : gF ≠ g := fun e => h.row.ne2 h.blk (by decide) gF rfl e
    have hF : ∀ x, fileM D n x = x r.f := fun x => fileM_some hg x
    rw [hF]
    refine W_enter (args := [.pointer (some ⟨g, 0, none⟩), str n, .int .i64 at_, str d]) 78 Tryz.func97 rfl rfl rfl ?_
    refine W_sub [(0, .pointer (some ⟨g, 0, none⟩)), (1, str n), (2, .int .i64 at_), (3, str d)] ?_ ⟨rfl, rfl, rfl, rfl, trivial⟩
    have hcw := Chg.refl (S) w
    refine W_rs ?_
    refine sa rfl rfl ?_
    refine Wn ?_
    refine tN ?_
    refine W_rs ?_
    refine sm rfl rfl ?_
    refine sm rfl rfl ?_
    refine sc _ Tryz.func95 rfl (by kernel_rfl) rfl rfl ((place_any g D (.slice (some ⟨gF, oF, none⟩) rs.length c) rs n (some i) _ h ho).mono ?_)
    rintro e_ w_ ⟨rfl, rfl⟩
    refine cR ?_
    refine sa rfl rfl ?_
    refine Wn ?_
    refine tN ?_
    refine W_seq ?_
    refine W_rs ?_
    refine sm rfl rfl ?_
    refine st (X.lss rfl rfl) rfl ?_
    refine Wn ?_
    refine tN ?_
    refine W_no rfl (decide_eq_false (by show ¬ (i : Int) < 0; omega)) ?_
    refine W_skip ?_
    refine tN ?_
    refine W_rs ?_
    refine sm rfl rfl ?_
    refine st (X.nilChk rfl) rfl ?_
    refine st (X.fa fa83_0 rfl) rfl ?_
    refine st (X.ldL rfl hB Tryz.underlying81 rfl rfl) rfl ?_
    refine sm rfl rfl ?_
    refine st (X.idxA (j := i) rfl rfl Tryz.underlying81 siz92 rfl (by omega)) rfl ?_
    refine st (X.ldN (cs := r.cells) rfl Tryz.underlying92 rfl siz92 (h.row.reads.rec_ (f := RRec.cells) (rrec_len rs) hr)) rfl ?_
    refine sc _ Tryz.func62 rfl (by kernel_rfl) rfl rfl ((BytesOf_any h hok hbud hmem).mono ?_)
    rintro e_ w1 ⟨rfl, hb⟩
    refine cR ?_
    replace hcw := hcw.then_below hb
    replace hB := hB.bel hb
    replace h := h.bel hb
    replace hRow := hRow.bel hb
    have hz_w1 := hb.size
    clear hb
    refine st (X.lenS rfl rfl Tryz.underlying9) rfl ?_
    refine sa rfl rfl ?_
    refine Wn ?_
    refine tN ?_
    refine W_seq ?_
    refine W_rs ?_
    refine sm rfl rfl ?_
    refine st (X.lss rfl rfl) rfl ?_
    refine sb rfl rfl (fun h27 => ?_) (fun h27 => ?_)
    · first | replace h27 := of_decide_eq_true h27 | replace h27 := of_decide_eq_false (notT h27) | replace h27 := notT h27 | skip
      rw [if_pos (.inl h27)]
      refine gN (g := 27) rfl rfl rfl rfl ?_
      refine gN (g := 27) rfl rfl rfl rfl ?_
      refine gN (g := 27) rfl rfl rfl rfl ?_
      refine st (X.pickT rfl rfl) rfl ?_
      refine Wn ?_
      refine tN ?_
      refine W_yes rfl (rfl) ?_
      refine W_rs ?_
      refine sa rfl rfl ?_
      refine Wn ?_
      refine tN ?_
      refine W_ret (tR ?_)
      exact (rT rfl rfl (RPost.of h hh.ext hcw rfl)).1
    · first | replace h27 := of_decide_eq_false h27 | replace h27 := of_decide_eq_true (notF h27) | replace h27 := notF h27 | skip
      refine gY (g := 27) rfl rfl rfl ?_
      refine sm rfl rfl ?_
      refine gY (g := 27) rfl rfl rfl ?_
      refine sm rfl rfl ?_
      refine gY (g := 27) rfl rfl rfl ?_
      refine st (X.gtr rfl rfl) rfl ?_
      refine st (X.pickF rfl rfl) rfl ?_
      refine Wn ?_
      refine tN ?_
      refine W_if rfl (fun h31 => ?_) (fun h31 => ?_)
      · first | replace h31 := of_decide_eq_true h31 | replace h31 := of_decide_eq_false (notT h31) | replace h31 := notT h31 | skip
        rw [if_pos (.inr (by omega))]
        refine W_rs ?_
        refine sa rfl rfl ?_
        refine Wn ?_
        refine tN ?_
        refine W_ret (tR ?_)
        exact (rT rfl rfl (RPost.of h hh.ext hcw rfl)).1
      · first | replace h31 := of_decide_eq_false h31 | replace h31 := of_decide_eq_true (notF h31) | replace h31 := notF h31 | skip
        obtain ⟨a, rfl⟩ : ∃ a : Nat, at_ = (a : Int) := ⟨at_.toNat, by omega⟩
        rw [if_neg (by omega), Int.toNat_natCast]
        unfold putM
        have hmore : ((r.f.now.length + moreM r.f a d : Nat) : Int) = if (a : Int) + (d.length : Int) > (r.f.now.length : Int) then (a : Int) + (d.length : Int) else (r.f.now.length : Int) := by unfold moreM; split <;> omega
        have hml : moreM r.f a d ≤ d.length + a := by unfold moreM; omega
        refine W_skip ?_
        refine tN ?_
        refine W_seq ?_
        refine W_drsN (fun W_ => Blk W_ g 83 #[.slice (some ⟨gF, oF, none⟩) rs.length c, .int .i64 D.limit, .int .i64 D.refused, .bool D.stops, .int .i64 D.left]) [0, 2, 4, 5, 6, 7, 8, 9, 11, 12, 13, 14, 1, 3, 10, 15] [true, true, true, true, true, true, true, true, true, true, true, true, false, true, true, true] (by kernel_rfl) (by kernel_rfl) (hB.bel (bdrew (Below.refl _ _))) ?_
        obtain ⟨w2, hw_⟩ : ∃ w2 : World, w2 = World.drew w1 := ⟨_, rfl⟩
        rw [← hw_]
        have hb : Below w1.heap.size w1 w2 := by rw [hw_]; exact bdrew (Below.refl _ _)
        clear hw_
        have hS := hb
        replace hcw := hcw.then_below hb
        replace hB := hB.bel hb
        replace h := h.bel hb
        replace hRow := hRow.bel hb
        have hz_w2 := hb.size
        clear hb
        refine oY rfl (fun W_ hW_ => (X.move rfl)) rfl ?_
        refine oY rfl (fun W_ hW_ => (X.move rfl)) rfl ?_
        refine oY rfl (fun W_ hW_ => (X.move rfl)) rfl ?_
        refine oY rfl (fun W_ hW_ => (X.move rfl)) rfl ?_
        refine oY rfl (fun W_ hW_ => (X.move rfl)) rfl ?_
        refine oY rfl (fun W_ hW_ => (X.lenS rfl rfl Tryz.underlying9)) rfl ?_
        refine oY rfl (fun W_ hW_ => (X.add64 rfl rfl (by omega))) rfl ?_
        refine oY rfl (fun W_ hW_ => (X.max2 (r := ((r.f.now.length + moreM r.f a d : Nat) : Int)) rfl rfl hmore)) rfl ?_
        refine oY rfl (fun W_ hW_ => (X.move rfl)) rfl ?_
        refine oY rfl (fun W_ hW_ => (X.nilChk rfl)) rfl ?_
        refine oY rfl (fun W_ hW_ => (X.fa fa83_1 rfl)) rfl ?_
        refine oY rfl (fun W_ hW_ => (X.ldL rfl hW_ Tryz.underlying3 rfl rfl)) rfl ?_
        refine oL rfl (fun Q_ hQ_ hP_ => ?_)
        refine sc _ Tryz.func40 rfl (by kernel_rfl) rfl rfl ((RUsed_any g D _ rs _ h hok hbud).mono ?_)
        rintro e_ w3 ⟨rfl, hb⟩
        refine cR ?_
        replace hcw := hcw.then_below hb
        replace hB := hB.bel hb
        replace h := h.bel hb
        replace hRow := hRow.bel hb
        have hz_w3 := hb.size
        clear hb
        refine Wn (hQ_ _ _ (hB) ?_)
        clear hQ_ hP_ Q_
        refine oY rfl (fun W_ hW_ => (X.sub64 rfl rfl (by omega))) rfl ?_
        refine oY rfl (fun W_ hW_ => (X.add64 rfl rfl (by omega))) rfl ?_
        refine oY rfl (fun W_ hW_ => (X.gtr rfl rfl)) rfl ?_
        refine oN ?_
        refine nN ?_
        refine W_if rfl (fun h47 => ?_) (fun h47 => ?_)
        · first | replace h47 := of_decide_eq_true h47 | replace h47 := of_decide_eq_false (notT h47) | replace h47 := notT h47 | skip
          have hdne : d ≠ [] := by
            intro e
            subst e
            have : moreM r.f a [] = 0 := by unfold moreM; simp only [List.length_nil]; omega
            omega
          rw [if_neg hdne, if_pos (by omega)]
          refine W_rs ?_
          refine sm rfl rfl ?_
          refine sm rfl rfl ?_
          refine st (X.nilChk rfl) rfl ?_
          refine st (X.fa fa83_2 rfl) rfl ?_
          refine st (X.ldL rfl hB Tryz.underlying3 rfl rfl) rfl ?_
          refine st (X.add64 rfl rfl (by omega)) rfl ?_
          refine st (X.nilChk rfl) rfl ?_
          refine st (X.fa fa83_2 rfl) rfl ?_
          have hgS : S g := hSg
          have hneg := h.row.ne2 h.blk (by decide)
          refine ssB rfl rfl hB siz3 rfl (by simp) (fun w4 hB_ hc_ => ?_)
          have h2 : RIn w4 g { D with refused := D.refused + 1 } (.slice (some ⟨gF, oF, none⟩) rs.length c) rs := ⟨hB_, h.row.chg hc_ hneg, h.files, h.rows_chg hc_⟩
          replace hcw := hcw.next hc_ (fun i hi => .inl (by rw [show i = g from hi]; exact hSg))
          refine Wn ?_
          refine tN ?_
          refine W_rs ?_
          refine sa rfl rfl ?_
          refine Wn ?_
          refine tN ?_
          refine W_ret (tR ?_)
          exact (rT rfl rfl (RPost.of h2 hh.ext hcw rfl)).1
        · first | replace h47 := of_decide_eq_false h47 | replace h47 := of_decide_eq_true (notF h47) | replace h47 := notF h47 | skip
          refine W_skip ?_
          refine tN ?_
          refine W_seq ?_
          refine W_rs ?_
          refine sm rfl rfl ?_
          refine st (X.neS rfl rfl) rfl ?_
          refine Wn ?_
          refine tN ?_
          refine W_if rfl (fun h57 => ?_) (fun h57 => ?_)
          · first | replace h57 := of_decide_eq_true h57 | replace h57 := of_decide_eq_false (notT h57) | replace h57 := notT h57 | skip
            have hdne : d ≠ [] := fun e => h57 (by rw [e])
            rw [if_neg hdne, if_neg (by omega)]
            have hzc := hcw.size
            refine W_phase (fun W_ => Blk W_ g 83 #[.slice (some ⟨gF, oF, none⟩) rs.length c, .int .i64 D.limit, .int .i64 D.refused, .bool D.stops, .int .i64 D.left] ∧ W_.cell? ⟨gF, oF + i * 3 + 2, none⟩ = some r.v) 18 [true, true, true, true, true, true, true, true, true, true, true, true, true, true, true, true, false, false] (by kernel_rfl) (by kernel_rfl) (⟨hB.bel (bdrew (Below.refl _ _)), (hRow.bel (bdrew (Below.refl _ _))).reads.rec_ (f := RRec.cells) (rrec_len rs) hr 2 _ rfl⟩) ?_
            obtain ⟨w5, hw_⟩ : ∃ w5 : World, w5 = World.drew w3 := ⟨_, rfl⟩
            rw [← hw_]
            have hb : Below w3.heap.size w3 w5 := by rw [hw_]; exact bdrew (Below.refl _ _)
            clear hw_
            have hS := hb
            replace hcw := hcw.then_below hb
            replace hB := hB.bel hb
            replace h := h.bel hb
            replace hRow := hRow.bel hb
            have hz_w5 := hb.size
            clear hb
            refine pY (fun W_ hW_ => (X.move rfl)) rfl ?_
            refine pY (fun W_ hW_ => (X.nilChk rfl)) rfl ?_
            refine pY (fun W_ hW_ => (X.fa fa83_0 rfl)) rfl ?_
            refine pY (fun W_ hW_ => (X.ldL rfl hW_.1 Tryz.underlying81 rfl rfl)) rfl ?_
            refine pY (fun W_ hW_ => (X.move rfl)) rfl ?_
            refine pY (fun W_ hW_ => (X.move rfl)) rfl ?_
            refine pY (fun W_ hW_ => (X.nilChk rfl)) rfl ?_
            refine pY (fun W_ hW_ => (X.fa fa83_0 rfl)) rfl ?_
            refine pY (fun W_ hW_ => (X.ldL rfl hW_.1 Tryz.underlying81 rfl rfl)) rfl ?_
            refine pY (fun W_ hW_ => (X.move rfl)) rfl ?_
            refine pY (fun W_ hW_ => (X.idxA (j := i) rfl rfl Tryz.underlying81 siz92 rfl (by omega))) rfl ?_
            refine pY (fun W_ hW_ => (X.fa fa92_2 rfl)) rfl ?_
            refine pY (fun W_ hW_ => (X.ld rfl Tryz.underlying90 rfl hW_.2)) rfl ?_
            refine pY (fun W_ hW_ => (X.move rfl)) rfl ?_
            refine pY (fun W_ hW_ => (X.move rfl)) rfl ?_
            refine pY (fun W_ hW_ => (X.bld rfl (bRPut a d _))) rfl ?_
            refine pL (fun Q_ hQ_ hP_ => ?_)
            refine sbs1 rfl Tryz.underlying90 inf132 rfl rfl (by decide) (by decide) rfl (fun g74 w6 hR74 hg74 hb => ?_)
            replace hcw := hcw.then_below hb
            replace hB := hB.bel hb
            replace h := h.bel hb
            replace hRow := hRow.bel hb
            have hz_w6 := hb.size
            clear hb
            have hl74 := hR74.blt (by decide)
            refine Wn (hQ_ _ _ (⟨hB, hRow.reads.rec_ (f := RRec.cells) (rrec_len rs) hr 2 _ rfl⟩) ?_)
            clear hQ_ hP_ Q_
            refine pL (fun Q_ hQ_ hP_ => ?_)
            refine sapp rfl rfl Tryz.underlying90 inf132 rfl (by decide) (h.rows r hmem) (hR74.reads.src Tryz.underlying90 (by intro u hu; exact putCells_one (a, d) u (by simpa [putCells, Value.cells] using hu))) (by simp only [maxLen]; omega) (by omega) rfl (fun v' w7 hR2 hC2 hv => ?_)
            obtain ⟨av, cv, rfl, _, _⟩ := hR2.shape
            have hz_w7 := hC2.size
            have hRow' := h.row.chg hC2 (fun k hk e => h.row.apart_ (h.rows r hmem) (by decide) k hk e)
            have hB' := h.blk.chg hC2 (fun e => (h.rows r hmem).ne2 h.blk (by decide) _ e rfl)
            have hot : ∀ q ∈ delR rs i, Row w7 132 2 q.v q.f.pend.length (q.f.pend.flatMap putCells) := fun q hq => (h.rows q (delR_mem hq)).chg hC2 (fun k hk e => hra q hq k hk e)
            have hnw : ∀ k, (Value.slice av (r.f.pend.length + 1) cv).ownBlock = some k → r.v.ownBlock = some k ∨ (w6.heap.size ≤ k ∧ k < w7.heap.size) := fun k hk => by
              have hlk := hR2.lt k hk
              rcases hv with hv | hv
              · exact .inl (hv ▸ hk)
              · rw [hv] at hk
                injection hk with hk
                right; omega
            replace hcw := hcw.next hC2 (fun k hk => .inl (hh.v r hmem k hk))
            have hlr := fun q hq => (h.rows q (delR_mem (i := i) hq)).lt
            clear hC2 h hB hRow
            have hB := hB'
            have hRow := hRow'
            clear hB' hRow'
            refine Wn (hQ_ _ _ (⟨hB, hRow.reads.rec_ (f := RRec.cells) (rrec_len rs) hr 2 _ rfl⟩) ?_)
            clear hQ_ hP_ Q_
            refine pN ?_
            refine st (X.idxA rfl rfl Tryz.underlying81 siz92 rfl (by omega)) rfl ?_
            refine st (X.fa fa92_2 rfl) rfl ?_
            refine ssRN (o := oF) (j := i * 3 + 2) rfl (by omega) rfl hRow (by omega) (by omega) siz90 rfl (fun w8 hR3 hC3 => ?_)
            have hz_w8 := hC3.size
            have hB3 := hB.chg hC3 (fun e => by have := h0; exact hneF e.symm)
            have hrow3 := hR2.chg hC3 (hR2.ne2x hRow)
            have hot3 : ∀ q ∈ delR rs i, Row w8 132 2 q.v q.f.pend.length (q.f.pend.flatMap putCells) := fun q hq => (hot q hq).chg hC3 ((hot q hq).ne2x hRow)
            replace hcw := hcw.next hC3 (fun k hk => .inl (hh.vF k (by rw [show k = gF from hk]; rfl)))
            refine Wn ?_
            refine nN ?_
            refine tN ?_
            refine W_rs ?_
            refine sa rfl rfl ?_
            refine Wn ?_
            refine tN ?_
            refine W_ret ?_
            rw [flat_set3 ⟨n, laidM r.f a d, .slice av (r.f.pend.length + 1) cv⟩ 2 _ hr (by omega) (by rw [← hrn]; rfl)] at hR3
            have h4 := hI.upd hr (by rw [hrn]) hok.srt hB3 hR3 (by simpa [laidM, putCells, Value.cells] using hrow3) hot3 (D.used + moreM r.f a d)
            rw [hrn] at h4
            refine (rT rfl rfl (RPost.of h4 (hh.upd hr (fun k hk => .inl hk) (fun k hk => ?_) (fun q hq k hk e => ?_)) hcw rfl)).1
            · rcases hnw k hk with e | e
              · exact .inl (hh.v r hmem k e)
              · exact .inr ⟨by omega, by omega⟩
            · rcases hnw k e with e | e
              · exact hra q hq k hk e
              · have := hlr q hq k hk
                omega
          · first | replace h57 := of_decide_eq_false h57 | replace h57 := of_decide_eq_true (notF h57) | replace h57 := notF h57 | skip
            have hd0 : d = [] := by simpa using h57
            rw [if_pos hd0]
            refine W_skip ?_
            refine tN ?_
            refine W_rs ?_
            refine sa rfl rfl ?_
            refine Wn ?_
            refine tN ?_
            refine W_ret ?_
            exact (rT rfl rfl (RPost.of h hh.ext hcw rfl)).1
theorem RWrite_any (n : Key) (at_ : Int) (d : List UInt8) (hok : DOk D) (hbud : DBud D) (hd : d.length ≤ 1099511627776) : Calls Tryz.prog 52 #[.pointer (some ⟨g, 0, none⟩), str n, .int .i64 at_, str d] w (RPost g S w (writeM D n at_ d)) := by
  have h0 := h
  obtain ⟨vF, rs, h, hh⟩ := h
  have hSg := hh.g
  by_cases hl : D.stops = true ∧ D.left = 0
  · skip
    refine W_enter (args := [.pointer (some ⟨g, 0, none⟩), str n, .int .i64 at_, str d]) 16 Tryz.func52 rfl rfl rfl ?_
    refine W_sub [(0, .pointer (some ⟨g, 0, none⟩)), (1, str n), (2, .int .i64 at_), (3, str d)] ?_ ⟨rfl, rfl, rfl, rfl, trivial⟩
    have hbw := Below.refl w.heap.size w
    refine W_rs ?_
    refine sa rfl rfl ?_
    refine Wn ?_
    refine tN ?_
    refine W_seq ?_
    refine W_rs ?_
    refine sm rfl rfl ?_
    refine sc _ Tryz.func93 rfl (by kernel_rfl) rfl rfl ((dead_yes g D vF rs _ h hl).mono ?_)
    rintro e_ w_ ⟨rfl, rfl⟩
    refine cR ?_
    refine Wn ?_
    refine tN ?_
    refine W_yes rfl (rfl) ?_
    refine W_rs ?_
    refine sa rfl rfl ?_
    refine Wn ?_
    refine tN ?_
    refine W_ret (tR ?_)
    exact (rT rfl rfl (RPost.same h0 hbw (opM_dead hl _))).1
  · skip
    refine W_enter (args := [.pointer (some ⟨g, 0, none⟩), str n, .int .i64 at_, str d]) 16 Tryz.func52 rfl rfl rfl ?_
    refine W_sub [(0, .pointer (some ⟨g, 0, none⟩)), (1, str n), (2, .int .i64 at_), (3, str d)] ?_ ⟨rfl, rfl, rfl, rfl, trivial⟩
    have hcw := Chg.refl (S) w
    refine W_rs ?_
    refine sa rfl rfl ?_
    refine Wn ?_
    refine tN ?_
    refine W_seq ?_
    refine W_rs ?_
    refine sm rfl rfl ?_
    refine sc _ Tryz.func93 rfl (by kernel_rfl) rfl rfl ((dead_no g D vF rs _ h hok hl).mono ?_)
    rintro e_ w1 ⟨rfl, h1, hC⟩
    refine cR ?_
    replace hcw := hcw.next hC (fun i_ hi_ => by first | exact .inl hi_ | exact .inl (.inl hi_) | (right; subst hi_; omega) | (left; subst hi_; show _ ≤ _; omega) | (left; subst hi_; assumption))
    have hz_w1 := hC.size
    clear hC
    refine Wn ?_
    refine tN ?_
    refine W_no rfl (rfl) ?_
    refine W_skip ?_
    refine tN ?_
    refine W_rs ?_
    refine sm rfl rfl ?_
    refine sm rfl rfl ?_
    refine sm rfl rfl ?_
    refine sm rfl rfl ?_
    refine sc _ Tryz.func97 rfl (by kernel_rfl) rfl rfl ((Rwrite_any g (tickM D) S _ ⟨vF, rs, h1, hh⟩ n at_ d (tick_ok hok hl) (tick_bud hbud) hd).mono ?_)
    rintro e_ w2 ⟨rfl, h2, hX⟩
    refine cR ?_
    refine sa rfl rfl ?_
    refine Wn ?_
    refine tN ?_
    refine W_ret ?_
    exact (rT rfl rfl (RPost.up ⟨rfl, h2, hX⟩ hcw (by unfold writeM; exact opM_live hl _))).1
set_option maxRecDepth 10000 in
theorem RAppend_any (n : Key) (d : List UInt8) (hok : DOk D) (hbud : DBud D) (hd : d.length ≤ 1099511627776) : Calls Tryz.prog 51 #[.pointer (some ⟨g, 0, none⟩), str n, str d] w (RPost g S w (appendM D n d)) := by
  have h0 := h
  obtain ⟨vF, rs, h, hh⟩ := h
  have hSg := hh.g
  by_cases hl : D.stops = true ∧ D.left = 0
  · skip
    refine W_enter (args := [.pointer (some ⟨g, 0, none⟩), str n, str d]) 28 Tryz.func51 rfl rfl rfl ?_
    refine W_sub [(0, .pointer (some ⟨g, 0, none⟩)), (1, str n), (2, str d)] ?_ ⟨rfl, rfl, rfl, trivial⟩
    have hbw := Below.refl w.heap.size w
    refine W_rs ?_
    refine sa rfl rfl ?_
    refine Wn ?_
    refine tN ?_
    refine W_seq ?_
    refine W_rs ?_
    refine sm rfl rfl ?_
    refine sc _ Tryz.func93 rfl (by kernel_rfl) rfl rfl ((dead_yes g D vF rs _ h hl).mono ?_)
    rintro e_ w_ ⟨rfl, rfl⟩
    refine cR ?_
    refine Wn ?_
    refine tN ?_
    refine W_yes rfl (rfl) ?_
    refine W_rs ?_
    refine sa rfl rfl ?_
    refine Wn ?_
    refine tN ?_
    refine W_ret (tR ?_)
    exact (rT rfl rfl (RPost.same h0 hbw (opM_dead hl _))).1
  obtain ⟨o, ho⟩ := place_ex rs n
  have hok' := tick_ok hok hl
  have hbud' := tick_bud hbud
  cases o with
  | none =>
    refine W_enter (args := [.pointer (some ⟨g, 0, none⟩), str n, str d]) 28 Tryz.func51 rfl rfl rfl ?_
    refine W_sub [(0, .pointer (some ⟨g, 0, none⟩)), (1, str n), (2, str d)] ?_ ⟨rfl, rfl, rfl, trivial⟩
    have hcw := Chg.refl (S) w
    refine W_rs ?_
    refine sa rfl rfl ?_
    refine Wn ?_
    refine tN ?_
    refine W_seq ?_
    refine W_rs ?_
    refine sm rfl rfl ?_
    refine sc _ Tryz.func93 rfl (by kernel_rfl) rfl rfl ((dead_no g D vF rs _ h hok hl).mono ?_)
    clear h
    rintro e_ w1 ⟨rfl, h, hC⟩
    refine cR ?_
    replace hcw := hcw.next hC (fun i_ hi_ => by first | exact .inl hi_ | exact .inl (.inl hi_) | (right; subst hi_; omega) | (left; subst hi_; show _ ≤ _; omega) | (left; subst hi_; assumption))
    have hz_w1 := hC.size
    clear hC
    refine Wn ?_
    refine tN ?_
    refine W_no rfl (rfl) ?_
    refine W_skip ?_
    refine tN ?_
    refine W_rs ?_
    refine sm rfl rfl ?_
    refine sm rfl rfl ?_
    refine sc _ Tryz.func95 rfl (by kernel_rfl) rfl rfl ((place_any g (tickM D) vF rs n none _ h ho).mono ?_)
    rintro e_ w_ ⟨rfl, rfl⟩
    refine cR ?_
    refine sa rfl rfl ?_
    refine Wn ?_
    refine tN ?_
    refine W_seq ?_
    refine W_rs ?_
    refine sm rfl rfl ?_
    refine st (X.lss rfl rfl) rfl ?_
    refine Wn ?_
    refine tN ?_
    refine W_yes rfl (rfl) ?_
    refine W_rs ?_
    refine sa rfl rfl ?_
    refine Wn ?_
    refine tN ?_
    refine W_ret (tR ?_)
    exact (rT rfl rfl (RPost.of h hh.ext hcw ((opM_live hl _).trans (fileM_none (h.get_none ho) _)))).1
  | some i =>
    obtain ⟨r, hr, hrn, hg0, _⟩ := h.get_some hok ho
    have hg : mget (tickM D).files n = some r.f := tick_get hg0
    have hi := (List.getElem?_eq_some_iff.1 hr).1
    have hmem := List.mem_of_getElem? hr
    have hnl := (hok.len hg0).1
    obtain ⟨gF, oF, c, rfl, hgF⟩ := h.row.reads.some_ (by omega)
    refine W_enter (args := [.pointer (some ⟨g, 0, none⟩), str n, str d]) 28 Tryz.func51 rfl rfl rfl ?_
    refine W_sub [(0, .pointer (some ⟨g, 0, none⟩)), (1, str n), (2, str d)] ?_ ⟨rfl, rfl, rfl, trivial⟩
    have hcw := Chg.refl (S) w
    refine W_rs ?_
    refine sa rfl rfl ?_
    refine Wn ?_
    refine tN ?_
    refine W_seq ?_
    refine W_rs ?_
    refine sm rfl rfl ?_
    refine sc _ Tryz.func93 rfl (by kernel_rfl) rfl rfl ((dead_no g D (.slice (some ⟨gF, oF, none⟩) rs.length c) rs _ h hok hl).mono ?_)
    clear h
    rintro e_ w1 ⟨rfl, h, hC⟩
    refine cR ?_
    replace hcw := hcw.next hC (fun i_ hi_ => by first | exact .inl hi_ | exact .inl (.inl hi_) | (right; subst hi_; omega) | (left; subst hi_; show _ ≤ _; omega) | (left; subst hi_; assumption))
    have hz_w1 := hC.size
    clear hC
    refine Wn ?_
    refine tN ?_
    refine W_no rfl (rfl) ?_
    refine W_skip ?_
    refine tN ?_
    refine W_rs ?_
    refine sm rfl rfl ?_
    refine sm rfl rfl ?_
    refine sc _ Tryz.func95 rfl (by kernel_rfl) rfl rfl ((place_any g (tickM D) (.slice (some ⟨gF, oF, none⟩) rs.length c) rs n (some i) _ h ho).mono ?_)
    rintro e_ w_ ⟨rfl, rfl⟩
    refine cR ?_
    refine sa rfl rfl ?_
    refine Wn ?_
    refine tN ?_
    refine W_seq ?_
    refine W_rs ?_
    refine sm rfl rfl ?_
    refine st (X.lss rfl rfl) rfl ?_
    refine Wn ?_
    refine tN ?_
    refine W_no rfl (decide_eq_false (by show ¬ (i : Int) < 0; omega)) ?_
    refine W_skip ?_
    refine tN ?_
    refine W_rs ?_
    refine sm rfl rfl ?_
    refine sm rfl rfl ?_
    refine sm rfl rfl ?_
    refine st (X.nilChk rfl) rfl ?_
    refine st (X.fa fa83_0 rfl) rfl ?_
    refine st (X.ldL rfl h.blk Tryz.underlying81 rfl rfl) rfl ?_
    refine sm rfl rfl ?_
    refine st (X.idxA (j := i) rfl rfl Tryz.underlying81 siz92 rfl (by omega)) rfl ?_
    refine st (X.ldN (cs := r.cells) rfl Tryz.underlying92 rfl siz92 (h.row.reads.rec_ (f := RRec.cells) (rrec_len rs) hr)) rfl ?_
    refine sc _ Tryz.func62 rfl (by kernel_rfl) rfl rfl ((BytesOf_any h hok' hbud' hmem).mono ?_)
    rintro e_ w2 ⟨rfl, hb⟩
    refine cR ?_
    replace hcw := hcw.then_below hb
    replace h := h.bel hb
    have hz_w2 := hb.size
    clear hb
    refine st (X.lenS rfl rfl Tryz.underlying9) rfl ?_
    refine sm rfl rfl ?_
    refine sc _ Tryz.func97 rfl (by kernel_rfl) rfl rfl ((Rwrite_any g (tickM D) S _ ⟨_, rs, h, hh⟩ n r.f.now.length d hok' hbud' hd).mono ?_)
    rintro e_ w3 ⟨rfl, h2, hX⟩
    refine cR ?_
    refine sa rfl rfl ?_
    refine Wn ?_
    refine tN ?_
    refine W_ret ?_
    refine (rT rfl rfl (RPost.up ⟨rfl, h2, hX⟩ hcw ?_)).1
    refine (opM_live hl _).trans ?_
    rw [fileM_some hg, fileM_some hg, if_neg (by omega), Int.toNat_natCast]
set_option maxRecDepth 10000 in
theorem RSync_any (n : Key) (hok : DOk D) (hbud : DBud D) : Calls Tryz.prog 53 #[.pointer (some ⟨g, 0, none⟩), str n] w (RPost g S w (syncM D n)) := by
  have h0 := h
  obtain ⟨vF, rs, h, hh⟩ := h
  have hSg := hh.g
  by_cases hl : D.stops = true ∧ D.left = 0
  · skip
    refine W_enter (args := [.pointer (some ⟨g, 0, none⟩), str n]) 35 Tryz.func53 rfl rfl rfl ?_
    refine W_sub [(0, .pointer (some ⟨g, 0, none⟩)), (1, str n)] ?_ ⟨rfl, rfl, trivial⟩
    have hbw := Below.refl w.heap.size w
    refine W_rs ?_
    refine sa rfl rfl ?_
    refine Wn ?_
    refine tN ?_
    refine W_seq ?_
    refine W_rs ?_
    refine sm rfl rfl ?_
    refine sc _ Tryz.func93 rfl (by kernel_rfl) rfl rfl ((dead_yes g D vF rs _ h hl).mono ?_)
    rintro e_ w_ ⟨rfl, rfl⟩
    refine cR ?_
    refine Wn ?_
    refine tN ?_
    refine W_yes rfl (rfl) ?_
    refine W_rs ?_
    refine sa rfl rfl ?_
    refine Wn ?_
    refine tN ?_
    refine W_ret (tR ?_)
    exact (rT rfl rfl (RPost.same h0 hbw (opM_dead hl _))).1
  obtain ⟨o, ho⟩ := place_ex rs n
  have hok' := tick_ok hok hl
  have hbud' := tick_bud hbud
  cases o with
  | none =>
    refine W_enter (args := [.pointer (some ⟨g, 0, none⟩), str n]) 35 Tryz.func53 rfl rfl rfl ?_
    refine W_sub [(0, .pointer (some ⟨g, 0, none⟩)), (1, str n)] ?_ ⟨rfl, rfl, trivial⟩
    have hcw := Chg.refl (S) w
    refine W_rs ?_
    refine sa rfl rfl ?_
    refine Wn ?_
    refine tN ?_
    refine W_seq ?_
    refine W_rs ?_
    refine sm rfl rfl ?_
    refine sc _ Tryz.func93 rfl (by kernel_rfl) rfl rfl ((dead_no g D vF rs _ h hok hl).mono ?_)
    clear h
    rintro e_ w1 ⟨rfl, h, hC⟩
    refine cR ?_
    replace hcw := hcw.next hC (fun i_ hi_ => by first | exact .inl hi_ | exact .inl (.inl hi_) | (right; subst hi_; omega) | (left; subst hi_; show _ ≤ _; omega) | (left; subst hi_; assumption))
    have hz_w1 := hC.size
    clear hC
    refine Wn ?_
    refine tN ?_
    refine W_no rfl (rfl) ?_
    refine W_skip ?_
    refine tN ?_
    refine W_rs ?_
    refine sm rfl rfl ?_
    refine sm rfl rfl ?_
    refine sc _ Tryz.func95 rfl (by kernel_rfl) rfl rfl ((place_any g (tickM D) vF rs n none _ h ho).mono ?_)
    rintro e_ w_ ⟨rfl, rfl⟩
    refine cR ?_
    refine sa rfl rfl ?_
    refine Wn ?_
    refine tN ?_
    refine W_seq ?_
    refine W_rs ?_
    refine sm rfl rfl ?_
    refine st (X.lss rfl rfl) rfl ?_
    refine Wn ?_
    refine tN ?_
    refine W_yes rfl (rfl) ?_
    refine W_rs ?_
    refine sa rfl rfl ?_
    refine Wn ?_
    refine tN ?_
    refine W_ret (tR ?_)
    exact (rT rfl rfl (RPost.of h hh.ext hcw ((opM_live hl _).trans (fileM_none (h.get_none ho) _)))).1
  | some i =>
    obtain ⟨r, hr, hrn, hg0, _⟩ := h.get_some hok ho
    have hg : mget (tickM D).files n = some r.f := tick_get hg0
    have hi := (List.getElem?_eq_some_iff.1 hr).1
    have hmem := List.mem_of_getElem? hr
    have hra := hh.apart.others hr
    obtain ⟨gF, oF, c, rfl, hgF⟩ := h.row.reads.some_ (by omega)
    have hneF : gF ≠ g := fun e => h.row.ne2 h.blk (by decide) gF rfl e
    refine W_enter (args := [.pointer (some ⟨g, 0, none⟩), str n]) 35 Tryz.func53 rfl rfl rfl ?_
    refine W_sub [(0, .pointer (some ⟨g, 0, none⟩)), (1, str n)] ?_ ⟨rfl, rfl, trivial⟩
    have hcw := Chg.refl (S) w
    refine W_rs ?_
    refine sa rfl rfl ?_
    refine Wn ?_
    refine tN ?_
    refine W_seq ?_
    refine W_rs ?_
    refine sm rfl rfl ?_
    refine sc _ Tryz.func93 rfl (by kernel_rfl) rfl rfl ((dead_no g D (.slice (some ⟨gF, oF, none⟩) rs.length c) rs _ h hok hl).mono ?_)
    clear h
    rintro e_ w1 ⟨rfl, h, hC⟩
    refine cR ?_
    replace hcw := hcw.next hC (fun i_ hi_ => by first | exact .inl hi_ | exact .inl (.inl hi_) | (right; subst hi_; omega) | (left; subst hi_; show _ ≤ _; omega) | (left; subst hi_; assumption))
    have hz_w1 := hC.size
    clear hC
    refine Wn ?_
    refine tN ?_
    refine W_no rfl (rfl) ?_
    refine W_skip ?_
    refine tN ?_
    refine W_rs ?_
    refine sm rfl rfl ?_
    refine sm rfl rfl ?_
    refine sc _ Tryz.func95 rfl (by kernel_rfl) rfl rfl ((place_any g (tickM D) (.slice (some ⟨gF, oF, none⟩) rs.length c) rs n (some i) _ h ho).mono ?_)
    rintro e_ w_ ⟨rfl, rfl⟩
    refine cR ?_
    refine sa rfl rfl ?_
    refine Wn ?_
    refine tN ?_
    refine W_seq ?_
    refine W_rs ?_
    refine sm rfl rfl ?_
    refine st (X.lss rfl rfl) rfl ?_
    refine Wn ?_
    refine tN ?_
    refine W_no rfl (decide_eq_false (by show ¬ (i : Int) < 0; omega)) ?_
    refine W_skip ?_
    refine tN ?_
    refine W_phase_s (fun W_ => Blk W_ g 83 #[.slice (some ⟨gF, oF, none⟩) rs.length c, .int .i64 (tickM D).limit, .int .i64 (tickM D).refused, .bool (tickM D).stops, .int .i64 (tickM D).left] ∧ W_.rangeAt gF (oF + i * 3) r.cells) 13 [true, true, true, true, true, true, true, true, true, true, true, true, false] (by kernel_rfl) (by kernel_rfl) (⟨(h.bel (bdrew (Below.refl _ _))).blk, (h.bel (bdrew (Below.refl _ _))).row.reads.rec_ (f := RRec.cells) (rrec_len rs) hr⟩) ?_
    obtain ⟨w2, hw_⟩ : ∃ w2 : World, w2 = World.drew w1 := ⟨_, rfl⟩
    rw [← hw_]
    have hb : Below w1.heap.size w1 w2 := by rw [hw_]; exact bdrew (Below.refl _ _)
    clear hw_
    have hS := hb
    replace hcw := hcw.then_below hb
    replace h := h.bel hb
    have hz_w2 := hb.size
    clear hb
    refine pY (fun W_ hW_ => (X.move rfl)) rfl ?_
    refine pY (fun W_ hW_ => (X.nilChk rfl)) rfl ?_
    refine pY (fun W_ hW_ => (X.fa fa83_0 rfl)) rfl ?_
    refine pY (fun W_ hW_ => (X.ldL rfl hW_.1 Tryz.underlying81 rfl rfl)) rfl ?_
    refine pY (fun W_ hW_ => (X.move rfl)) rfl ?_
    refine pY (fun W_ hW_ => (X.move rfl)) rfl ?_
    refine pY (fun W_ hW_ => (X.nilChk rfl)) rfl ?_
    refine pY (fun W_ hW_ => (X.fa fa83_0 rfl)) rfl ?_
    refine pY (fun W_ hW_ => (X.ldL rfl hW_.1 Tryz.underlying81 rfl rfl)) rfl ?_
    refine pY (fun W_ hW_ => (X.move rfl)) rfl ?_
    refine pY (fun W_ hW_ => (X.idxA (j := i) rfl rfl Tryz.underlying81 siz92 rfl (by omega))) rfl ?_
    refine pY (fun W_ hW_ => (X.ldN (cs := r.cells) rfl Tryz.underlying92 rfl siz92 hW_.2)) rfl ?_
    refine pL (fun Q_ hQ_ hP_ => ?_)
    refine sc _ Tryz.func62 rfl (by kernel_rfl) rfl rfl ((BytesOf_any h hok' hbud' hmem).mono ?_)
    rintro e_ w3 ⟨rfl, hb⟩
    refine cR ?_
    replace hcw := hcw.then_below hb
    replace h := h.bel hb
    have hz_w3 := hb.size
    clear hb
    refine Wn (hQ_ _ _ (⟨h.blk, h.row.reads.rec_ (f := RRec.cells) (rrec_len rs) hr⟩) ?_)
    clear hQ_ hP_ Q_
    refine pN ?_
    refine st (X.idxA (j := i) rfl rfl Tryz.underlying81 siz92 rfl (by omega)) rfl ?_
    refine st (X.fa fa92_1 rfl) rfl ?_
    refine ssRN (o := oF) (j := i * 3 + 1) rfl (by omega) rfl h.row (by omega) (by omega) siz9 rfl (fun w4 hR3 hC3 => ?_)
    have hzc := hcw.size
    have hz_w4 := hC3.size
    have hB3 := h.blk.chg hC3 (fun e => hneF e.symm)
    have hot3 : ∀ q ∈ delR rs i, Row w4 132 2 q.v q.f.pend.length (q.f.pend.flatMap putCells) := fun q hq => (h.rows q (delR_mem hq)).chg hC3 ((h.rows q (delR_mem hq)).ne2x h.row)
    replace hcw := hcw.next hC3 (fun k hk => .inl (hh.vF k (by rw [show k = gF from hk]; rfl)))
    have hI := h
    clear h hC3
    refine Wn ?_
    refine nN ?_
    refine W_rs ?_
    refine sm rfl rfl ?_
    refine st (X.nilChk rfl) rfl ?_
    refine st (X.fa fa83_0 rfl) rfl ?_
    refine st (X.ldL rfl hB3 Tryz.underlying81 rfl rfl) rfl ?_
    refine sm rfl rfl ?_
    refine st (X.idxA (j := i) rfl rfl Tryz.underlying81 siz92 rfl (by omega)) rfl ?_
    refine st (X.fa fa92_2 rfl) rfl ?_
    refine ssRN (o := oF) (j := i * 3 + 2) rfl (by omega) rfl hR3 (by omega) (by omega) siz90 rfl (fun w5 hR4 hC3 => ?_)
    have hz_w5 := hC3.size
    have hB4 := hB3.chg hC3 (fun e => hneF e.symm)
    have hot4 : ∀ q ∈ delR rs i, Row w5 132 2 q.v q.f.pend.length (q.f.pend.flatMap putCells) := fun q hq => (hot3 q hq).chg hC3 ((hot3 q hq).ne2x hR3)
    replace hcw := hcw.next hC3 (fun k hk => .inl (hh.vF k (by rw [show k = gF from hk]; rfl)))
    refine Wn ?_
    refine tN ?_
    refine W_rs ?_
    refine sa rfl rfl ?_
    refine Wn ?_
    refine tN ?_
    refine W_ret ?_
    rw [flat_set3 ⟨n, ⟨r.f.now, r.f.now, r.f.pend⟩, r.v⟩ 1 _ hr (by omega) (by rw [← hrn]; rfl), flat_set3 (r := ⟨n, ⟨r.f.now, r.f.now, r.f.pend⟩, r.v⟩) ⟨n, lastsM r.f, .slice none 0 0⟩ 2 _ (by rw [List.getElem?_set_self hi]) (by omega) rfl, List.set_set] at hR4
    have h4 := hI.upd (r' := ⟨n, lastsM r.f, .slice none 0 0⟩) hr (by rw [hrn]) hok'.srt hB4 hR4 (Row.nil _ _ _) hot4 (tickM D).used
    rw [hrn] at h4
    exact (rT rfl rfl (RPost.of h4 (hh.upd hr (fun k hk => .inl hk) (fun k hk => by simp [Value.ownBlock] at hk) (fun q hq k hk e => by simp [Value.ownBlock] at e)) hcw ((opM_live hl _).trans (fileM_some hg _)))).1
set_option maxRecDepth 10000 in
theorem RRot_any (n : Key) (at_ : Int) (b : UInt8) (hok : DOk D) (hbud : DBud D) : Calls Tryz.prog 56 #[.pointer (some ⟨g, 0, none⟩), str n, .int .i64 at_, .int .u8 b.toNat] w (RPost g S w (rotM D n at_ b)) := by
  have h0 := h
  obtain ⟨vF, rs, h, hh⟩ := h
  have hSg := hh.g
  obtain ⟨o, ho⟩ := place_ex rs n
  cases o with
  | none =>
    refine W_enter (args := [.pointer (some ⟨g, 0, none⟩), str n, .int .i64 at_, .int .u8 b.toNat]) 58 Tryz.func56 rfl rfl rfl ?_
    refine W_sub [(0, .pointer (some ⟨g, 0, none⟩)), (1, str n), (2, .int .i64 at_), (3, .int .u8 b.toNat)] ?_ ⟨rfl, rfl, rfl, rfl, trivial⟩
    have hbw := Below.refl w.heap.size w
    refine W_rs ?_
    refine sa rfl rfl ?_
    refine Wn ?_
    refine tN ?_
    refine W_rs ?_
    refine sm rfl rfl ?_
    refine sm rfl rfl ?_
    refine sc _ Tryz.func95 rfl (by kernel_rfl) rfl rfl ((place_any g D vF rs n none _ h ho).mono ?_)
    rintro e_ w_ ⟨rfl, rfl⟩
    refine cR ?_
    refine sa rfl rfl ?_
    refine Wn ?_
    refine tN ?_
    refine W_seq ?_
    refine W_rs ?_
    refine sm rfl rfl ?_
    refine st (X.lss rfl rfl) rfl ?_
    refine Wn ?_
    refine tN ?_
    refine W_yes rfl (rfl) ?_
    refine W_rs ?_
    refine sa rfl rfl ?_
    refine Wn ?_
    refine tN ?_
    refine W_ret (tR ?_)
    exact (rT rfl rfl (RPost.same h0 hbw (fileM_none (h.get_none ho) _))).1
  | some i =>
    obtain ⟨r, hr, hrn, hg, _⟩ := h.get_some hok ho
    have hB := h.blk
    have hi := (List.getElem?_eq_some_iff.1 hr).1
    have hmem := List.mem_of_getElem? hr
    have hnl := (hok.len hg).1
    have hra := hh.apart.others hr
    obtain ⟨gF, oF, c, rfl, hgF⟩ := h.row.reads.some_ (by omega)
    have hneF : gF ≠ g := fun e => h.row.ne2 h.blk (by decide) gF rfl e
    have hF : rotM D n at_ b = (if at_ < 0 ∨ (r.f.now.length : Int) ≤ at_ then (1, D) else (0, { D with files := sput D.files n ⟨r.f.now.set at_.toNat b, r.f.now.set at_.toNat b, []⟩ })) := fileM_some hg _
    rw [hF]
    refine W_enter (args := [.pointer (some ⟨g, 0, none⟩), str n, .int .i64 at_, .int .u8 b.toNat]) 58 Tryz.func56 rfl rfl rfl ?_
    refine W_sub [(0, .pointer (some ⟨g, 0, none⟩)), (1, str n), (2, .int .i64 at_), (3, .int .u8 b.toNat)] ?_ ⟨rfl, rfl, rfl, rfl, trivial⟩
    have hcw := Chg.refl (S) w
    refine W_rs ?_
    refine sa rfl rfl ?_
    refine Wn ?_
    refine tN ?_
    refine W_rs ?_
    refine sm rfl rfl ?_
    refine sm rfl rfl ?_
    refine sc _ Tryz.func95 rfl (by kernel_rfl) rfl rfl ((place_any g D (.slice (some ⟨gF, oF, none⟩) rs.length c) rs n (some i) _ h ho).mono ?_)
    rintro e_ w_ ⟨rfl, rfl⟩
    refine cR ?_
    refine sa rfl rfl ?_
    refine Wn ?_
    refine tN ?_
    refine W_seq ?_
    refine W_rs ?_
    refine sm rfl rfl ?_
    refine st (X.lss rfl rfl) rfl ?_
    refine Wn ?_
    refine tN ?_
    refine W_no rfl (decide_eq_false (by show ¬ (i : Int) < 0; omega)) ?_
    refine W_skip ?_
    refine tN ?_
    refine W_rs ?_
    refine sm rfl rfl ?_
    refine st (X.nilChk rfl) rfl ?_
    refine st (X.fa fa83_0 rfl) rfl ?_
    refine st (X.ldL rfl h.blk Tryz.underlying81 rfl rfl) rfl ?_
    refine sm rfl rfl ?_
    refine st (X.idxA (j := i) rfl rfl Tryz.underlying81 siz92 rfl (by omega)) rfl ?_
    refine st (X.ldN (cs := r.cells) rfl Tryz.underlying92 rfl siz92 (h.row.reads.rec_ (f := RRec.cells) (rrec_len rs) hr)) rfl ?_
    refine sc _ Tryz.func62 rfl (by kernel_rfl) rfl rfl ((BytesOf_any h hok hbud hmem).mono ?_)
    rintro e_ w1 ⟨rfl, hb⟩
    refine cR ?_
    replace hcw := hcw.then_below hb
    replace h := h.bel hb
    replace hB := hB.bel hb
    have hz_w1 := hb.size
    clear hb
    refine sa rfl rfl ?_
    refine Wn ?_
    refine tN ?_
    refine W_seq ?_
    refine W_rs ?_
    refine sm rfl rfl ?_
    refine st (X.lss rfl rfl) rfl ?_
    refine sb rfl rfl (fun h26 => ?_) (fun h26 => ?_)
    · first | replace h26 := of_decide_eq_true h26 | replace h26 := of_decide_eq_false (notT h26) | replace h26 := notT h26 | skip
      rw [if_pos (.inl h26)]
      refine gN (g := 26) rfl rfl rfl rfl ?_
      refine gN (g := 26) rfl rfl rfl rfl ?_
      refine gN (g := 26) rfl rfl rfl rfl ?_
      refine gN (g := 26) rfl rfl rfl rfl ?_
      refine st (X.pickT rfl rfl) rfl ?_
      refine Wn ?_
      refine tN ?_
      refine W_yes rfl (rfl) ?_
      refine W_rs ?_
      refine sa rfl rfl ?_
      refine Wn ?_
      refine tN ?_
      refine W_ret (tR ?_)
      exact (rT rfl rfl (RPost.of h hh.ext hcw rfl)).1
    · first | replace h26 := of_decide_eq_false h26 | replace h26 := of_decide_eq_true (notF h26) | replace h26 := notF h26 | skip
      refine gY (g := 26) rfl rfl rfl ?_
      refine sm rfl rfl ?_
      refine gY (g := 26) rfl rfl rfl ?_
      refine sm rfl rfl ?_
      refine gY (g := 26) rfl rfl rfl ?_
      refine st (X.lenS rfl rfl Tryz.underlying9) rfl ?_
      refine gY (g := 26) rfl rfl rfl ?_
      refine st (X.geq rfl rfl) rfl ?_
      refine st (X.pickF rfl rfl) rfl ?_
      refine Wn ?_
      refine tN ?_
      refine W_if rfl (fun h31 => ?_) (fun h31 => ?_)
      · first | replace h31 := of_decide_eq_true h31 | replace h31 := of_decide_eq_false (notT h31) | replace h31 := notT h31 | skip
        rw [if_pos (.inr (by omega))]
        refine W_rs ?_
        refine sa rfl rfl ?_
        refine Wn ?_
        refine tN ?_
        refine W_ret (tR ?_)
        exact (rT rfl rfl (RPost.of h hh.ext hcw rfl)).1
      · first | replace h31 := of_decide_eq_false h31 | replace h31 := of_decide_eq_true (notF h31) | replace h31 := notF h31 | skip
        obtain ⟨a, rfl⟩ : ∃ a : Nat, at_ = (a : Int) := ⟨at_.toNat, by omega⟩
        rw [if_neg (by omega), Int.toNat_natCast]
        have hset : r.f.now.set a b = r.f.now.take a ++ [b] ++ r.f.now.drop (a + 1) := by rw [List.set_eq_take_append_cons_drop, if_pos (by omega)]; simp
        have htl : (r.f.now.take a).length = a := by rw [List.length_take]; omega
        have hdl := List.length_drop (i := a + 1) (l := r.f.now)
        refine W_skip ?_
        refine tN ?_
        refine W_drsN (fun W_ => Blk W_ g 83 #[.slice (some ⟨gF, oF, none⟩) rs.length c, .int .i64 D.limit, .int .i64 D.refused, .bool D.stops, .int .i64 D.left]) [0, 1, 2, 3, 4, 5, 6, 7, 8, 12, 13, 14, 15, 9, 10, 11, 16, 17, 18, 19] [true, true, true, true, true, true, true, true, true, true, true, true, true, false, false, true, true, true, true, false] (by kernel_rfl) (by kernel_rfl) (hB.bel (bdrew (Below.refl _ _))) ?_
        obtain ⟨w2, hw_⟩ : ∃ w2 : World, w2 = World.drew w1 := ⟨_, rfl⟩
        rw [← hw_]
        have hb : Below w1.heap.size w1 w2 := by rw [hw_]; exact bdrew (Below.refl _ _)
        clear hw_
        have hS := hb
        replace hcw := hcw.then_below hb
        replace h := h.bel hb
        replace hB := hB.bel hb
        have hz_w2 := hb.size
        clear hb
        refine oY rfl (fun W_ hW_ => (X.move rfl)) rfl ?_
        refine oY rfl (fun W_ hW_ => (X.nilChk rfl)) rfl ?_
        refine oY rfl (fun W_ hW_ => (X.fa fa83_0 rfl)) rfl ?_
        refine oY rfl (fun W_ hW_ => (X.ldL rfl hW_ Tryz.underlying81 rfl rfl)) rfl ?_
        refine oY rfl (fun W_ hW_ => (X.move rfl)) rfl ?_
        refine oY rfl (fun W_ hW_ => (X.move rfl)) rfl ?_
        refine oY rfl (fun W_ hW_ => (X.move rfl)) rfl ?_
        refine oY rfl (fun W_ hW_ => (X.toS (j := a) rfl rfl Tryz.underlying9 rfl (by omega))) rfl ?_
        refine oY rfl (fun W_ hW_ => (X.move rfl)) rfl ?_
        refine oY rfl (fun W_ hW_ => (X.move rfl)) rfl ?_
        refine oY rfl (fun W_ hW_ => (X.move rfl)) rfl ?_
        refine oY rfl (fun W_ hW_ => (X.add64 rfl rfl (by omega))) rfl ?_
        refine oY rfl (fun W_ hW_ => (X.fromS (i := a + 1) rfl rfl Tryz.underlying9 (by omega) (by omega))) rfl ?_
        refine oL rfl (fun Q_ hQ_ hP_ => ?_)
        refine sbs1 rfl Tryz.underlying94 inf5 rfl rfl (by decide) (by decide) rfl (fun g41 w3 hR41 hg41 hb => ?_)
        replace hcw := hcw.then_below hb
        replace h := h.bel hb
        replace hB := hB.bel hb
        have hz_w3 := hb.size
        clear hb
        have hl41 := hR41.blt (by decide)
        refine Wn (hQ_ _ _ (hB) ?_)
        clear hQ_ hP_ Q_
        refine oL rfl (fun Q_ hQ_ hP_ => ?_)
        refine st (X.strOf (s := [b]) rfl Tryz.underlying94 Tryz.underlying5 Tryz.underlying9 hR41.reads) rfl ?_
        refine Wn (hQ_ _ _ (hB) ?_)
        clear hQ_ hP_ Q_
        have h1l : ([b] : List UInt8).length = 1 := rfl
        have hcl : (r.f.now.take a ++ [b]).length = a + 1 := by rw [List.length_append, htl]; rfl
        refine oY rfl (fun W_ hW_ => (X.cat rfl rfl (by omega))) rfl ?_
        refine oY rfl (fun W_ hW_ => (X.cat rfl rfl (by omega))) rfl ?_
        rw [← hset]
        refine oY rfl (fun W_ hW_ => (X.idxA rfl rfl Tryz.underlying81 siz92 rfl (by omega))) rfl ?_
        refine oY rfl (fun W_ hW_ => (X.fa fa92_1 rfl)) rfl ?_
        refine oL rfl (fun Q_ hQ_ hP_ => ?_)
        refine ssRN (o := oF) (j := i * 3 + 1) rfl (by omega) rfl h.row (by omega) (by omega) siz9 rfl (fun w4 hR3 hC3 => ?_)
        have hzc := hcw.size
        have hz_w4 := hC3.size
        have hB3 := h.blk.chg hC3 (fun e => hneF e.symm)
        have hot3 : ∀ q ∈ delR rs i, Row w4 132 2 q.v q.f.pend.length (q.f.pend.flatMap putCells) := fun q hq => (h.rows q (delR_mem hq)).chg hC3 ((h.rows q (delR_mem hq)).ne2x h.row)
        replace hcw := hcw.next hC3 (fun k hk => .inl (hh.vF k (by rw [show k = gF from hk]; rfl)))
        have hI := h
        clear h hC3 hB
        have hB := hB3
        refine Wn (hQ_ _ _ (hB) ?_)
        clear hQ_ hP_ Q_
        refine oN ?_
        refine nN ?_
        refine W_rs ?_
        refine sm rfl rfl ?_
        refine st (X.nilChk rfl) rfl ?_
        refine st (X.fa fa83_0 rfl) rfl ?_
        refine st (X.ldL rfl hB3 Tryz.underlying81 rfl rfl) rfl ?_
        refine sm rfl rfl ?_
        refine st (X.idxA (j := i) rfl rfl Tryz.underlying81 siz92 rfl (by omega)) rfl ?_
        refine st (X.fa fa92_2 rfl) rfl ?_
        refine ssRN (o := oF) (j := i * 3 + 2) rfl (by omega) rfl hR3 (by omega) (by omega) siz90 rfl (fun w5 hR4 hC3 => ?_)
        have hz_w5 := hC3.size
        have hB4 := hB3.chg hC3 (fun e => hneF e.symm)
        have hot4 : ∀ q ∈ delR rs i, Row w5 132 2 q.v q.f.pend.length (q.f.pend.flatMap putCells) := fun q hq => (hot3 q hq).chg hC3 ((hot3 q hq).ne2x hR3)
        replace hcw := hcw.next hC3 (fun k hk => .inl (hh.vF k (by rw [show k = gF from hk]; rfl)))
        refine Wn ?_
        refine tN ?_
        refine W_rs ?_
        refine sa rfl rfl ?_
        refine Wn ?_
        refine tN ?_
        refine W_ret ?_
        rw [flat_set3 ⟨n, ⟨r.f.now.set a b, r.f.now, r.f.pend⟩, r.v⟩ 1 _ hr (by omega) (by rw [← hrn]; rfl), flat_set3 (r := ⟨n, ⟨r.f.now.set a b, r.f.now, r.f.pend⟩, r.v⟩) ⟨n, ⟨r.f.now.set a b, r.f.now.set a b, []⟩, .slice none 0 0⟩ 2 _ (by rw [List.getElem?_set_self hi]) (by omega) rfl, List.set_set] at hR4
        have h4 := hI.upd (r' := ⟨n, ⟨r.f.now.set a b, r.f.now.set a b, []⟩, .slice none 0 0⟩) hr (by rw [hrn]) hok.srt hB4 hR4 (Row.nil _ _ _) hot4 D.used
        rw [hrn] at h4
        exact (rT rfl rfl (RPost.of h4 (hh.upd hr (fun k hk => .inl hk) (fun k hk => by simp [Value.ownBlock] at hk) (fun q hq k hk e => by simp [Value.ownBlock] at e)) hcw rfl)).1
end
end Go.Proofs.YtnijmegalgoipaaGreatDoor
