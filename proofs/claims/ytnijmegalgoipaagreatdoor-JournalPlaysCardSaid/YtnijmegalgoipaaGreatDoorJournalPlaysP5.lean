/- What JournalPlays needs, part 5. -/
import Derived.OpenShut
import Derived.Lib.LaidU8T
import Derived.Stop.LaidErr
import Derived.Test.YtnijmegalgoipaaGreatDoorJournalPlaysP4
namespace Go.Proofs.YtnijmegalgoipaaGreatDoor
open Go.RowKit
theorem Row.storeN {w : World} {e : TypeId} {size n cap g o : Nat} {xs : List Value} (h : Row w e size (.slice (some ⟨g, o, none⟩) n cap) n xs) (j : Nat) (hj : j < n * size) (u : Value) : Row (w.setCell ⟨g, o + j, none⟩ u) e size (.slice (some ⟨g, o, none⟩) n cap) n (xs.set j u) := by
 refine ⟨by rw [List.length_set]; exact h.1, ?_⟩
 rcases h.2 with ⟨h0, _⟩ | ⟨g', off, cap', cur, fz, hv, hg, h1, h2, h3, h4, h5⟩
 ·cases h0
 ·injection hv with ha _ hc
  subst hc
  injection ha with ha
  injection ha with hg' ho
  subst hg'
  subst ho
  have hcs : n * size ≤ cap * size := Nat.mul_le_mul_right _ h1
  refine .inr ⟨g, o, cap, cur.setIfInBounds (o + j) u, fz, rfl, by simp [World.setCell, Array.getElem?_modify, hg], h1, h2, by simpa using h3, ?_, fun j hj => h5 j (by simpa using hj)⟩
  rw [← h4]
  apply List.ext_getElem?
  intro i
  have hl := h.1
  rw [← h4] at hl
  rw [List.getElem?_take, List.getElem?_set]
  by_cases hi : i < n * size
  ·rw [if_pos hi, List.getElem?_drop, Array.getElem?_toList, Array.getElem?_setIfInBounds]
   by_cases hij : j = i
   ·subst hij
    rw [if_pos rfl, if_pos (by omega), if_pos rfl, if_pos (by omega)]
   ·rw [if_neg (by omega), if_neg hij, List.getElem?_take, if_pos hi, List.getElem?_drop, Array.getElem?_toList]
  ·rw [if_neg hi, if_neg (by omega), List.getElem?_take, if_neg hi]
theorem ssRN {P : Program} {N : Nat} {ds : List Deferred} {Q : Post} {l : Env} {w : World} {ops : Array Oper} {rest : List Oper} {x y : Operand} {ty t e : TypeId} {pos : String} {aft : Array Edge} {g o p j n c size : Nat} {v : Value} {xs : List Value} (hx : ev l x = some (.pointer (some ⟨g, p, none⟩))) (hp : p = o + j) (hy : ev l y = some v) (hR : Row w e size (.slice (some ⟨g, o, none⟩) n c) n xs) (hj : j < n * size) (hn : 0 < n) (ht : (P.info? t).map (·.size) = some 1) (h1 : v.oneCell' = true)
  (h : ∀ w', Row w' e size (.slice (some ⟨g, o, none⟩) n c) n (xs.set j v) → Chg (fun k => k = g) w w' → WL P N ds ops Q rest l w') : WL P N ds ops Q (⟨none, .store t x y, ty, pos, aft, none⟩ :: rest) l w := by
 subst hp
 obtain ⟨g', o', c', hv, _, hnc, _, hc, hf⟩ := hR.form hn
 injection hv with ea _ ec
 injection ea with ea
 injection ea with eg eo
 subst eg eo ec
 have hlen := hR.1
 have hcs : n * size ≤ c * size := Nat.mul_le_mul_right _ hnc
 exact ss (Xs.st hx hy ht h1 (by rw [hc j _ (List.getElem?_eq_getElem (by omega))]; rfl) (hf j (by omega))) (h _ (hR.storeN j hj v) ((Chg.refl (fun k => k = g) w).setCell (p := ⟨g, o + j, none⟩) (.inl rfl) v))
theorem flat_set3 : ∀ {rs : List RRec} {i : Nat} {r : RRec} (r' : RRec) (j : Nat) (u : Value), rs[i]? = some r → j < 3 → r'.cells = r.cells.set j u → (rs.flatMap RRec.cells).set (i * 3 + j) u = (rs.set i r').flatMap RRec.cells
 | [], _, _, _, _, _, h, _, _ => by simp at h
 | a :: l, 0, r, r', j, u, h, hj, he => by
  simp only [List.getElem?_cons_zero, Option.some.injEq] at h
  subst h
  rw [List.set_cons_zero, List.flatMap_cons, List.flatMap_cons, he, Nat.zero_mul, Nat.zero_add, List.set_append_left _ _ (by rw [RRec.cells_length]; exact hj)]
 | a :: l, i + 1, r, r', j, u, h, hj, he => by
  rw [List.getElem?_cons_succ] at h
  rw [List.set_cons_succ, List.flatMap_cons, List.flatMap_cons, List.set_append_right _ _ (by rw [RRec.cells_length]; omega), RRec.cells_length, show (i + 1) * 3 + j - 3 = i * 3 + j by omega, flat_set3 r' j u h hj he]
theorem RIn.upd {w w' : World} {g : Nat} {D : DiskD} {vF : Value} {rs : List RRec} {i : Nat} {r r' : RRec} (h : RIn w g D vF rs) (hr : rs[i]? = some r) (hn : r'.n = r.n) (hs : Rising D.files) (hB : Blk w' g 83 #[vF, .int .i64 D.limit, .int .i64 D.refused, .bool D.stops, .int .i64 D.left])
  (hR : Row w' 92 3 vF rs.length ((rs.set i r').flatMap RRec.cells)) (hrow : Row w' 132 2 r'.v r'.f.pend.length (r'.f.pend.flatMap putCells)) (ho : ∀ q ∈ delR rs i, Row w' 132 2 q.v q.f.pend.length (q.f.pend.flatMap putCells)) (u : Int) :
  RIn w' g { D with files := sput D.files r.n r'.f, used := u } vF (rs.set i r') := by
 refine ⟨hB, by rw [List.length_set]; exact hR, ?_, fun q hq => ?_⟩
 ·rw [sput_set hs (h.file hr), List.map_set, h.files, hn]
 ·have hi := (List.getElem?_eq_some_iff.1 hr).1
  rw [List.set_eq_take_append_cons_drop, if_pos hi] at hq
  rcases List.mem_append.1 hq with hq | hq
  ·exact ho q (List.mem_append.2 (.inl hq))
  ·rcases List.mem_cons.1 hq with rfl | hq
   ·exact hrow
   ·exact ho q (List.mem_append.2 (.inr hq))
theorem RHas.upd {g : Nat} {vF : Value} {rs : List RRec} {S T : Nat → Prop} {i : Nat} {r r' : RRec} (h : RHas g vF rs S) (hr : rs[i]? = some r) (hT : ∀ k, S k → T k) (hv : ∀ k, r'.v.ownBlock = some k → T k) (ha : ∀ q ∈ delR rs i, ∀ k, q.v.ownBlock = some k → ¬ r'.v.ownBlock = some k) : RHas g vF (rs.set i r') T := by
 have hi := (List.getElem?_eq_some_iff.1 hr).1
 have hp : RApart (rs.take i ++ r :: rs.drop (i + 1)) := by
  have e : rs = rs.take i ++ r :: rs.drop (i + 1) := by
   obtain ⟨_, rfl⟩ := List.getElem?_eq_some_iff.1 hr
   rw [← List.drop_eq_getElem_cons hi, List.take_append_drop]
  rw [← e]
  exact h.apart
 obtain ⟨p1, p2, p3⟩ := List.pairwise_append.1 hp
 refine ⟨?_, hT _ h.g, fun k hk => hT k (h.vF k hk), fun q hq k hk => ?_⟩
 ·rw [List.set_eq_take_append_cons_drop, if_pos hi]
  refine List.pairwise_append.2 ⟨p1, List.pairwise_cons.2 ⟨fun q hq k hk e => ha q (List.mem_append.2 (.inr hq)) k e hk, (List.pairwise_cons.1 p2).2⟩, fun a ha' b hb => ?_⟩
  rcases List.mem_cons.1 hb with rfl | hb
  ·exact ha a (List.mem_append.2 (.inl ha'))
  ·exact p3 a ha' b (List.mem_cons_of_mem _ hb)
 ·rw [List.set_eq_take_append_cons_drop, if_pos hi] at hq
  rcases List.mem_append.1 hq with hq | hq
  ·exact hT k (h.v q (List.mem_of_mem_take hq) k hk)
  ·rcases List.mem_cons.1 hq with rfl | hq
   ·exact hv k hk
   ·exact hT k (h.v q (List.mem_of_mem_drop hq) k hk)
theorem Row.ne2x {w : World} {e e' : TypeId} {size size' n n' : Nat} {v : Value} {xs xs' : List Value} {gF oF c : Nat} (h : Row w e size v n xs) (hR : Row w e' size' (.slice (some ⟨gF, oF, none⟩) n' c) n' xs') (hne : e ≠ e' := by decide) : ∀ k, v.ownBlock = some k → ¬ k = gF := fun k hk e => by
 subst e
 exact h.apart_ hR hne k hk rfl
theorem RDisk.mono {w : World} {g : Nat} {D : DiskD} {S T : Nat → Prop} (h : RDisk w g D S) (hT : ∀ k, S k → T k) : RDisk w g D T := by
 obtain ⟨vF, rs, h1, h2⟩ := h
 exact ⟨vF, rs, h1, h2.apart, hT _ h2.g, fun k hk => hT k (h2.vF k hk), fun r hr k hk => hT k (h2.v r hr k hk)⟩
theorem RPost.up {g : Nat} {S : Nat → Prop} {w w1 w' : World} {x y : Int × DiskD} {e : Ending} (h : RPost g S w1 x e w') (hC : Chg S w w1) (hy : y = x) : RPost g S w y e w' := by
 subst hy
 obtain ⟨h1, h2, h3⟩ := h
 have := hC.size
 exact ⟨h1, h2.mono (fun k hk => hk.imp (fun e => e) (fun e => ⟨by omega, e.2⟩)), hC.trans h3 (fun i _ h => h)⟩
theorem bRPut (a : Nat) (d : List UInt8) (w : World) : (Instr.build 132 #[(0, .int .i64 a), (1, str d)]).run Tryz.prog w = .ok (.agg #[.int .i64 a, str d]) w := by kernel_rfl
section
variable (g : Nat) (D : DiskD) (S : Nat → Prop) (w : World) (h : RDisk w g D S)
include h
theorem RRead_any (n : Key) (at_ k : Int) (hok : DOk D) (hbud : DBud D) : Calls Tryz.prog 57 #[.pointer (some ⟨g, 0, none⟩), str n, .int .i64 at_, .int .i64 k] w fun e w' => e = .returned (.tuple #[str (readM D n at_ k).1, .int .i64 (readM D n at_ k).2]) ∧ Below w.heap.size w w' := by
 obtain ⟨vF, rs, h, hh⟩ := h
 obtain ⟨o, ho⟩ := place_ex rs n
 cases o with
 | none =>
  have e : readM D n at_ k = ([], 15) := by unfold readM; rw [h.get_none ho]
  rw [e]
  refine W_enter (args := [.pointer (some ⟨g, 0, none⟩), str n, .int .i64 at_, .int .i64 k]) 48 Tryz.func57 rfl rfl rfl (W_sub [(0, .pointer (some ⟨g, 0, none⟩)), (1, str n), (2, .int .i64 at_), (3, .int .i64 k)] ?_ ⟨rfl, rfl, rfl, rfl, trivial⟩)
  have hbw := Below.refl w.heap.size w
  refine W_rs (sa rfl rfl (sa rfl rfl (Wn (tN (W_rs (sm rfl rfl (sm rfl rfl (sc _ Tryz.func95 rfl (by kernel_rfl) rfl rfl ((place_any g D vF rs n none _ h ho).mono ?_)))))))))
  rintro e_ w_ ⟨rfl, rfl⟩
  refine cR (sa rfl rfl (Wn (tN (W_seq (W_rs (sm rfl rfl (st (X.lss rfl rfl) rfl (Wn (tN (W_yes rfl (rfl) ?_))))))))))
  refine W_rs (sa rfl rfl (sa rfl rfl (Wn (tN (W_ret (tR ?_))))))
  exact (rTT rfl rfl rfl ⟨rfl, hbw⟩).1
 | some i =>
  obtain ⟨r, hr, hrn, hg, _⟩ := h.get_some hok ho
  have e : readM D n at_ k = (if k < 0 ∨ at_ < 0 ∨ (r.f.now.length : Int) < at_ then ([], 1) else ((r.f.now.drop at_.toNat).take k.toNat, 0)) := by unfold readM; rw [hg]
  have hB := h.blk
  have hi := (List.getElem?_eq_some_iff.1 hr).1
  have hnl := (hok.len hg).1
  obtain ⟨gF, oF, c, rfl, hgF⟩ := h.row.reads.some_ (by omega)
  have hrec := h.row.reads.rec_ (f := RRec.cells) (rrec_len rs) hr
  have hdl := List.length_drop (i := at_.toNat) (l := r.f.now)
  rw [e]
  refine W_enter (args := [.pointer (some ⟨g, 0, none⟩), str n, .int .i64 at_, .int .i64 k]) 48 Tryz.func57 rfl rfl rfl (W_sub [(0, .pointer (some ⟨g, 0, none⟩)), (1, str n), (2, .int .i64 at_), (3, .int .i64 k)] ?_ ⟨rfl, rfl, rfl, rfl, trivial⟩)
  have hbw := Below.refl w.heap.size w
  refine W_rs (sa rfl rfl (sa rfl rfl (Wn (tN (W_rs (sm rfl rfl (sm rfl rfl (sc _ Tryz.func95 rfl (by kernel_rfl) rfl rfl ((place_any g D (.slice (some ⟨gF, oF, none⟩) rs.length c) rs n (some i) _ h ho).mono ?_)))))))))
  rintro e_ w_ ⟨rfl, rfl⟩
  refine cR (sa rfl rfl (Wn (tN (W_seq (W_rs (sm rfl rfl (st (X.lss rfl rfl) rfl (Wn (tN (W_no rfl (decide_eq_false (by show ¬ (i : Int) < 0; omega)) ?_))))))))))
  refine W_skip (tN (W_rs (sm rfl rfl (st (X.nilChk rfl) rfl (st (X.fa fa83_0 rfl) rfl (st (X.ldL rfl hB Tryz.underlying81 rfl rfl) rfl (sm rfl rfl (st (X.idxA (j := i) rfl rfl Tryz.underlying81 siz92 rfl (by omega)) rfl (st (X.ldN (cs := r.cells) rfl Tryz.underlying92 rfl siz92 hrec) rfl (sc _ Tryz.func62 rfl (by kernel_rfl) rfl rfl ((BytesOf_any h hok hbud (List.mem_of_getElem? hr)).mono ?_)))))))))))
  rintro e_ w1 ⟨rfl, hb⟩
  refine cR ?_
  replace hbw := bthen hbw hb
  have hz_w1 := hb.size
  clear hb
  refine sa rfl rfl (Wn (tN (W_seq (W_rs (sm rfl rfl (st (X.lss rfl rfl) rfl (sb rfl rfl (fun h27 => ?_) (fun h27 => ?_))))))))
  ·first | replace h27 := of_decide_eq_true h27 | replace h27 := of_decide_eq_false (notT h27) | replace h27 := notT h27 | skip
   rw [if_pos (.inl h27)]
   refine gN (g := 27) rfl rfl rfl rfl (gN (g := 27) rfl rfl rfl rfl (st (X.pickT rfl rfl) rfl (sm rfl rfl (gN (g := 31) rfl rfl rfl rfl (gN (g := 31) rfl rfl rfl rfl (gN (g := 31) rfl rfl rfl rfl (gN (g := 31) rfl rfl rfl rfl (st (X.pickT rfl rfl) rfl (Wn (tN ?_))))))))))
   refine W_yes rfl (rfl) (W_rs (sa rfl rfl (sa rfl rfl (Wn (tN (W_ret (tR ?_)))))))
   exact (rTT rfl rfl rfl ⟨rfl, hbw⟩).1
  ·first | replace h27 := of_decide_eq_false h27 | replace h27 := of_decide_eq_true (notF h27) | replace h27 := notF h27 | skip
   refine gY (g := 27) rfl rfl rfl (sm rfl rfl (gY (g := 27) rfl rfl rfl (st (X.lss rfl rfl) rfl (st (X.pickF rfl rfl) rfl (sb rfl rfl (fun h31 => ?_) (fun h31 => ?_))))))
   ·first | replace h31 := of_decide_eq_true h31 | replace h31 := of_decide_eq_false (notT h31) | replace h31 := notT h31 | skip
    rw [if_pos (.inr (.inl h31))]
    refine gN (g := 31) rfl rfl rfl rfl (gN (g := 31) rfl rfl rfl rfl (gN (g := 31) rfl rfl rfl rfl (gN (g := 31) rfl rfl rfl rfl (st (X.pickT rfl rfl) rfl (Wn (tN (W_yes rfl (rfl) (W_rs (sa rfl rfl (sa rfl rfl ?_))))))))))
    refine Wn (tN (W_ret (tR ?_)))
    exact (rTT rfl rfl rfl ⟨rfl, hbw⟩).1
   ·first | replace h31 := of_decide_eq_false h31 | replace h31 := of_decide_eq_true (notF h31) | replace h31 := notF h31 | skip
    refine gY (g := 31) rfl rfl rfl (sm rfl rfl (gY (g := 31) rfl rfl rfl (sm rfl rfl (gY (g := 31) rfl rfl rfl (st (X.lenS rfl rfl Tryz.underlying9) rfl (gY (g := 31) rfl rfl rfl (st (X.gtr rfl rfl) rfl (st (X.pickF rfl rfl) rfl (Wn (tN ?_))))))))))
    refine W_if rfl (fun h36 => ?_) (fun h36 => ?_)
    ·first | replace h36 := of_decide_eq_true h36 | replace h36 := of_decide_eq_false (notT h36) | replace h36 := notT h36 | skip
     rw [if_pos (.inr (.inr (by omega)))]
     refine W_rs (sa rfl rfl (sa rfl rfl (Wn (tN (W_ret (tR ?_))))))
     exact (rTT rfl rfl rfl ⟨rfl, hbw⟩).1
    ·first | replace h36 := of_decide_eq_false h36 | replace h36 := of_decide_eq_true (notF h36) | replace h36 := notF h36 | skip
     rw [if_neg (by omega)]
     refine W_skip (tN (W_rs (sm rfl rfl (sm rfl rfl (st (X.fromS (i := at_.toNat) rfl rfl Tryz.underlying9 (by omega) (by omega)) rfl (sa rfl rfl (Wn (tN (W_seq (W_rs ?_))))))))))
     refine sm rfl rfl (sm rfl rfl (st (X.lenS rfl rfl Tryz.underlying9) rfl (st (X.lss rfl rfl) rfl (Wn (tN (W_if rfl (fun h43 => ?_) (fun h43 => ?_)))))))
     ·first | replace h43 := of_decide_eq_true h43 | replace h43 := of_decide_eq_false (notT h43) | replace h43 := notT h43 | skip
      refine W_reg (sm rfl rfl (sm rfl rfl (st (X.toS (j := k.toNat) rfl rfl Tryz.underlying9 (by omega) (by omega)) rfl (sa rfl rfl (Wn (tN (W_rs (sm rfl rfl (sa rfl rfl (sa rfl rfl ?_))))))))))
      refine Wn (tN (W_ret ?_))
      exact (rTT rfl rfl rfl ⟨rfl, hbw⟩).1
     ·first | replace h43 := of_decide_eq_false h43 | replace h43 := of_decide_eq_true (notF h43) | replace h43 := notF h43 | skip
      refine W_skip (tN (W_rs (sm rfl rfl (sa rfl rfl (sa rfl rfl (Wn (tN (W_ret ?_))))))))
      rw [List.take_of_length_le (by omega)]
      exact (rTT rfl rfl rfl ⟨rfl, hbw⟩).1
set_option maxRecDepth 10000 in
theorem Rwrite_any (n : Key) (at_ : Int) (d : List UInt8) (hok : DOk D) (hbud : DBud D) (hd : d.length ≤ 1099511627776) : Calls Tryz.prog 97 #[.pointer (some ⟨g, 0, none⟩), str n, .int .i64 at_, str d] w (RPost g S w (fileM D n fun f => if at_ < 0 ∨ (f.now.length : Int) < at_ then (1, D) else putM D n f at_.toNat d)) := by
 have h0 := h
 obtain ⟨vF, rs, h, hh⟩ := h
 have hSg := hh.g
 obtain ⟨o, ho⟩ := place_ex rs n
 cases o with
 | none =>
  refine W_enter (args := [.pointer (some ⟨g, 0, none⟩), str n, .int .i64 at_, str d]) 78 Tryz.func97 rfl rfl rfl (W_sub [(0, .pointer (some ⟨g, 0, none⟩)), (1, str n), (2, .int .i64 at_), (3, str d)] ?_ ⟨rfl, rfl, rfl, rfl, trivial⟩)
  have hbw := Below.refl w.heap.size w
  refine W_rs (sa rfl rfl (Wn (tN (W_rs (sm rfl rfl (sm rfl rfl (sc _ Tryz.func95 rfl (by kernel_rfl) rfl rfl ((place_any g D vF rs n none _ h ho).mono ?_))))))))
  rintro e_ w_ ⟨rfl, rfl⟩
  refine cR (sa rfl rfl (Wn (tN (W_seq (W_rs (sm rfl rfl (st (X.lss rfl rfl) rfl (Wn (tN (W_yes rfl (rfl) ?_))))))))))
  refine W_rs (sa rfl rfl (Wn (tN (W_ret (tR ?_)))))
  exact (rT rfl rfl (RPost.same h0 hbw (fileM_none (h.get_none ho) _))).1
 | some i =>
  obtain ⟨r, hr, hrn, hg, hfk⟩ := h.get_some hok ho
  have hB := h.blk
  have hlt := hB.lt
  have hi := (List.getElem?_eq_some_iff.1 hr).1
  have hnl := (hok.len hg).1
  have hpb := (hbud.pend _ _ hg).2
  have href := hbud.ref
  have href0 := hok.ref
  have hroom := hok.room
  have hlim := hok.lim
  have hus := hok.used
  have hmem := List.mem_of_getElem? hr
  have hra := hh.apart.others hr
  obtain ⟨gF, oF, c, rfl, hgF⟩ := h.row.reads.some_ (by omega)
  have hRow := h.row
  have hI := h
  have hneF : gF ≠ g := fun e => h.row.ne2 h.blk (by decide) gF rfl e
  have hF : ∀ x, fileM D n x = x r.f := fun x => fileM_some hg x
  rw [hF]
  refine W_enter (args := [.pointer (some ⟨g, 0, none⟩), str n, .int .i64 at_, str d]) 78 Tryz.func97 rfl rfl rfl (W_sub [(0, .pointer (some ⟨g, 0, none⟩)), (1, str n), (2, .int .i64 at_), (3, str d)] ?_ ⟨rfl, rfl, rfl, rfl, trivial⟩)
  have hcw := Chg.refl (S) w
  refine W_rs (sa rfl rfl (Wn (tN (W_rs (sm rfl rfl (sm rfl rfl (sc _ Tryz.func95 rfl (by kernel_rfl) rfl rfl ((place_any g D (.slice (some ⟨gF, oF, none⟩) rs.length c) rs n (some i) _ h ho).mono ?_))))))))
  rintro e_ w_ ⟨rfl, rfl⟩
  refine cR (sa rfl rfl (Wn (tN (W_seq (W_rs (sm rfl rfl (st (X.lss rfl rfl) rfl (Wn (tN (W_no rfl (decide_eq_false (by show ¬ (i : Int) < 0; omega)) ?_))))))))))
  refine W_skip (tN (W_rs (sm rfl rfl (st (X.nilChk rfl) rfl (st (X.fa fa83_0 rfl) rfl (st (X.ldL rfl hB Tryz.underlying81 rfl rfl) rfl (sm rfl rfl (st (X.idxA (j := i) rfl rfl Tryz.underlying81 siz92 rfl (by omega)) rfl (st (X.ldN (cs := r.cells) rfl Tryz.underlying92 rfl siz92 (h.row.reads.rec_ (f := RRec.cells) (rrec_len rs) hr)) rfl (sc _ Tryz.func62 rfl (by kernel_rfl) rfl rfl ((BytesOf_any h hok hbud hmem).mono ?_)))))))))))
  rintro e_ w1 ⟨rfl, hb⟩
  refine cR ?_
  replace hcw := hcw.then_below hb
  replace hB := hB.bel hb
  replace h := h.bel hb
  replace hRow := hRow.bel hb
  have hz_w1 := hb.size
  clear hb
  refine st (X.lenS rfl rfl Tryz.underlying9) rfl (sa rfl rfl (Wn (tN (W_seq (W_rs (sm rfl rfl (st (X.lss rfl rfl) rfl (sb rfl rfl (fun h27 => ?_) (fun h27 => ?_)))))))))
  ·first | replace h27 := of_decide_eq_true h27 | replace h27 := of_decide_eq_false (notT h27) | replace h27 := notT h27 | skip
   rw [if_pos (.inl h27)]
   refine gN (g := 27) rfl rfl rfl rfl (gN (g := 27) rfl rfl rfl rfl (gN (g := 27) rfl rfl rfl rfl (st (X.pickT rfl rfl) rfl (Wn (tN (W_yes rfl (rfl) (W_rs (sa rfl rfl (Wn (tN ?_))))))))))
   refine W_ret (tR ?_)
   exact (rT rfl rfl (RPost.of h hh.ext hcw rfl)).1
  ·first | replace h27 := of_decide_eq_false h27 | replace h27 := of_decide_eq_true (notF h27) | replace h27 := notF h27 | skip
   refine gY (g := 27) rfl rfl rfl (sm rfl rfl (gY (g := 27) rfl rfl rfl (sm rfl rfl (gY (g := 27) rfl rfl rfl (st (X.gtr rfl rfl) rfl (st (X.pickF rfl rfl) rfl (Wn (tN (W_if rfl (fun h31 => ?_) (fun h31 => ?_))))))))))
   ·first | replace h31 := of_decide_eq_true h31 | replace h31 := of_decide_eq_false (notT h31) | replace h31 := notT h31 | skip
    rw [if_pos (.inr (by omega))]
    refine W_rs (sa rfl rfl (Wn (tN (W_ret (tR ?_)))))
    exact (rT rfl rfl (RPost.of h hh.ext hcw rfl)).1
   ·first | replace h31 := of_decide_eq_false h31 | replace h31 := of_decide_eq_true (notF h31) | replace h31 := notF h31 | skip
    obtain ⟨a, rfl⟩ : ∃ a : Nat, at_ = (a : Int) := ⟨at_.toNat, by omega⟩
    rw [if_neg (by omega), Int.toNat_natCast]
    unfold putM
    have hmore : ((r.f.now.length + moreM r.f a d : Nat) : Int) = if (a : Int) + (d.length : Int) > (r.f.now.length : Int) then (a : Int) + (d.length : Int) else (r.f.now.length : Int) := by unfold moreM; split <;> omega
    have hml : moreM r.f a d ≤ d.length + a := by unfold moreM; omega
    refine W_skip (tN (W_seq (W_drsN (fun W_ => Blk W_ g 83 #[.slice (some ⟨gF, oF, none⟩) rs.length c, .int .i64 D.limit, .int .i64 D.refused, .bool D.stops, .int .i64 D.left]) [0, 2, 4, 5, 6, 7, 8, 9, 11, 12, 13, 14, 1, 3, 10, 15] [true, true, true, true, true, true, true, true, true, true, true, true, false, true, true, true] (by kernel_rfl) (by kernel_rfl) (hB.bel (bdrew (Below.refl _ _))) ?_)))
    obtain ⟨w2, hw_⟩ : ∃ w2 : World, w2 = World.drew w1 := ⟨_, rfl⟩
    rw [← hw_]
    have hb : Below w1.heap.size w1 w2 := by rw [hw_]; exact bdrew (Below.refl _ _)
    clear hw_
    have hS := hb
    replace hcw := hcw.then_below hb
    replace hB := hB.bel hb
    replace h := h.bel hb
    replace hRow := hRow.bel hb
    have hz_w2 := hb.size
    clear hb
    refine oY rfl (fun W_ hW_ => (X.move rfl)) rfl (oY rfl (fun W_ hW_ => (X.move rfl)) rfl (oY rfl (fun W_ hW_ => (X.move rfl)) rfl (oY rfl (fun W_ hW_ => (X.move rfl)) rfl (oY rfl (fun W_ hW_ => (X.move rfl)) rfl (oY rfl (fun W_ hW_ => (X.lenS rfl rfl Tryz.underlying9)) rfl (oY rfl (fun W_ hW_ => (X.add64 rfl rfl (by omega))) rfl (oY rfl (fun W_ hW_ => (X.max2 (r := ((r.f.now.length + moreM r.f a d : Nat) : Int)) rfl rfl hmore)) rfl (oY rfl (fun W_ hW_ => (X.move rfl)) rfl (oY rfl (fun W_ hW_ => (X.nilChk rfl)) rfl (oY rfl (fun W_ hW_ => (X.fa fa83_1 rfl)) rfl ?_))))))))))
    refine oY rfl (fun W_ hW_ => (X.ldL rfl hW_ Tryz.underlying3 rfl rfl)) rfl (oL rfl (fun Q_ hQ_ hP_ => (sc _ Tryz.func40 rfl (by kernel_rfl) rfl rfl ((RUsed_any g D _ rs _ h hok hbud).mono ?_))))
    rintro e_ w3 ⟨rfl, hb⟩
    refine cR ?_
    replace hcw := hcw.then_below hb
    replace hB := hB.bel hb
    replace h := h.bel hb
    replace hRow := hRow.bel hb
    have hz_w3 := hb.size
    clear hb
    refine Wn (hQ_ _ _ (hB) ?_)
    clear hQ_ hP_ Q_
    refine oY rfl (fun W_ hW_ => (X.sub64 rfl rfl (by omega))) rfl (oY rfl (fun W_ hW_ => (X.add64 rfl rfl (by omega))) rfl (oY rfl (fun W_ hW_ => (X.gtr rfl rfl)) rfl (oN (nN (W_if rfl (fun h47 => ?_) (fun h47 => ?_))))))
    ·first | replace h47 := of_decide_eq_true h47 | replace h47 := of_decide_eq_false (notT h47) | replace h47 := notT h47 | skip
     have hdne : d ≠ [] := by
      intro e
      subst e
      have : moreM r.f a [] = 0 := by unfold moreM; simp only [List.length_nil]; omega
      omega
     rw [if_neg hdne, if_pos (by omega)]
     refine W_rs (sm rfl rfl (sm rfl rfl (st (X.nilChk rfl) rfl (st (X.fa fa83_2 rfl) rfl (st (X.ldL rfl hB Tryz.underlying3 rfl rfl) rfl (st (X.add64 rfl rfl (by omega)) rfl (st (X.nilChk rfl) rfl (st (X.fa fa83_2 rfl) rfl ?_))))))))
     have hgS : S g := hSg
     have hneg := h.row.ne2 h.blk (by decide)
     refine ssB rfl rfl hB siz3 rfl (by simp) (fun w4 hB_ hc_ => ?_)
     have h2 : RIn w4 g { D with refused := D.refused + 1 } (.slice (some ⟨gF, oF, none⟩) rs.length c) rs := ⟨hB_, h.row.chg hc_ hneg, h.files, h.rows_chg hc_⟩
     replace hcw := hcw.next hc_ (fun i hi => .inl (by rw [show i = g from hi]; exact hSg))
     refine Wn (tN (W_rs (sa rfl rfl (Wn (tN (W_ret (tR ?_)))))))
     exact (rT rfl rfl (RPost.of h2 hh.ext hcw rfl)).1
    ·first | replace h47 := of_decide_eq_false h47 | replace h47 := of_decide_eq_true (notF h47) | replace h47 := notF h47 | skip
     refine W_skip (tN (W_seq (W_rs (sm rfl rfl (st (X.neS rfl rfl) rfl (Wn (tN (W_if rfl (fun h57 => ?_) (fun h57 => ?_)))))))))
     ·first | replace h57 := of_decide_eq_true h57 | replace h57 := of_decide_eq_false (notT h57) | replace h57 := notT h57 | skip
      have hdne : d ≠ [] := fun e => h57 (by rw [e])
      rw [if_neg hdne, if_neg (by omega)]
      have hzc := hcw.size
      refine W_phase (fun W_ => Blk W_ g 83 #[.slice (some ⟨gF, oF, none⟩) rs.length c, .int .i64 D.limit, .int .i64 D.refused, .bool D.stops, .int .i64 D.left] ∧ W_.cell? ⟨gF, oF + i * 3 + 2, none⟩ = some r.v) 18 [true, true, true, true, true, true, true, true, true, true, true, true, true, true, true, true, false, false] (by kernel_rfl) (by kernel_rfl) (⟨hB.bel (bdrew (Below.refl _ _)), (hRow.bel (bdrew (Below.refl _ _))).reads.rec_ (f := RRec.cells) (rrec_len rs) hr 2 _ rfl⟩) ?_
      obtain ⟨w5, hw_⟩ : ∃ w5 : World, w5 = World.drew w3 := ⟨_, rfl⟩
      rw [← hw_]
      have hb : Below w3.heap.size w3 w5 := by rw [hw_]; exact bdrew (Below.refl _ _)
      clear hw_
      have hS := hb
      replace hcw := hcw.then_below hb
      replace hB := hB.bel hb
      replace h := h.bel hb
      replace hRow := hRow.bel hb
      have hz_w5 := hb.size
      clear hb
      refine pY (fun W_ hW_ => (X.move rfl)) rfl (pY (fun W_ hW_ => (X.nilChk rfl)) rfl (pY (fun W_ hW_ => (X.fa fa83_0 rfl)) rfl (pY (fun W_ hW_ => (X.ldL rfl hW_.1 Tryz.underlying81 rfl rfl)) rfl (pY (fun W_ hW_ => (X.move rfl)) rfl (pY (fun W_ hW_ => (X.move rfl)) rfl (pY (fun W_ hW_ => (X.nilChk rfl)) rfl (pY (fun W_ hW_ => (X.fa fa83_0 rfl)) rfl (pY (fun W_ hW_ => (X.ldL rfl hW_.1 Tryz.underlying81 rfl rfl)) rfl (pY (fun W_ hW_ => (X.move rfl)) rfl (pY (fun W_ hW_ => (X.idxA (j := i) rfl rfl Tryz.underlying81 siz92 rfl (by omega))) rfl ?_))))))))))
      refine pY (fun W_ hW_ => (X.fa fa92_2 rfl)) rfl (pY (fun W_ hW_ => (X.ld rfl Tryz.underlying90 rfl hW_.2)) rfl (pY (fun W_ hW_ => (X.move rfl)) rfl (pY (fun W_ hW_ => (X.move rfl)) rfl (pY (fun W_ hW_ => (X.bld rfl (bRPut a d _))) rfl (pL (fun Q_ hQ_ hP_ => (sbs1 rfl Tryz.underlying90 inf132 rfl rfl (by decide) (by decide) rfl (fun g74 w6 hR74 hg74 hb => ?_))))))))
      replace hcw := hcw.then_below hb
      replace hB := hB.bel hb
      replace h := h.bel hb
      replace hRow := hRow.bel hb
      have hz_w6 := hb.size
      clear hb
      have hl74 := hR74.blt (by decide)
      refine Wn (hQ_ _ _ (⟨hB, hRow.reads.rec_ (f := RRec.cells) (rrec_len rs) hr 2 _ rfl⟩) ?_)
      clear hQ_ hP_ Q_
      refine pL (fun Q_ hQ_ hP_ => (sapp rfl rfl Tryz.underlying90 inf132 rfl (by decide) (h.rows r hmem) (hR74.reads.src Tryz.underlying90 (by intro u hu; exact putCells_one (a, d) u (by simpa [putCells, Value.cells] using hu))) (by simp only [maxLen]; omega) (by omega) rfl (fun v' w7 hR2 hC2 hv => ?_)))
      obtain ⟨av, cv, rfl, _, _⟩ := hR2.shape
      have hz_w7 := hC2.size
      have hRow' := h.row.chg hC2 (fun k hk e => h.row.apart_ (h.rows r hmem) (by decide) k hk e)
      have hB' := h.blk.chg hC2 (fun e => (h.rows r hmem).ne2 h.blk (by decide) _ e rfl)
      have hot : ∀ q ∈ delR rs i, Row w7 132 2 q.v q.f.pend.length (q.f.pend.flatMap putCells) := fun q hq => (h.rows q (delR_mem hq)).chg hC2 (fun k hk e => hra q hq k hk e)
      have hnw : ∀ k, (Value.slice av (r.f.pend.length + 1) cv).ownBlock = some k → r.v.ownBlock = some k ∨ (w6.heap.size ≤ k ∧ k < w7.heap.size) := fun k hk => by
       have hlk := hR2.lt k hk
       rcases hv with hv | hv
       ·exact .inl (hv ▸ hk)
       ·rw [hv] at hk
        injection hk with hk
        right; omega
      replace hcw := hcw.next hC2 (fun k hk => .inl (hh.v r hmem k hk))
      have hlr := fun q hq => (h.rows q (delR_mem (i := i) hq)).lt
      clear hC2 h hB hRow
      have hB := hB'
      have hRow := hRow'
      clear hB' hRow'
      refine Wn (hQ_ _ _ (⟨hB, hRow.reads.rec_ (f := RRec.cells) (rrec_len rs) hr 2 _ rfl⟩) ?_)
      clear hQ_ hP_ Q_
      refine pN (st (X.idxA rfl rfl Tryz.underlying81 siz92 rfl (by omega)) rfl (st (X.fa fa92_2 rfl) rfl (ssRN (o := oF) (j := i * 3 + 2) rfl (by omega) rfl hRow (by omega) (by omega) siz90 rfl (fun w8 hR3 hC3 => ?_))))
      have hz_w8 := hC3.size
      have hB3 := hB.chg hC3 (fun e => by have := h0; exact hneF e.symm)
      have hrow3 := hR2.chg hC3 (hR2.ne2x hRow)
      have hot3 : ∀ q ∈ delR rs i, Row w8 132 2 q.v q.f.pend.length (q.f.pend.flatMap putCells) := fun q hq => (hot q hq).chg hC3 ((hot q hq).ne2x hRow)
      replace hcw := hcw.next hC3 (fun k hk => .inl (hh.vF k (by rw [show k = gF from hk]; rfl)))
      refine Wn (nN (tN (W_rs (sa rfl rfl (Wn (tN (W_ret ?_)))))))
      rw [flat_set3 ⟨n, laidM r.f a d, .slice av (r.f.pend.length + 1) cv⟩ 2 _ hr (by omega) (by rw [← hrn]; rfl)] at hR3
      have h4 := hI.upd hr (by rw [hrn]) hok.srt hB3 hR3 (by simpa [laidM, putCells, Value.cells] using hrow3) hot3 (D.used + moreM r.f a d)
      rw [hrn] at h4
      refine (rT rfl rfl (RPost.of h4 (hh.upd hr (fun k hk => .inl hk) (fun k hk => ?_) (fun q hq k hk e => ?_)) hcw rfl)).1
      ·rcases hnw k hk with e | e
       ·exact .inl (hh.v r hmem k e)
       ·exact .inr ⟨by omega, by omega⟩
      ·rcases hnw k e with e | e
       ·exact hra q hq k hk e
       ·have := hlr q hq k hk
        omega
     ·first | replace h57 := of_decide_eq_false h57 | replace h57 := of_decide_eq_true (notF h57) | replace h57 := notF h57 | skip
      have hd0 : d = [] := by simpa using h57
      rw [if_pos hd0]
      refine W_skip (tN (W_rs (sa rfl rfl (Wn (tN (W_ret ?_))))))
      exact (rT rfl rfl (RPost.of h hh.ext hcw rfl)).1
set_option maxRecDepth 10000 in
theorem RAppend_any (n : Key) (d : List UInt8) (hok : DOk D) (hbud : DBud D) (hd : d.length ≤ 1099511627776) : Calls Tryz.prog 51 #[.pointer (some ⟨g, 0, none⟩), str n, str d] w (RPost g S w (appendM D n d)) := by
 have h0 := h
 obtain ⟨vF, rs, h, hh⟩ := h
 have hSg := hh.g
 by_cases hl : D.stops = true ∧ D.left = 0
 ·skip
  refine W_enter (args := [.pointer (some ⟨g, 0, none⟩), str n, str d]) 28 Tryz.func51 rfl rfl rfl (W_sub [(0, .pointer (some ⟨g, 0, none⟩)), (1, str n), (2, str d)] ?_ ⟨rfl, rfl, rfl, trivial⟩)
  have hbw := Below.refl w.heap.size w
  refine W_rs (sa rfl rfl (Wn (tN (W_seq (W_rs (sm rfl rfl (sc _ Tryz.func93 rfl (by kernel_rfl) rfl rfl ((dead_yes g D vF rs _ h hl).mono ?_))))))))
  rintro e_ w_ ⟨rfl, rfl⟩
  refine cR (Wn (tN (W_yes rfl (rfl) (W_rs (sa rfl rfl (Wn (tN (W_ret (tR ?_)))))))))
  exact (rT rfl rfl (RPost.same h0 hbw (opM_dead hl _))).1
 obtain ⟨o, ho⟩ := place_ex rs n
 have hok' := tick_ok hok hl
 have hbud' := tick_bud hbud
 cases o with
 | none =>
  refine W_enter (args := [.pointer (some ⟨g, 0, none⟩), str n, str d]) 28 Tryz.func51 rfl rfl rfl (W_sub [(0, .pointer (some ⟨g, 0, none⟩)), (1, str n), (2, str d)] ?_ ⟨rfl, rfl, rfl, trivial⟩)
  have hcw := Chg.refl (S) w
  refine W_rs (sa rfl rfl (Wn (tN (W_seq (W_rs (sm rfl rfl (sc _ Tryz.func93 rfl (by kernel_rfl) rfl rfl ((dead_no g D vF rs _ h hok hl).mono ?_))))))))
  clear h
  rintro e_ w1 ⟨rfl, h, hC⟩
  refine cR ?_
  replace hcw := hcw.next hC (fun i_ hi_ => by first | exact .inl hi_ | exact .inl (.inl hi_) | (right; subst hi_; omega) | (left; subst hi_; show _ ≤ _; omega) | (left; subst hi_; assumption))
  have hz_w1 := hC.size
  clear hC
  refine Wn (tN (W_no rfl (rfl) (W_skip (tN (W_rs (sm rfl rfl (sm rfl rfl (sc _ Tryz.func95 rfl (by kernel_rfl) rfl rfl ((place_any g (tickM D) vF rs n none _ h ho).mono ?_)))))))))
  rintro e_ w_ ⟨rfl, rfl⟩
  refine cR (sa rfl rfl (Wn (tN (W_seq (W_rs (sm rfl rfl (st (X.lss rfl rfl) rfl (Wn (tN (W_yes rfl (rfl) ?_))))))))))
  refine W_rs (sa rfl rfl (Wn (tN (W_ret (tR ?_)))))
  exact (rT rfl rfl (RPost.of h hh.ext hcw ((opM_live hl _).trans (fileM_none (h.get_none ho) _)))).1
 | some i =>
  obtain ⟨r, hr, hrn, hg0, _⟩ := h.get_some hok ho
  have hg : mget (tickM D).files n = some r.f := tick_get hg0
  have hi := (List.getElem?_eq_some_iff.1 hr).1
  have hmem := List.mem_of_getElem? hr
  have hnl := (hok.len hg0).1
  obtain ⟨gF, oF, c, rfl, hgF⟩ := h.row.reads.some_ (by omega)
  refine W_enter (args := [.pointer (some ⟨g, 0, none⟩), str n, str d]) 28 Tryz.func51 rfl rfl rfl (W_sub [(0, .pointer (some ⟨g, 0, none⟩)), (1, str n), (2, str d)] ?_ ⟨rfl, rfl, rfl, trivial⟩)
  have hcw := Chg.refl (S) w
  refine W_rs (sa rfl rfl (Wn (tN (W_seq (W_rs (sm rfl rfl (sc _ Tryz.func93 rfl (by kernel_rfl) rfl rfl ((dead_no g D (.slice (some ⟨gF, oF, none⟩) rs.length c) rs _ h hok hl).mono ?_))))))))
  clear h
  rintro e_ w1 ⟨rfl, h, hC⟩
  refine cR ?_
  replace hcw := hcw.next hC (fun i_ hi_ => by first | exact .inl hi_ | exact .inl (.inl hi_) | (right; subst hi_; omega) | (left; subst hi_; show _ ≤ _; omega) | (left; subst hi_; assumption))
  have hz_w1 := hC.size
  clear hC
  refine Wn (tN (W_no rfl (rfl) (W_skip (tN (W_rs (sm rfl rfl (sm rfl rfl (sc _ Tryz.func95 rfl (by kernel_rfl) rfl rfl ((place_any g (tickM D) (.slice (some ⟨gF, oF, none⟩) rs.length c) rs n (some i) _ h ho).mono ?_)))))))))
  rintro e_ w_ ⟨rfl, rfl⟩
  refine cR (sa rfl rfl (Wn (tN (W_seq (W_rs (sm rfl rfl (st (X.lss rfl rfl) rfl (Wn (tN (W_no rfl (decide_eq_false (by show ¬ (i : Int) < 0; omega)) ?_))))))))))
  refine W_skip (tN (W_rs (sm rfl rfl (sm rfl rfl (sm rfl rfl (st (X.nilChk rfl) rfl (st (X.fa fa83_0 rfl) rfl (st (X.ldL rfl h.blk Tryz.underlying81 rfl rfl) rfl (sm rfl rfl (st (X.idxA (j := i) rfl rfl Tryz.underlying81 siz92 rfl (by omega)) rfl ?_))))))))))
  refine st (X.ldN (cs := r.cells) rfl Tryz.underlying92 rfl siz92 (h.row.reads.rec_ (f := RRec.cells) (rrec_len rs) hr)) rfl (sc _ Tryz.func62 rfl (by kernel_rfl) rfl rfl ((BytesOf_any h hok' hbud' hmem).mono ?_))
  rintro e_ w2 ⟨rfl, hb⟩
  refine cR ?_
  replace hcw := hcw.then_below hb
  replace h := h.bel hb
  have hz_w2 := hb.size
  clear hb
  refine st (X.lenS rfl rfl Tryz.underlying9) rfl (sm rfl rfl (sc _ Tryz.func97 rfl (by kernel_rfl) rfl rfl ((Rwrite_any g (tickM D) S _ ⟨_, rs, h, hh⟩ n r.f.now.length d hok' hbud' hd).mono ?_)))
  rintro e_ w3 ⟨rfl, h2, hX⟩
  refine cR (sa rfl rfl (Wn (tN (W_ret ((rT rfl rfl (RPost.up ⟨rfl, h2, hX⟩ hcw ?_)).1)))))
  refine (opM_live hl _).trans ?_
  rw [fileM_some hg, fileM_some hg, if_neg (by omega), Int.toNat_natCast]
set_option maxRecDepth 10000 in
theorem RSync_any (n : Key) (hok : DOk D) (hbud : DBud D) : Calls Tryz.prog 53 #[.pointer (some ⟨g, 0, none⟩), str n] w (RPost g S w (syncM D n)) := by
 have h0 := h
 obtain ⟨vF, rs, h, hh⟩ := h
 have hSg := hh.g
 by_cases hl : D.stops = true ∧ D.left = 0
 ·skip
  refine W_enter (args := [.pointer (some ⟨g, 0, none⟩), str n]) 35 Tryz.func53 rfl rfl rfl (W_sub [(0, .pointer (some ⟨g, 0, none⟩)), (1, str n)] ?_ ⟨rfl, rfl, trivial⟩)
  have hbw := Below.refl w.heap.size w
  refine W_rs (sa rfl rfl (Wn (tN (W_seq (W_rs (sm rfl rfl (sc _ Tryz.func93 rfl (by kernel_rfl) rfl rfl ((dead_yes g D vF rs _ h hl).mono ?_))))))))
  rintro e_ w_ ⟨rfl, rfl⟩
  refine cR (Wn (tN (W_yes rfl (rfl) (W_rs (sa rfl rfl (Wn (tN (W_ret (tR ?_)))))))))
  exact (rT rfl rfl (RPost.same h0 hbw (opM_dead hl _))).1
 obtain ⟨o, ho⟩ := place_ex rs n
 have hok' := tick_ok hok hl
 have hbud' := tick_bud hbud
 cases o with
 | none =>
  refine W_enter (args := [.pointer (some ⟨g, 0, none⟩), str n]) 35 Tryz.func53 rfl rfl rfl (W_sub [(0, .pointer (some ⟨g, 0, none⟩)), (1, str n)] ?_ ⟨rfl, rfl, trivial⟩)
  have hcw := Chg.refl (S) w
  refine W_rs (sa rfl rfl (Wn (tN (W_seq (W_rs (sm rfl rfl (sc _ Tryz.func93 rfl (by kernel_rfl) rfl rfl ((dead_no g D vF rs _ h hok hl).mono ?_))))))))
  clear h
  rintro e_ w1 ⟨rfl, h, hC⟩
  refine cR ?_
  replace hcw := hcw.next hC (fun i_ hi_ => by first | exact .inl hi_ | exact .inl (.inl hi_) | (right; subst hi_; omega) | (left; subst hi_; show _ ≤ _; omega) | (left; subst hi_; assumption))
  have hz_w1 := hC.size
  clear hC
  refine Wn (tN (W_no rfl (rfl) (W_skip (tN (W_rs (sm rfl rfl (sm rfl rfl (sc _ Tryz.func95 rfl (by kernel_rfl) rfl rfl ((place_any g (tickM D) vF rs n none _ h ho).mono ?_)))))))))
  rintro e_ w_ ⟨rfl, rfl⟩
  refine cR (sa rfl rfl (Wn (tN (W_seq (W_rs (sm rfl rfl (st (X.lss rfl rfl) rfl (Wn (tN (W_yes rfl (rfl) ?_))))))))))
  refine W_rs (sa rfl rfl (Wn (tN (W_ret (tR ?_)))))
  exact (rT rfl rfl (RPost.of h hh.ext hcw ((opM_live hl _).trans (fileM_none (h.get_none ho) _)))).1
 | some i =>
  obtain ⟨r, hr, hrn, hg0, _⟩ := h.get_some hok ho
  have hg : mget (tickM D).files n = some r.f := tick_get hg0
  have hi := (List.getElem?_eq_some_iff.1 hr).1
  have hmem := List.mem_of_getElem? hr
  have hra := hh.apart.others hr
  obtain ⟨gF, oF, c, rfl, hgF⟩ := h.row.reads.some_ (by omega)
  have hneF : gF ≠ g := fun e => h.row.ne2 h.blk (by decide) gF rfl e
  refine W_enter (args := [.pointer (some ⟨g, 0, none⟩), str n]) 35 Tryz.func53 rfl rfl rfl (W_sub [(0, .pointer (some ⟨g, 0, none⟩)), (1, str n)] ?_ ⟨rfl, rfl, trivial⟩)
  have hcw := Chg.refl (S) w
  refine W_rs (sa rfl rfl (Wn (tN (W_seq (W_rs (sm rfl rfl (sc _ Tryz.func93 rfl (by kernel_rfl) rfl rfl ((dead_no g D (.slice (some ⟨gF, oF, none⟩) rs.length c) rs _ h hok hl).mono ?_))))))))
  clear h
  rintro e_ w1 ⟨rfl, h, hC⟩
  refine cR ?_
  replace hcw := hcw.next hC (fun i_ hi_ => by first | exact .inl hi_ | exact .inl (.inl hi_) | (right; subst hi_; omega) | (left; subst hi_; show _ ≤ _; omega) | (left; subst hi_; assumption))
  have hz_w1 := hC.size
  clear hC
  refine Wn (tN (W_no rfl (rfl) (W_skip (tN (W_rs (sm rfl rfl (sm rfl rfl (sc _ Tryz.func95 rfl (by kernel_rfl) rfl rfl ((place_any g (tickM D) (.slice (some ⟨gF, oF, none⟩) rs.length c) rs n (some i) _ h ho).mono ?_)))))))))
  rintro e_ w_ ⟨rfl, rfl⟩
  refine cR (sa rfl rfl (Wn (tN (W_seq (W_rs (sm rfl rfl (st (X.lss rfl rfl) rfl (Wn (tN (W_no rfl (decide_eq_false (by show ¬ (i : Int) < 0; omega)) ?_))))))))))
  refine W_skip (tN (W_phase_s (fun W_ => Blk W_ g 83 #[.slice (some ⟨gF, oF, none⟩) rs.length c, .int .i64 (tickM D).limit, .int .i64 (tickM D).refused, .bool (tickM D).stops, .int .i64 (tickM D).left] ∧ W_.rangeAt gF (oF + i * 3) r.cells) 13 [true, true, true, true, true, true, true, true, true, true, true, true, false] (by kernel_rfl) (by kernel_rfl) (⟨(h.bel (bdrew (Below.refl _ _))).blk, (h.bel (bdrew (Below.refl _ _))).row.reads.rec_ (f := RRec.cells) (rrec_len rs) hr⟩) ?_))
  obtain ⟨w2, hw_⟩ : ∃ w2 : World, w2 = World.drew w1 := ⟨_, rfl⟩
  rw [← hw_]
  have hb : Below w1.heap.size w1 w2 := by rw [hw_]; exact bdrew (Below.refl _ _)
  clear hw_
  have hS := hb
  replace hcw := hcw.then_below hb
  replace h := h.bel hb
  have hz_w2 := hb.size
  clear hb
  refine pY (fun W_ hW_ => (X.move rfl)) rfl (pY (fun W_ hW_ => (X.nilChk rfl)) rfl (pY (fun W_ hW_ => (X.fa fa83_0 rfl)) rfl (pY (fun W_ hW_ => (X.ldL rfl hW_.1 Tryz.underlying81 rfl rfl)) rfl (pY (fun W_ hW_ => (X.move rfl)) rfl (pY (fun W_ hW_ => (X.move rfl)) rfl (pY (fun W_ hW_ => (X.nilChk rfl)) rfl (pY (fun W_ hW_ => (X.fa fa83_0 rfl)) rfl (pY (fun W_ hW_ => (X.ldL rfl hW_.1 Tryz.underlying81 rfl rfl)) rfl (pY (fun W_ hW_ => (X.move rfl)) rfl (pY (fun W_ hW_ => (X.idxA (j := i) rfl rfl Tryz.underlying81 siz92 rfl (by omega))) rfl ?_))))))))))
  refine pY (fun W_ hW_ => (X.ldN (cs := r.cells) rfl Tryz.underlying92 rfl siz92 hW_.2)) rfl (pL (fun Q_ hQ_ hP_ => (sc _ Tryz.func62 rfl (by kernel_rfl) rfl rfl ((BytesOf_any h hok' hbud' hmem).mono ?_))))
  rintro e_ w3 ⟨rfl, hb⟩
  refine cR ?_
  replace hcw := hcw.then_below hb
  replace h := h.bel hb
  have hz_w3 := hb.size
  clear hb
  refine Wn (hQ_ _ _ (⟨h.blk, h.row.reads.rec_ (f := RRec.cells) (rrec_len rs) hr⟩) ?_)
  clear hQ_ hP_ Q_
  refine pN (st (X.idxA (j := i) rfl rfl Tryz.underlying81 siz92 rfl (by omega)) rfl (st (X.fa fa92_1 rfl) rfl (ssRN (o := oF) (j := i * 3 + 1) rfl (by omega) rfl h.row (by omega) (by omega) siz9 rfl (fun w4 hR3 hC3 => ?_))))
  have hzc := hcw.size
  have hz_w4 := hC3.size
  have hB3 := h.blk.chg hC3 (fun e => hneF e.symm)
  have hot3 : ∀ q ∈ delR rs i, Row w4 132 2 q.v q.f.pend.length (q.f.pend.flatMap putCells) := fun q hq => (h.rows q (delR_mem hq)).chg hC3 ((h.rows q (delR_mem hq)).ne2x h.row)
  replace hcw := hcw.next hC3 (fun k hk => .inl (hh.vF k (by rw [show k = gF from hk]; rfl)))
  have hI := h
  clear h hC3
  refine Wn (nN (W_rs (sm rfl rfl (st (X.nilChk rfl) rfl (st (X.fa fa83_0 rfl) rfl (st (X.ldL rfl hB3 Tryz.underlying81 rfl rfl) rfl (sm rfl rfl (st (X.idxA (j := i) rfl rfl Tryz.underlying81 siz92 rfl (by omega)) rfl (st (X.fa fa92_2 rfl) rfl (ssRN (o := oF) (j := i * 3 + 2) rfl (by omega) rfl hR3 (by omega) (by omega) siz90 rfl (fun w5 hR4 hC3 => ?_)))))))))))
  have hz_w5 := hC3.size
  have hB4 := hB3.chg hC3 (fun e => hneF e.symm)
  have hot4 : ∀ q ∈ delR rs i, Row w5 132 2 q.v q.f.pend.length (q.f.pend.flatMap putCells) := fun q hq => (hot3 q hq).chg hC3 ((hot3 q hq).ne2x hR3)
  replace hcw := hcw.next hC3 (fun k hk => .inl (hh.vF k (by rw [show k = gF from hk]; rfl)))
  refine Wn (tN (W_rs (sa rfl rfl (Wn (tN (W_ret ?_))))))
  rw [flat_set3 ⟨n, ⟨r.f.now, r.f.now, r.f.pend⟩, r.v⟩ 1 _ hr (by omega) (by rw [← hrn]; rfl), flat_set3 (r := ⟨n, ⟨r.f.now, r.f.now, r.f.pend⟩, r.v⟩) ⟨n, lastsM r.f, .slice none 0 0⟩ 2 _ (by rw [List.getElem?_set_self hi]) (by omega) rfl, List.set_set] at hR4
  have h4 := hI.upd (r' := ⟨n, lastsM r.f, .slice none 0 0⟩) hr (by rw [hrn]) hok'.srt hB4 hR4 (Row.nil _ _ _) hot4 (tickM D).used
  rw [hrn] at h4
  exact (rT rfl rfl (RPost.of h4 (hh.upd hr (fun k hk => .inl hk) (fun k hk => by simp [Value.ownBlock] at hk) (fun q hq k hk e => by simp [Value.ownBlock] at e)) hcw ((opM_live hl _).trans (fileM_some hg _)))).1
set_option maxRecDepth 10000 in
theorem RRot_any (n : Key) (at_ : Int) (b : UInt8) (hok : DOk D) (hbud : DBud D) : Calls Tryz.prog 56 #[.pointer (some ⟨g, 0, none⟩), str n, .int .i64 at_, .int .u8 b.toNat] w (RPost g S w (rotM D n at_ b)) := by
 have h0 := h
 obtain ⟨vF, rs, h, hh⟩ := h
 have hSg := hh.g
 obtain ⟨o, ho⟩ := place_ex rs n
 cases o with
 | none =>
  refine W_enter (args := [.pointer (some ⟨g, 0, none⟩), str n, .int .i64 at_, .int .u8 b.toNat]) 58 Tryz.func56 rfl rfl rfl (W_sub [(0, .pointer (some ⟨g, 0, none⟩)), (1, str n), (2, .int .i64 at_), (3, .int .u8 b.toNat)] ?_ ⟨rfl, rfl, rfl, rfl, trivial⟩)
  have hbw := Below.refl w.heap.size w
  refine W_rs (sa rfl rfl (Wn (tN (W_rs (sm rfl rfl (sm rfl rfl (sc _ Tryz.func95 rfl (by kernel_rfl) rfl rfl ((place_any g D vF rs n none _ h ho).mono ?_))))))))
  rintro e_ w_ ⟨rfl, rfl⟩
  refine cR (sa rfl rfl (Wn (tN (W_seq (W_rs (sm rfl rfl (st (X.lss rfl rfl) rfl (Wn (tN (W_yes rfl (rfl) ?_))))))))))
  refine W_rs (sa rfl rfl (Wn (tN (W_ret (tR ?_)))))
  exact (rT rfl rfl (RPost.same h0 hbw (fileM_none (h.get_none ho) _))).1
 | some i =>
  obtain ⟨r, hr, hrn, hg, _⟩ := h.get_some hok ho
  have hB := h.blk
  have hi := (List.getElem?_eq_some_iff.1 hr).1
  have hmem := List.mem_of_getElem? hr
  have hnl := (hok.len hg).1
  have hra := hh.apart.others hr
  obtain ⟨gF, oF, c, rfl, hgF⟩ := h.row.reads.some_ (by omega)
  have hneF : gF ≠ g := fun e => h.row.ne2 h.blk (by decide) gF rfl e
  have hF : rotM D n at_ b = (if at_ < 0 ∨ (r.f.now.length : Int) ≤ at_ then (1, D) else (0, { D with files := sput D.files n ⟨r.f.now.set at_.toNat b, r.f.now.set at_.toNat b, []⟩ })) := fileM_some hg _
  rw [hF]
  refine W_enter (args := [.pointer (some ⟨g, 0, none⟩), str n, .int .i64 at_, .int .u8 b.toNat]) 58 Tryz.func56 rfl rfl rfl (W_sub [(0, .pointer (some ⟨g, 0, none⟩)), (1, str n), (2, .int .i64 at_), (3, .int .u8 b.toNat)] ?_ ⟨rfl, rfl, rfl, rfl, trivial⟩)
  have hcw := Chg.refl (S) w
  refine W_rs (sa rfl rfl (Wn (tN (W_rs (sm rfl rfl (sm rfl rfl (sc _ Tryz.func95 rfl (by kernel_rfl) rfl rfl ((place_any g D (.slice (some ⟨gF, oF, none⟩) rs.length c) rs n (some i) _ h ho).mono ?_))))))))
  rintro e_ w_ ⟨rfl, rfl⟩
  refine cR (sa rfl rfl (Wn (tN (W_seq (W_rs (sm rfl rfl (st (X.lss rfl rfl) rfl (Wn (tN (W_no rfl (decide_eq_false (by show ¬ (i : Int) < 0; omega)) ?_))))))))))
  refine W_skip (tN (W_rs (sm rfl rfl (st (X.nilChk rfl) rfl (st (X.fa fa83_0 rfl) rfl (st (X.ldL rfl h.blk Tryz.underlying81 rfl rfl) rfl (sm rfl rfl (st (X.idxA (j := i) rfl rfl Tryz.underlying81 siz92 rfl (by omega)) rfl (st (X.ldN (cs := r.cells) rfl Tryz.underlying92 rfl siz92 (h.row.reads.rec_ (f := RRec.cells) (rrec_len rs) hr)) rfl (sc _ Tryz.func62 rfl (by kernel_rfl) rfl rfl ((BytesOf_any h hok hbud hmem).mono ?_)))))))))))
  rintro e_ w1 ⟨rfl, hb⟩
  refine cR ?_
  replace hcw := hcw.then_below hb
  replace h := h.bel hb
  replace hB := hB.bel hb
  have hz_w1 := hb.size
  clear hb
  refine sa rfl rfl (Wn (tN (W_seq (W_rs (sm rfl rfl (st (X.lss rfl rfl) rfl (sb rfl rfl (fun h26 => ?_) (fun h26 => ?_))))))))
  ·first | replace h26 := of_decide_eq_true h26 | replace h26 := of_decide_eq_false (notT h26) | replace h26 := notT h26 | skip
   rw [if_pos (.inl h26)]
   refine gN (g := 26) rfl rfl rfl rfl (gN (g := 26) rfl rfl rfl rfl (gN (g := 26) rfl rfl rfl rfl (gN (g := 26) rfl rfl rfl rfl (st (X.pickT rfl rfl) rfl (Wn (tN (W_yes rfl (rfl) (W_rs (sa rfl rfl (Wn ?_))))))))))
   refine tN (W_ret (tR ?_))
   exact (rT rfl rfl (RPost.of h hh.ext hcw rfl)).1
  ·first | replace h26 := of_decide_eq_false h26 | replace h26 := of_decide_eq_true (notF h26) | replace h26 := notF h26 | skip
   refine gY (g := 26) rfl rfl rfl (sm rfl rfl (gY (g := 26) rfl rfl rfl (sm rfl rfl (gY (g := 26) rfl rfl rfl (st (X.lenS rfl rfl Tryz.underlying9) rfl (gY (g := 26) rfl rfl rfl (st (X.geq rfl rfl) rfl (st (X.pickF rfl rfl) rfl (Wn (tN ?_))))))))))
   refine W_if rfl (fun h31 => ?_) (fun h31 => ?_)
   ·first | replace h31 := of_decide_eq_true h31 | replace h31 := of_decide_eq_false (notT h31) | replace h31 := notT h31 | skip
    rw [if_pos (.inr (by omega))]
    refine W_rs (sa rfl rfl (Wn (tN (W_ret (tR ?_)))))
    exact (rT rfl rfl (RPost.of h hh.ext hcw rfl)).1
   ·first | replace h31 := of_decide_eq_false h31 | replace h31 := of_decide_eq_true (notF h31) | replace h31 := notF h31 | skip
    obtain ⟨a, rfl⟩ : ∃ a : Nat, at_ = (a : Int) := ⟨at_.toNat, by omega⟩
    rw [if_neg (by omega), Int.toNat_natCast]
    have hset : r.f.now.set a b = r.f.now.take a ++ [b] ++ r.f.now.drop (a + 1) := by rw [List.set_eq_take_append_cons_drop, if_pos (by omega)]; simp
    have htl : (r.f.now.take a).length = a := by rw [List.length_take]; omega
    have hdl := List.length_drop (i := a + 1) (l := r.f.now)
    refine W_skip (tN (W_drsN (fun W_ => Blk W_ g 83 #[.slice (some ⟨gF, oF, none⟩) rs.length c, .int .i64 D.limit, .int .i64 D.refused, .bool D.stops, .int .i64 D.left]) [0, 1, 2, 3, 4, 5, 6, 7, 8, 12, 13, 14, 15, 9, 10, 11, 16, 17, 18, 19] [true, true, true, true, true, true, true, true, true, true, true, true, true, false, false, true, true, true, true, false] (by kernel_rfl) (by kernel_rfl) (hB.bel (bdrew (Below.refl _ _))) ?_))
    obtain ⟨w2, hw_⟩ : ∃ w2 : World, w2 = World.drew w1 := ⟨_, rfl⟩
    rw [← hw_]
    have hb : Below w1.heap.size w1 w2 := by rw [hw_]; exact bdrew (Below.refl _ _)
    clear hw_
    have hS := hb
    replace hcw := hcw.then_below hb
    replace h := h.bel hb
    replace hB := hB.bel hb
    have hz_w2 := hb.size
    clear hb
    refine oY rfl (fun W_ hW_ => (X.move rfl)) rfl (oY rfl (fun W_ hW_ => (X.nilChk rfl)) rfl (oY rfl (fun W_ hW_ => (X.fa fa83_0 rfl)) rfl (oY rfl (fun W_ hW_ => (X.ldL rfl hW_ Tryz.underlying81 rfl rfl)) rfl (oY rfl (fun W_ hW_ => (X.move rfl)) rfl (oY rfl (fun W_ hW_ => (X.move rfl)) rfl (oY rfl (fun W_ hW_ => (X.move rfl)) rfl (oY rfl (fun W_ hW_ => (X.toS (j := a) rfl rfl Tryz.underlying9 rfl (by omega))) rfl (oY rfl (fun W_ hW_ => (X.move rfl)) rfl (oY rfl (fun W_ hW_ => (X.move rfl)) rfl (oY rfl (fun W_ hW_ => (X.move rfl)) rfl ?_))))))))))
    refine oY rfl (fun W_ hW_ => (X.add64 rfl rfl (by omega))) rfl (oY rfl (fun W_ hW_ => (X.fromS (i := a + 1) rfl rfl Tryz.underlying9 (by omega) (by omega))) rfl (oL rfl (fun Q_ hQ_ hP_ => (sbs1 rfl Tryz.underlying94 inf5 rfl rfl (by decide) (by decide) rfl (fun g41 w3 hR41 hg41 hb => ?_)))))
    replace hcw := hcw.then_below hb
    replace h := h.bel hb
    replace hB := hB.bel hb
    have hz_w3 := hb.size
    clear hb
    have hl41 := hR41.blt (by decide)
    refine Wn (hQ_ _ _ (hB) ?_)
    clear hQ_ hP_ Q_
    refine oL rfl (fun Q_ hQ_ hP_ => (st (X.strOf (s := [b]) rfl Tryz.underlying94 Tryz.underlying5 Tryz.underlying9 hR41.reads) rfl (Wn (hQ_ _ _ (hB) ?_))))
    clear hQ_ hP_ Q_
    have h1l : ([b] : List UInt8).length = 1 := rfl
    have hcl : (r.f.now.take a ++ [b]).length = a + 1 := by rw [List.length_append, htl]; rfl
    refine oY rfl (fun W_ hW_ => (X.cat rfl rfl (by omega))) rfl (oY rfl (fun W_ hW_ => (X.cat rfl rfl (by omega))) rfl ?_)
    rw [← hset]
    refine oY rfl (fun W_ hW_ => (X.idxA rfl rfl Tryz.underlying81 siz92 rfl (by omega))) rfl (oY rfl (fun W_ hW_ => (X.fa fa92_1 rfl)) rfl (oL rfl (fun Q_ hQ_ hP_ => (ssRN (o := oF) (j := i * 3 + 1) rfl (by omega) rfl h.row (by omega) (by omega) siz9 rfl (fun w4 hR3 hC3 => ?_)))))
    have hzc := hcw.size
    have hz_w4 := hC3.size
    have hB3 := h.blk.chg hC3 (fun e => hneF e.symm)
    have hot3 : ∀ q ∈ delR rs i, Row w4 132 2 q.v q.f.pend.length (q.f.pend.flatMap putCells) := fun q hq => (h.rows q (delR_mem hq)).chg hC3 ((h.rows q (delR_mem hq)).ne2x h.row)
    replace hcw := hcw.next hC3 (fun k hk => .inl (hh.vF k (by rw [show k = gF from hk]; rfl)))
    have hI := h
    clear h hC3 hB
    have hB := hB3
    refine Wn (hQ_ _ _ (hB) ?_)
    clear hQ_ hP_ Q_
    refine oN (nN (W_rs (sm rfl rfl (st (X.nilChk rfl) rfl (st (X.fa fa83_0 rfl) rfl (st (X.ldL rfl hB3 Tryz.underlying81 rfl rfl) rfl (sm rfl rfl (st (X.idxA (j := i) rfl rfl Tryz.underlying81 siz92 rfl (by omega)) rfl (st (X.fa fa92_2 rfl) rfl (ssRN (o := oF) (j := i * 3 + 2) rfl (by omega) rfl hR3 (by omega) (by omega) siz90 rfl (fun w5 hR4 hC3 => ?_)))))))))))
    have hz_w5 := hC3.size
    have hB4 := hB3.chg hC3 (fun e => hneF e.symm)
    have hot4 : ∀ q ∈ delR rs i, Row w5 132 2 q.v q.f.pend.length (q.f.pend.flatMap putCells) := fun q hq => (hot3 q hq).chg hC3 ((hot3 q hq).ne2x hR3)
    replace hcw := hcw.next hC3 (fun k hk => .inl (hh.vF k (by rw [show k = gF from hk]; rfl)))
    refine Wn (tN (W_rs (sa rfl rfl (Wn (tN (W_ret ?_))))))
    rw [flat_set3 ⟨n, ⟨r.f.now.set a b, r.f.now, r.f.pend⟩, r.v⟩ 1 _ hr (by omega) (by rw [← hrn]; rfl), flat_set3 (r := ⟨n, ⟨r.f.now.set a b, r.f.now, r.f.pend⟩, r.v⟩) ⟨n, ⟨r.f.now.set a b, r.f.now.set a b, []⟩, .slice none 0 0⟩ 2 _ (by rw [List.getElem?_set_self hi]) (by omega) rfl, List.set_set] at hR4
    have h4 := hI.upd (r' := ⟨n, ⟨r.f.now.set a b, r.f.now.set a b, []⟩, .slice none 0 0⟩) hr (by rw [hrn]) hok.srt hB4 hR4 (Row.nil _ _ _) hot4 D.used
    rw [hrn] at h4
    exact (rT rfl rfl (RPost.of h4 (hh.upd hr (fun k hk => .inl hk) (fun k hk => by simp [Value.ownBlock] at hk) (fun q hq k hk e => by simp [Value.ownBlock] at e)) hcw rfl)).1
end
end Go.Proofs.YtnijmegalgoipaaGreatDoor
namespace Go.Proofs.YtnijmegalgoipaaGreatDoor
open Go.RowKit
theorem pendLen_next {l : List (Nat × List UInt8)} {j : Nat} {p : Nat × List UInt8} (h : l[j]? = some p) : pendLen (l.take (j + 1)) = pendLen (l.take j) + p.2.length := by
 rw [take_next' h, pendLen_append]
 rfl
theorem pendLen_take_le (l : List (Nat × List UInt8)) (j : Nat) : pendLen (l.take j) ≤ pendLen l := by
 have := pendLen_append (l.take j) (l.drop j)
 rw [List.take_append_drop] at this
 omega
theorem crashBytes_snoc : ∀ (l : List (Nat × List UInt8)) (s : List UInt8) (p : Nat × List UInt8) (k : Nat), crashBytes s (l ++ [p]) k = overM (crashBytes s l k) (min p.1 (crashBytes s l k).length) (p.2.take (k - pendLen l))
 | [], s, p, k => rfl
 | q :: l, s, p, k => by
  show crashBytes _ (l ++ [p]) _ = _
  rw [crashBytes_snoc l]
  show overM _ _ _ = overM (crashBytes _ l _) _ (p.2.take (k - (q.2.length + pendLen l)))
  rw [show k - min k q.2.length - pendLen l = k - (q.2.length + pendLen l) by omega]
  rfl
theorem crash_full : ∀ (l : List (Nat × List UInt8)) (s : List UInt8) (k : Nat), PutsOk s.length l → pendLen l ≤ k → crashBytes s l k = bytesM s l
 | [], _, _, _, _ => rfl
 | p :: l, s, k, hp, hk => by
  unfold pendLen at hk
  have h1 := overM_length (l := s) (d := p.2) hp.1
  show crashBytes (overM s (min p.1 s.length) (p.2.take k)) l _ = _
  rw [List.take_of_length_le (by omega), Nat.min_eq_left hp.1]
  exact crash_full l _ _ (by rw [h1]; exact hp.2.2) (by omega)
theorem crash_pos {l : List (Nat × List UInt8)} {s : List UInt8} {k j : Nat} {p : Nat × List UInt8} (h : PutsOk s.length l) (hj : l[j]? = some p) (hk : 0 < k - pendLen (l.take j)) : p.1 ≤ (crashBytes s (l.take j) k).length := by
 have hpo := putsOk_at l s j p h hj
 have hpt : PutsOk s.length (l.take j) := by
  clear hj hk hpo
  induction l generalizing s j with
  | nil => rw [List.take_nil]; trivial
  | cons q l ih =>
   cases j with
   | zero => trivial
   | succ j =>
    have h1 := overM_length (l := s) (d := q.2) h.1
    refine ⟨h.1, h.2.1, ?_⟩
    have := ih (s := overM s q.1 q.2) (j := j) (by rw [h1]; exact h.2.2)
    rwa [h1] at this
 rw [crash_full _ _ _ hpt (by omega)]
 exact hpo.1
theorem crash_next {l : List (Nat × List UInt8)} {s : List UInt8} {k j : Nat} {p : Nat × List UInt8} (h : PutsOk s.length l) (hj : l[j]? = some p) : crashBytes s (l.take (j + 1)) k = overM (crashBytes s (l.take j) k) p.1 (p.2.take (k - pendLen (l.take j))) := by
 rw [take_next' hj, crashBytes_snoc]
 by_cases hk : 0 < k - pendLen (l.take j)
 ·rw [Nat.min_eq_left (crash_pos h hj hk)]
 ·rw [show k - pendLen (l.take j) = 0 by omega, List.take_zero, overM_nil, overM_nil]
theorem crash_take_le {l : List (Nat × List UInt8)} {s : List UInt8} (k j : Nat) (h : PutsOk s.length l) : (crashBytes s (l.take j) k).length ≤ (bytesM s l).length := by
 refine Nat.le_trans ?_ (bytesM_take_le l s j h)
 refine crash_len _ _ _ _ ?_ (Nat.le_refl _)
 induction l generalizing s j with
 | nil => rw [List.take_nil]; trivial
 | cons q l ih =>
  cases j with
  | zero => trivial
  | succ j =>
   have h1 := overM_length (l := s) (d := q.2) h.1
   refine ⟨h.1, h.2.1, ?_⟩
   have := ih (s := overM s q.1 q.2) j (by rw [h1]; exact h.2.2)
   rwa [h1] at this
theorem mod_twiceR (p n q : Int) (hq : p.tmod n = q) : (q + n) % n = p % n := by rw [← hq, mod_twice]
def crR : List RRec → List Int → List RRec
  | [], _ => []
  | r :: l, ks => ⟨r.n, crashM r.f (keptM r.f (ks.head?.getD 0)), .slice none 0 0⟩ :: crR l ks.tail
theorem crR_length : ∀ (l : List RRec) (ks : List Int), (crR l ks).length = l.length
 | [], _ => rfl
 | r :: l, ks => by rw [crR, List.length_cons, List.length_cons, crR_length l]
theorem crR_at : ∀ (l : List RRec) (ks : List Int) (i : Nat) (r : RRec), l[i]? = some r → (crR l ks)[i]? = some ⟨r.n, crashM r.f (keptM r.f (ks[i]?.getD 0)), .slice none 0 0⟩
 | [], _, _, _, h => by simp at h
 | q :: l, ks, 0, r, h => by
  simp only [List.getElem?_cons_zero, Option.some.injEq] at h
  subst h
  cases ks <;> rfl
 | q :: l, ks, i + 1, r, h => by
  simp only [List.getElem?_cons_succ] at h
  have := crR_at l ks.tail i r h
  simp only [crR, List.getElem?_cons_succ, this]
  cases ks <;> rfl
theorem crR_map : ∀ (l : List RRec) (ks : List Int), (crR l ks).map (fun r => (r.n, r.f)) = crashAll (l.map (fun r => (r.n, r.f))) ks
 | [], _ => rfl
 | r :: l, ks => by simp only [crR, List.map_cons, crashAll, crR_map l]
theorem crR_nil : ∀ (l : List RRec) (ks : List Int) (r : RRec), r ∈ crR l ks → r.v = .slice none 0 0 ∧ r.f.pend = []
 | [], _, _, h => by cases h
 | a :: l, ks, r, h => by
  rcases List.mem_cons.1 h with h | h
  ·subst h; exact ⟨rfl, rfl⟩
  ·exact crR_nil l _ r h
def midR (rs : List RRec) (ks : List Int) (i : Nat) : List RRec := (crR rs ks).take i ++ rs.drop i
theorem midR_at {rs : List RRec} {ks : List Int} {i : Nat} {r : RRec} (h : rs[i]? = some r) : (midR rs ks i)[i]? = some r := by
 have hi := (List.getElem?_eq_some_iff.1 h).1
 have hl := crR_length rs ks
 unfold midR
 rw [List.getElem?_append_right (by rw [List.length_take]; omega), List.length_take, Nat.min_eq_left (by omega), Nat.sub_self, List.getElem?_drop]
 exact h
theorem midR_set {rs : List RRec} {ks : List Int} {i : Nat} {r : RRec} (h : rs[i]? = some r) : (midR rs ks i).set i ⟨r.n, crashM r.f (keptM r.f (ks[i]?.getD 0)), .slice none 0 0⟩ = midR rs ks (i + 1) := by
 have hi := (List.getElem?_eq_some_iff.1 h).1
 have hl := crR_length rs ks
 have hlt : ((crR rs ks).take i).length = i := by rw [List.length_take]; omega
 have hd : rs.drop i = r :: rs.drop (i + 1) := by
  obtain ⟨hj, rfl⟩ := List.getElem?_eq_some_iff.1 h
  exact List.drop_eq_getElem_cons hj
 unfold midR
 rw [List.set_append_right _ _ (by omega), hlt, Nat.sub_self, hd, List.set_cons_zero, take_next' (crR_at _ ks _ _ h), List.append_assoc]
 rfl
theorem midR_all (rs : List RRec) (ks : List Int) : midR rs ks rs.length = crR rs ks := by
 unfold midR
 rw [List.drop_length, List.append_nil, List.take_of_length_le (by rw [crR_length]; omega)]
theorem midR_length {rs : List RRec} {ks : List Int} {i : Nat} (hi : i ≤ rs.length) : (midR rs ks i).length = rs.length := by
 unfold midR
 rw [List.length_append, List.length_take, crR_length, List.length_drop]
 omega
theorem Reads.rec_' {α : Type} {f : α → List Value} {k : Nat} {w : World} {g o c n : Nat} {l : List α} (h : Reads w k (.slice (some ⟨g, o, none⟩) n c) n (l.flatMap f)) (hk : ∀ a ∈ l, (f a).length = k) (hn : l.length = n) {j : Nat} {x : α} (hx : l[j]? = some x) : w.rangeAt g (o + j * k) (f x) := by
 subst hn
 exact h.rec_ hk hx
def PutsAt (w : World) (rs : List RRec) : Prop := ∀ r ∈ rs, Row w 132 2 r.v r.f.pend.length (r.f.pend.flatMap putCells)
theorem PutsAt.bel {w w' : World} {rs : List RRec} (h : PutsAt w rs) (hb : Below w.heap.size w w') : PutsAt w' rs := fun r hr => (h r hr).bel hb
theorem PutsAt.chg {w w' : World} {rs : List RRec} {T : Nat → Prop} (h : PutsAt w rs) (hC : Chg T w w') (hn : ∀ r ∈ rs, ∀ k, r.v.ownBlock = some k → ¬ T k) : PutsAt w' rs := fun r hr => (h r hr).chg hC (hn r hr)
section
variable (g : Nat) (D : DiskD) (S : Nat → Prop) (w : World) (h : RDisk w g D S)
include h
set_option maxRecDepth 10000 in
theorem RCrash_any (v : Value) (ks : List Int) (hok : DOk D) (hbud : DBud D) (hK : Reads w 1 v ks.length (ks.map fun k => .int .i64 k)) (hKS : 0 < ks.length → ∀ k, v.ownBlock = some k → ¬ S k) :
  Calls Tryz.prog 37 #[.pointer (some ⟨g, 0, none⟩), v] w fun e w' => e = .returned (.tuple #[]) ∧ RDisk w' g (crashD D ks) (Ext S w w') ∧ Chg S w w' := by
 obtain ⟨vF, rs, h, hh⟩ := h
 have hSg := hh.g
 have hB := h.blk
 have hR := h.row
 have hV : PutsAt w rs := h.rows
 have hlt := hB.lt
 obtain ⟨ak, ck, rfl, hck, hck2⟩ := hK.shape
 obtain ⟨a, c, rfl, hc1, hc2⟩ := h.row.shape
 have hnn := h.row.nle
 have hkn := hK.nle
 refine W_enter (args := [.pointer (some ⟨g, 0, none⟩), .slice ak ks.length ck]) 136 Tryz.func37 rfl rfl rfl (W_sub [(0, .pointer (some ⟨g, 0, none⟩)), (1, .slice ak ks.length ck)] ?_ ⟨rfl, rfl, trivial⟩)
 have hcw := Chg.refl (S) w
 refine W_rs (sm rfl rfl (st (X.nilChk rfl) rfl (st (X.fa fa83_3 rfl) rfl (ssB rfl rfl hB siz4 rfl (by simp) (fun w1 hB1 hC1 => ?_)))))
 have hR1 := hR.chg hC1 (hR.ne2 hB (by decide))
 have hV1 := hV.chg hC1 (fun r hr => (hV r hr).ne2 hB (by decide))
 have hK1 := hK.chgS hC1 (fun h0 k hk e => hKS h0 k hk (by rw [e]; exact hSg))
 have hcw1 := hcw.next hC1 (fun k hk => .inl (by rw [show k = g from hk]; exact hSg))
 clear hB hR hV hK hcw
 have hB := hB1
 have hR := hR1
 have hV := hV1
 have hK := hK1
 have hcw := hcw1
 clear hB1 hR1 hV1 hK1 hcw1 hC1
 refine Wn (tN (W_rs (sa rfl rfl (Wn (tN (W_block (W_lp (fun nw2_ lw2_ w2 => ∃ i : Nat, nw2_ = rs.length - i ∧ lw2_ = ([(0, .pointer (some ⟨g, 0, none⟩)), (1, .slice ak ks.length ck), (4, .int .i64 i)] : Env) ∧ (i ≤ rs.length) ∧ (Chg S w w2) ∧ (Blk w2 g 83 #[.slice a rs.length c, .int .i64 D.limit, .int .i64 D.refused, .bool false, .int .i64 D.left]) ∧ (Row w2 92 3 (.slice a rs.length c) rs.length ((midR rs ks i).flatMap RRec.cells)) ∧ (PutsAt w2 rs) ∧ (Reads w2 1 (.slice ak ks.length ck) ks.length (ks.map fun k => .int .i64 k))) _ ⟨_, ⟨0, rfl, rfl, Nat.zero_le _, hcw, hB, hR, hV, hK⟩, ⟨rfl, rfl, rfl, trivial⟩⟩ ?_)))))))
 clear hcw hB hR hV hK
 rintro nw2_ lw2_ w2 ⟨i, rfl, rfl, hi, hcw, hB, hR, hV, hK⟩
 have hlt_hB_w2 := hB.lt
 have hzc := hcw.size
 refine W_seq (W_rs (sm rfl rfl (sm rfl rfl (st (X.nilChk rfl) rfl (st (X.fa fa83_0 rfl) rfl (st (X.ldL rfl hB Tryz.underlying81 rfl rfl) rfl (st (X.lenL rfl rfl Tryz.underlying81) rfl (st (X.lss rfl rfl) rfl (Wn (tN ?_))))))))))
 refine W_if rfl (fun h20 => ?_) (fun h20 => ?_)
 ·first | replace h20 := of_decide_eq_true h20 | replace h20 := of_decide_eq_false (notT h20) | replace h20 := notT h20 | skip
  obtain ⟨⟨n, f, v⟩, hx⟩ : ∃ x, rs[i]? = some x := ⟨_, List.getElem?_eq_getElem (by omega)⟩
  have hmem := List.mem_of_getElem? hx
  obtain ⟨av, cv, hve, _, _⟩ := (hV _ hmem).shape
  simp only at hve
  subst hve
  obtain ⟨hfk, hg⟩ := h.fok hok hmem
  simp only at hfk hg
  have hpl := (hbud.pend _ _ hg).1
  have hln := (hok.len hg).1
  have hpn := (hV _ hmem).nle
  simp only at hpn
  obtain ⟨gF, oF, c', hv, hgF⟩ := hR.reads.some_ (by omega)
  injection hv with e1 _ e3
  subst e1 e3
  have hneF : gF ≠ g := fun e => h.row.ne2 h.blk (by decide) gF rfl e
  have hSF : S gF := hh.vF gF rfl
  have hml := midR_length (ks := ks) hi
  have hxm := midR_at (ks := ks) hx
  obtain ⟨pk, hpk⟩ : ∃ pk, ks[i]?.getD 0 = pk := ⟨_, rfl⟩
  obtain ⟨kp, hkp⟩ : ∃ kp, keptM f pk = kp := ⟨_, rfl⟩
  have hkpl := keptM_le (f := f) pk hpl
  rw [hkp] at hkpl
  refine W_skip (tN (W_seq (W_block (W_rs (sa rfl rfl (Wn (tN (W_seq (W_rs (sa rfl rfl ?_))))))))))
  refine Wn (tN (W_block (W_lp (fun nw3_ lw3_ w3 => ∃ j : Nat, nw3_ = f.pend.length - j ∧ lw3_ = ([(0, .pointer (some ⟨g, 0, none⟩)), (1, .slice ak ks.length ck), (4, .int .i64 i), (5, .int .i64 (pendLen (f.pend.take j))), (6, .int .i64 j)] : Env) ∧ (j ≤ f.pend.length) ∧ (Chg S w w3) ∧ (Blk w3 g 83 #[.slice (some ⟨gF, oF, none⟩) rs.length c, .int .i64 D.limit, .int .i64 D.refused, .bool false, .int .i64 D.left]) ∧ (Row w3 92 3 (.slice (some ⟨gF, oF, none⟩) rs.length c) rs.length ((midR rs ks i).flatMap RRec.cells)) ∧ (PutsAt w3 rs) ∧ (Reads w3 1 (.slice ak ks.length ck) ks.length (ks.map fun k => .int .i64 k))) _ ⟨_, ⟨0, rfl, rfl, by omega, hcw, hB, hR, hV, hK⟩, ⟨rfl, rfl, rfl, rfl, rfl, trivial⟩⟩ ?_)))
  clear hcw hB hR hV hK
  rintro nw3_ lw3_ w3 ⟨j, rfl, rfl, hj, hcw, hB, hR, hV, hK⟩
  have hlt_hB_w3 := hB.lt
  have hpt := pendLen_take_le f.pend j
  have hzc2 := hcw.size
  refine W_seq (W_rs (sm rfl rfl (sm rfl rfl (st (X.nilChk rfl) rfl (st (X.fa fa83_0 rfl) rfl (st (X.ldL rfl hB Tryz.underlying81 rfl rfl) rfl (sm rfl rfl (st (X.idxA rfl rfl Tryz.underlying81 siz92 rfl (by omega)) rfl (st (X.fa fa92_2 rfl) rfl (st (X.ld rfl Tryz.underlying90 rfl (hR.reads.rec_' (f := RRec.cells) (rrec_len _) hml hxm 2 _ rfl)) rfl ?_))))))))))
  refine st (X.lenL rfl rfl Tryz.underlying90) rfl (st (X.lss rfl rfl) rfl (Wn (tN (W_if rfl (fun h33 => ?_) (fun h33 => ?_)))))
  ·first | replace h33 := of_decide_eq_true h33 | replace h33 := of_decide_eq_false (notT h33) | replace h33 := notT h33 | skip
   obtain ⟨p, hp⟩ : ∃ p, f.pend[j]? = some p := ⟨_, List.getElem?_eq_getElem (by omega)⟩
   have hrow := (hV _ hmem).reads
   simp only at hrow
   obtain ⟨gp, op, c', hv, hgp⟩ := hrow.some_ (by omega)
   injection hv with e1 _ e3
   subst e1 e3
   have hpm := pend_mem_le (List.mem_of_getElem? hp)
   have hcell := hrow.rec_ (f := putCells) (fun a _ => putCells_length a) hp
   refine W_skip (tN (W_seq (W_block (W_reg (sm rfl rfl (sm rfl rfl (st (X.nilChk rfl) rfl (st (X.fa fa83_0 rfl) rfl (st (X.ldL rfl hB Tryz.underlying81 rfl rfl) rfl (sm rfl rfl ?_))))))))))
   refine st (X.idxA rfl rfl Tryz.underlying81 siz92 rfl (by omega)) rfl (st (X.fa fa92_2 rfl) rfl (st (X.ld rfl Tryz.underlying90 rfl (hR.reads.rec_' (f := RRec.cells) (rrec_len _) hml hxm 2 _ rfl)) rfl (sm rfl rfl (st (X.idxA rfl rfl Tryz.underlying90 siz132 rfl (by omega)) rfl (st (X.fa fa132_1 rfl) rfl (st (X.ld rfl Tryz.underlying9 rfl (hcell 1 _ rfl)) rfl (st (X.lenS rfl rfl Tryz.underlying9) rfl (st (X.add64 rfl rfl (by omega)) rfl (sa rfl rfl (Wn ?_))))))))))
   refine bN (tN (W_reg (sm rfl rfl (st (X.add64 rfl rfl (by omega)) rfl (sa rfl rfl (Wn (tN ⟨_, _, ?_, ⟨j + 1, rfl, rfl, by omega, hcw, hB, hR, hV, hK⟩, ⟨rfl, rfl, rfl, by rw [pendLen_next hp, Int.natCast_add]; rfl, rfl, trivial⟩⟩)))))))
   omega
  ·first | replace h33 := of_decide_eq_false h33 | replace h33 := of_decide_eq_true (notF h33) | replace h33 := notF h33 | skip
   obtain rfl : j = f.pend.length := by omega
   rw [List.take_length]
   refine W_exit (tE (tE (bH (tN (W_rs (sa rfl rfl (Wn (tN (W_seq (W_rs (sm rfl rfl (sm rfl rfl (st (X.lenL rfl rfl Tryz.underlying34) rfl ?_)))))))))))))
   refine st (X.lss rfl rfl) rfl (Wn (tN (W_if rfl (fun h54 => ?_) (fun h54 => ?_))))
   ·first | replace h54 := of_decide_eq_true h54 | replace h54 := of_decide_eq_false (notT h54) | replace h54 := notT h54 | skip
    obtain ⟨gk, ok_, ck', hvk, hgk⟩ := hK.some_ (by omega)
    injection hvk with hak _ _
    have hKs : Reads w3 1 (.slice (some ⟨gk, ok_, none⟩) ks.length ck) ks.length (ks.map fun k => .int .i64 k) := by rw [← hak]; exact hK
    have hkx : ks[i]? = some pk := by
     rw [← hpk, List.getElem?_eq_getElem (by omega)]
     rfl
    have hkx2 : (ks.map fun k => Value.int .i64 k)[i]? = some (.int .i64 pk) := by rw [List.getElem?_map, hkx]; rfl
    have ht1 := Int.tmod_lt_of_pos pk (b := (pendLen f.pend : Int) + 1) (by omega)
    have ht2 := Int.lt_tmod_of_pos pk (b := (pendLen f.pend : Int) + 1) (by omega)
    obtain ⟨q, hq⟩ : ∃ q, pk.tmod ((pendLen f.pend : Int) + 1) = q := ⟨_, rfl⟩
    rw [hq] at ht1 ht2
    have hqk : (q + (pendLen f.pend : Int) + 1) % ((pendLen f.pend : Int) + 1) = (kp : Int) := by
     rw [Int.add_assoc, mod_twiceR _ _ _ hq, ← hkp]
     unfold keptM
     rw [Int.toNat_of_nonneg (Int.emod_nonneg _ (by omega))]
     rfl
    refine W_reg (sm rfl rfl (sm rfl rfl (st (X.idxA (j := i) (by rw [← hak]; rfl) rfl Tryz.underlying34 siz3 rfl (by omega)) rfl ?_)))
    refine st (X.ld rfl Tryz.underlying3 rfl (by rw [Nat.mul_one]; exact hKs.cellAt (by omega) hkx2)) rfl ?_
    refine sm rfl rfl (st (X.add64 rfl rfl (by omega)) rfl (st (X.rem rfl rfl (by omega) hq) rfl (sm rfl rfl (st (X.add64 rfl rfl (by omega)) rfl (st (X.add64 rfl rfl (by omega)) rfl (sm rfl rfl (st (X.add64 rfl rfl (by omega)) rfl (st (X.rem64 rfl rfl (by omega) (by omega)) rfl ?_))))))))
    rw [hqk]
    refine sa rfl rfl (Wn (tN (W_rs (sm rfl rfl (st (X.nilChk rfl) rfl (st (X.fa fa83_0 rfl) rfl (st (X.ldL rfl hB Tryz.underlying81 rfl rfl) rfl (sm rfl rfl (st (X.idxA rfl rfl Tryz.underlying81 siz92 rfl (by omega)) rfl (st (X.fa fa92_1 rfl) rfl ?_))))))))))
    refine st (X.ld rfl Tryz.underlying9 rfl (hR.reads.rec_' (f := RRec.cells) (rrec_len _) hml hxm 1 _ rfl)) rfl (sa rfl rfl (Wn (tN (W_seq (W_rs (sa rfl rfl (Wn (tN (W_block ?_)))))))))
    obtain ⟨wB, hwB⟩ : ∃ W_ : World, W_ = w3 := ⟨_, rfl⟩
    have hbB : Below wB.heap.size wB w3 := by rw [hwB]; exact Below.refl _ _
    have hwBz : w.heap.size ≤ wB.heap.size := by rw [hwB]; exact hcw.size
    have hgB : g < wB.heap.size := by rw [hwB]; exact hB.lt
    rw [← hwB] at hB hR hV hK
    clear hwB
    refine W_lp (fun nw4_ lw4_ w4 => ∃ m : Nat, nw4_ = f.pend.length - m ∧ lw4_ = ([(0, .pointer (some ⟨g, 0, none⟩)), (1, .slice ak ks.length ck), (4, .int .i64 i), (7, .int .i64 ((kp - pendLen (f.pend.take m) : Nat) : Int)), (8, str (crashBytes f.last (f.pend.take m) kp)), (9, .int .i64 m)] : Env) ∧ (m ≤ f.pend.length) ∧ (Chg S w w4) ∧ (Below wB.heap.size wB w4)) _ ⟨_, ⟨0, rfl, rfl, by omega, hcw, hbB⟩, ⟨rfl, rfl, rfl, by first | rfl | (rw [hkp0]; rfl), rfl, rfl, trivial⟩⟩ ?_
    clear hcw hbB
    rintro nw4_ lw4_ w4 ⟨m, rfl, rfl, hm, hcw, hbB⟩
    have hz_hbB_w4 := hbB.size
    have hzc3 := hcw.size
    have hcl := crash_take_le (s := f.last) kp m hfk.puts
    rw [← hfk.now] at hcl
    refine W_seq (W_rs (sm rfl rfl (sm rfl rfl (st (X.nilChk rfl) rfl (st (X.fa fa83_0 rfl) rfl (st (X.ldL rfl (hB.bel hbB) Tryz.underlying81 rfl rfl) rfl (sm rfl rfl (st (X.idxA rfl rfl Tryz.underlying81 siz92 rfl (by omega)) rfl (st (X.fa fa92_2 rfl) rfl (st (X.ld rfl Tryz.underlying90 rfl ((hR.bel hbB).reads.rec_' (f := RRec.cells) (rrec_len _) hml hxm 2 _ rfl)) rfl ?_))))))))))
    refine st (X.lenL rfl rfl Tryz.underlying90) rfl (st (X.lss rfl rfl) rfl (Wn (tN (W_if rfl (fun h86 => ?_) (fun h86 => ?_)))))
    ·first | replace h86 := of_decide_eq_true h86 | replace h86 := of_decide_eq_false (notT h86) | replace h86 := notT h86 | skip
     obtain ⟨p, hp⟩ : ∃ p, f.pend[m]? = some p := ⟨_, List.getElem?_eq_getElem (by omega)⟩
     have hrow := ((hV _ hmem).bel hbB).reads
     simp only at hrow
     obtain ⟨gp, op, c', hv, hgp⟩ := hrow.some_ (by omega)
     injection hv with e1 _ e3
     subst e1 e3
     have hpm := pend_mem_le (List.mem_of_getElem? hp)
     have hcell := hrow.rec_ (f := putCells) (fun a _ => putCells_length a) hp
     have hkn2 : ((kp - pendLen (f.pend.take (m + 1)) : Nat) : Int) = ((kp - pendLen (f.pend.take m) : Nat) : Int) - ((p.2.take (kp - pendLen (f.pend.take m))).length : Int) := by rw [pendLen_next hp, List.length_take]; omega
     have hltp : (p.2.take (kp - pendLen (f.pend.take m))).length ≤ p.2.length := by rw [List.length_take]; omega
     have hltk : (p.2.take (kp - pendLen (f.pend.take m))).length ≤ kp - pendLen (f.pend.take m) := by rw [List.length_take]; omega
     refine W_skip (tN (W_seq (W_block (W_rs (sm rfl rfl (st (X.nilChk rfl) rfl (st (X.fa fa83_0 rfl) rfl (st (X.ldL rfl (hB.bel hbB) Tryz.underlying81 rfl rfl) rfl (sm rfl rfl (st (X.idxA rfl rfl Tryz.underlying81 siz92 rfl (by omega)) rfl ?_))))))))))
     refine st (X.fa fa92_2 rfl) rfl (st (X.ld rfl Tryz.underlying90 rfl ((hR.bel hbB).reads.rec_' (f := RRec.cells) (rrec_len _) hml hxm 2 _ rfl)) rfl (sm rfl rfl (st (X.idxA rfl rfl Tryz.underlying90 siz132 rfl (by omega)) rfl (st (X.ldN (cs := putCells p) rfl Tryz.underlying132 rfl siz132 hcell) rfl (salA inf132 rfl (fun g10 w5 hB10 hg10 hb hl10 => ?_))))))
     replace hcw := hcw.then_below hb
     replace hbB := bthen hbB hb
     have hz_w5 := hb.size
     clear hb
     refine ssBN rfl rfl hB10 siz132 rfl rfl (fun w6 hB_ hc_ => ?_)
     replace hB10 := hB_
     clear hB_
     replace hcw := hcw.next hc_ (fun i_ hi_ => by first | exact .inl hi_ | exact .inl (.inl hi_) | (right; subst hi_; omega) | (left; subst hi_; show _ ≤ _; omega) | (left; subst hi_; assumption))
     replace hbB := bset hbB hc_ (by omega)
     have hz_w6 := hc_.size
     clear hc_
     have hB10' : Blk w6 g10 132 #[.int .i64 p.1, str p.2] := hB10
     clear hB10
     have hB10 := hB10'
     clear hB10'
     refine Wn (tN (W_seq (W_rs (st (X.fa fa132_1 rfl) rfl (st (X.ldL rfl hB10 Tryz.underlying9 rfl rfl) rfl (st (X.lenS rfl rfl Tryz.underlying9) rfl (sm rfl rfl (st (X.gtr rfl rfl) rfl (Wn (tN ?_))))))))))
     refine W_if rfl (fun h104 => ?_) (fun h104 => ?_)
     ·first | replace h104 := of_decide_eq_true h104 | replace h104 := of_decide_eq_false (notT h104) | replace h104 := notT h104 | skip
      refine W_reg (st (X.fa fa132_1 rfl) rfl (st (X.ldL rfl hB10 Tryz.underlying9 rfl rfl) rfl (sm rfl rfl (st (X.toS rfl rfl Tryz.underlying9 rfl (by omega)) rfl (st (X.fa fa132_1 rfl) rfl (ssB rfl rfl hB10 siz9 rfl (by first | decide | simp) (fun w7 hB_ hc_ => ?_)))))))
      replace hB10 := hB_
      clear hB_
      replace hcw := hcw.next hc_ (fun i_ hi_ => by first | exact .inl hi_ | exact .inl (.inl hi_) | (right; subst hi_; omega) | (left; subst hi_; show _ ≤ _; omega) | (left; subst hi_; assumption))
      replace hbB := bset hbB hc_ (by omega)
      have hz_w7 := hc_.size
      clear hc_
      refine Wn (tN (W_rs (sm rfl rfl (st (X.fa fa132_1 rfl) rfl (st (X.ldL rfl hB10 Tryz.underlying9 rfl rfl) rfl (st (X.lenS rfl rfl Tryz.underlying9) rfl (st (X.sub64 rfl rfl (by omega)) rfl (sa rfl rfl (Wn (tN ?_))))))))))
      refine W_rs (st (X.fa fa132_1 rfl) rfl (st (X.ldL rfl hB10 Tryz.underlying9 rfl rfl) rfl (st (X.neS rfl rfl) rfl (Wn (tN (W_if rfl (fun h117 => ?_) (fun h117 => ?_)))))))
      ·first | replace h117 := of_decide_eq_true h117 | replace h117 := of_decide_eq_false (notT h117) | replace h117 := notT h117 | skip
       refine W_reg (sm rfl rfl (st (X.ldBN rfl hB10 Tryz.underlying132 rfl siz132) rfl ?_))
       have hpp : 0 < kp - pendLen (f.pend.take m) := by
        rcases Nat.eq_zero_or_pos (kp - pendLen (f.pend.take m)) with e | e
        ·rw [e, List.take_zero] at h117
         exact absurd rfl h117
        ·exact e
       have hov := fun W_ : World => overR_any (crashBytes f.last (f.pend.take m) kp) (p.1, p.2.take (kp - pendLen (f.pend.take m))) W_ (crash_pos (p := p) hfk.puts hp hpp) (by omega) (by simp only; omega)
       simp only at hov
       obtain ⟨so, hso⟩ : ∃ s, overM (crashBytes f.last (f.pend.take m) kp) p.1 (p.2.take (kp - pendLen (f.pend.take m))) = s := ⟨_, rfl⟩
       rw [hso] at hov
       refine sc _ Tryz.func84 rfl (by kernel_rfl) rfl rfl ((hov _).mono ?_)
       rintro e_ w8 ⟨rfl, hb⟩
       refine cR ?_
       replace hcw := hcw.then_below hb
       replace hbB := bthen hbB hb
       replace hB10 := hB10.bel hb
       have hz_w8 := hb.size
       clear hb
       refine sa rfl rfl (Wn (bN (tN (W_reg (sm rfl rfl (st (X.add64 rfl rfl (by omega)) rfl (sa rfl rfl (Wn (tN ⟨_, _, ?_, ⟨m + 1, rfl, rfl, by omega, hcw, hbB⟩, ⟨rfl, rfl, rfl, by rw [hkn2]; rfl, by first | (rw [crash_next hfk.puts hp, hso] <;> rfl) | (rw [crash_next hfk.puts hp, h117, overM_nil] <;> rfl), rfl, trivial⟩⟩)))))))))
       omega
      ·first | replace h117 := of_decide_eq_false h117 | replace h117 := of_decide_eq_true (notF h117) | replace h117 := notF h117 | skip
       replace h117 := Classical.not_not.1 h117
       refine W_skip (bN (tN (W_reg (sm rfl rfl (st (X.add64 rfl rfl (by omega)) rfl (sa rfl rfl (Wn (tN ⟨_, _, ?_, ⟨m + 1, rfl, rfl, by omega, hcw, hbB⟩, ⟨rfl, rfl, rfl, by rw [hkn2]; rfl, by first | (rw [crash_next hfk.puts hp, hso] <;> rfl) | (rw [crash_next hfk.puts hp, h117, overM_nil] <;> rfl), rfl, trivial⟩⟩))))))))
       omega
     ·first | replace h104 := of_decide_eq_false h104 | replace h104 := of_decide_eq_true (notF h104) | replace h104 := notF h104 | skip
      have htk : p.2.take (kp - pendLen (f.pend.take m)) = p.2 := List.take_of_length_le (by omega)
      rw [← htk] at hB10
      refine W_skip (tN (W_rs (sm rfl rfl (st (X.fa fa132_1 rfl) rfl (st (X.ldL rfl hB10 Tryz.underlying9 rfl rfl) rfl (st (X.lenS rfl rfl Tryz.underlying9) rfl (st (X.sub64 rfl rfl (by omega)) rfl (sa rfl rfl (Wn (tN ?_))))))))))
      refine W_rs (st (X.fa fa132_1 rfl) rfl (st (X.ldL rfl hB10 Tryz.underlying9 rfl rfl) rfl (st (X.neS rfl rfl) rfl (Wn (tN (W_if rfl (fun h117 => ?_) (fun h117 => ?_)))))))
      ·first | replace h117 := of_decide_eq_true h117 | replace h117 := of_decide_eq_false (notT h117) | replace h117 := notT h117 | skip
       refine W_reg (sm rfl rfl (st (X.ldBN rfl hB10 Tryz.underlying132 rfl siz132) rfl ?_))
       have hpp : 0 < kp - pendLen (f.pend.take m) := by
        rcases Nat.eq_zero_or_pos (kp - pendLen (f.pend.take m)) with e | e
        ·rw [e, List.take_zero] at h117
         exact absurd rfl h117
        ·exact e
       have hov := fun W_ : World => overR_any (crashBytes f.last (f.pend.take m) kp) (p.1, p.2.take (kp - pendLen (f.pend.take m))) W_ (crash_pos (p := p) hfk.puts hp hpp) (by omega) (by simp only; omega)
       simp only at hov
       obtain ⟨so, hso⟩ : ∃ s, overM (crashBytes f.last (f.pend.take m) kp) p.1 (p.2.take (kp - pendLen (f.pend.take m))) = s := ⟨_, rfl⟩
       rw [hso] at hov
       refine sc _ Tryz.func84 rfl (by kernel_rfl) rfl rfl ((hov _).mono ?_)
       rintro e_ w9 ⟨rfl, hb⟩
       refine cR ?_
       replace hcw := hcw.then_below hb
       replace hbB := bthen hbB hb
       replace hB10 := hB10.bel hb
       have hz_w9 := hb.size
       clear hb
       refine sa rfl rfl (Wn (bN (tN (W_reg (sm rfl rfl (st (X.add64 rfl rfl (by omega)) rfl (sa rfl rfl (Wn (tN ⟨_, _, ?_, ⟨m + 1, rfl, rfl, by omega, hcw, hbB⟩, ⟨rfl, rfl, rfl, by rw [hkn2]; rfl, by first | (rw [crash_next hfk.puts hp, hso] <;> rfl) | (rw [crash_next hfk.puts hp, h117, overM_nil] <;> rfl), rfl, trivial⟩⟩)))))))))
       omega
      ·first | replace h117 := of_decide_eq_false h117 | replace h117 := of_decide_eq_true (notF h117) | replace h117 := notF h117 | skip
       replace h117 := Classical.not_not.1 h117
       refine W_skip (bN (tN (W_reg (sm rfl rfl (st (X.add64 rfl rfl (by omega)) rfl (sa rfl rfl (Wn (tN ⟨_, _, ?_, ⟨m + 1, rfl, rfl, by omega, hcw, hbB⟩, ⟨rfl, rfl, rfl, by rw [hkn2]; rfl, by first | (rw [crash_next hfk.puts hp, hso] <;> rfl) | (rw [crash_next hfk.puts hp, h117, overM_nil] <;> rfl), rfl, trivial⟩⟩))))))))
       omega
    ·first | replace h86 := of_decide_eq_false h86 | replace h86 := of_decide_eq_true (notF h86) | replace h86 := notF h86 | skip
     obtain rfl : m = f.pend.length := by omega
     rw [List.take_length]
     replace hB := hB.bel hbB
     replace hR := hR.bel hbB
     replace hV := hV.bel hbB
     replace hK := hK.belowAll hbB
     refine W_exit (tE (tE (bH (tN (W_rs (sm rfl rfl (st (X.nilChk rfl) rfl (st (X.fa fa83_0 rfl) rfl (st (X.ldL rfl hB Tryz.underlying81 rfl rfl) rfl (sm rfl rfl (sm rfl rfl (st (X.idxA rfl rfl Tryz.underlying81 siz92 rfl (by omega)) rfl (st (X.fa fa92_1 rfl) rfl ?_)))))))))))))
     refine ssRN (o := oF) (j := i * 3 + 1) rfl (by omega) rfl hR (by omega) (by omega) siz9 rfl (fun w10 hR3 hC3 => ?_)
     have hB3 := hB.chg hC3 (fun e => hneF e.symm)
     have hV3 := hV.chg hC3 (fun q hq => (hV q hq).ne2x hR)
     have hK3 := hK.chgS hC3 (fun h0 k hk e => hKS h0 k hk (by rw [show k = gF from e]; exact hSF))
     replace hcw := hcw.next hC3 (fun k hk => .inl (by rw [show k = gF from hk]; exact hSF))
     clear hB hR hV hK hC3
     have hB := hB3
     have hV := hV3
     have hK := hK3
     clear hB3 hV3 hK3
     refine Wn (tN (W_reg (sm rfl rfl (st (X.nilChk rfl) rfl (st (X.fa fa83_0 rfl) rfl (st (X.ldL rfl hB Tryz.underlying81 rfl rfl) rfl (sm rfl rfl (st (X.idxA rfl rfl Tryz.underlying81 siz92 rfl (by omega)) rfl (st (X.fa fa92_2 rfl) rfl (ssRN (o := oF) (j := i * 3 + 2) rfl (by omega) rfl hR3 (by omega) (by omega) siz90 rfl (fun w11 hR4 hC3 => ?_)))))))))))
     have hB3 := hB.chg hC3 (fun e => hneF e.symm)
     have hV3 := hV.chg hC3 (fun q hq => (hV q hq).ne2x hR3)
     have hK3 := hK.chgS hC3 (fun h0 k hk e => hKS h0 k hk (by rw [show k = gF from e]; exact hSF))
     replace hcw := hcw.next hC3 (fun k hk => .inl (by rw [show k = gF from hk]; exact hSF))
     clear hB hV hK hC3
     have hB := hB3
     have hV := hV3
     have hK := hK3
     clear hB3 hV3 hK3
     rw [flat_set3 ⟨n, ⟨crashBytes f.last f.pend kp, f.now, f.pend⟩, .slice av f.pend.length cv⟩ 1 _ hxm (by omega) rfl, flat_set3 (r := ⟨n, ⟨crashBytes f.last f.pend kp, f.now, f.pend⟩, .slice av f.pend.length cv⟩) ⟨n, crashM f kp, .slice none 0 0⟩ 2 _ (by rw [List.getElem?_set_self (by omega)]) (by omega) rfl, List.set_set] at hR4
     have hR' := hR4
     rw [← hkp, ← hpk, midR_set hx] at hR'
     clear hR4 hR3
     refine Wn (bN (tN (W_reg (sm rfl rfl (st (X.add64 rfl rfl (by omega)) rfl (sa rfl rfl (Wn (tN ⟨_, _, ?_, ⟨i + 1, rfl, rfl, by omega, hcw, hB, hR', hV, hK⟩, ⟨rfl, rfl, rfl, trivial⟩⟩))))))))
     omega
   ·first | replace h54 := of_decide_eq_false h54 | replace h54 := of_decide_eq_true (notF h54) | replace h54 := notF h54 | skip
    obtain rfl : pk = 0 := by rw [← hpk, List.getElem?_eq_none (by omega)]; rfl
    have hk0 : keptM f 0 = 0 := by unfold keptM; rw [Int.zero_emod]; rfl
    have hkp0 : kp = 0 := by rw [← hkp, hk0]
    refine W_skip (tN (W_rs (sm rfl rfl (st (X.nilChk rfl) rfl (st (X.fa fa83_0 rfl) rfl (st (X.ldL rfl hB Tryz.underlying81 rfl rfl) rfl (sm rfl rfl (st (X.idxA rfl rfl Tryz.underlying81 siz92 rfl (by omega)) rfl (st (X.fa fa92_1 rfl) rfl (st (X.ld rfl Tryz.underlying9 rfl (hR.reads.rec_' (f := RRec.cells) (rrec_len _) hml hxm 1 _ rfl)) rfl ?_))))))))))
    refine sa rfl rfl (Wn (tN (W_seq (W_rs (sa rfl rfl (Wn (tN (W_block ?_))))))))
    obtain ⟨wB, hwB⟩ : ∃ W_ : World, W_ = w3 := ⟨_, rfl⟩
    have hbB : Below wB.heap.size wB w3 := by rw [hwB]; exact Below.refl _ _
    have hwBz : w.heap.size ≤ wB.heap.size := by rw [hwB]; exact hcw.size
    have hgB : g < wB.heap.size := by rw [hwB]; exact hB.lt
    rw [← hwB] at hB hR hV hK
    clear hwB
    refine W_lp (fun nw12_ lw12_ w12 => ∃ m : Nat, nw12_ = f.pend.length - m ∧ lw12_ = ([(0, .pointer (some ⟨g, 0, none⟩)), (1, .slice ak ks.length ck), (4, .int .i64 i), (7, .int .i64 ((kp - pendLen (f.pend.take m) : Nat) : Int)), (8, str (crashBytes f.last (f.pend.take m) kp)), (9, .int .i64 m)] : Env) ∧ (m ≤ f.pend.length) ∧ (Chg S w w12) ∧ (Below wB.heap.size wB w12)) _ ⟨_, ⟨0, rfl, rfl, by omega, hcw, hbB⟩, ⟨rfl, rfl, rfl, by first | rfl | (rw [hkp0]; rfl), rfl, rfl, trivial⟩⟩ ?_
    clear hcw hbB
    rintro nw12_ lw12_ w12 ⟨m, rfl, rfl, hm, hcw, hbB⟩
    have hz_hbB_w12 := hbB.size
    have hzc3 := hcw.size
    have hcl := crash_take_le (s := f.last) kp m hfk.puts
    rw [← hfk.now] at hcl
    refine W_seq (W_rs (sm rfl rfl (sm rfl rfl (st (X.nilChk rfl) rfl (st (X.fa fa83_0 rfl) rfl (st (X.ldL rfl (hB.bel hbB) Tryz.underlying81 rfl rfl) rfl (sm rfl rfl (st (X.idxA rfl rfl Tryz.underlying81 siz92 rfl (by omega)) rfl (st (X.fa fa92_2 rfl) rfl (st (X.ld rfl Tryz.underlying90 rfl ((hR.bel hbB).reads.rec_' (f := RRec.cells) (rrec_len _) hml hxm 2 _ rfl)) rfl ?_))))))))))
    refine st (X.lenL rfl rfl Tryz.underlying90) rfl (st (X.lss rfl rfl) rfl (Wn (tN (W_if rfl (fun h86 => ?_) (fun h86 => ?_)))))
    ·first | replace h86 := of_decide_eq_true h86 | replace h86 := of_decide_eq_false (notT h86) | replace h86 := notT h86 | skip
     obtain ⟨p, hp⟩ : ∃ p, f.pend[m]? = some p := ⟨_, List.getElem?_eq_getElem (by omega)⟩
     have hrow := ((hV _ hmem).bel hbB).reads
     simp only at hrow
     obtain ⟨gp, op, c', hv, hgp⟩ := hrow.some_ (by omega)
     injection hv with e1 _ e3
     subst e1 e3
     have hpm := pend_mem_le (List.mem_of_getElem? hp)
     have hcell := hrow.rec_ (f := putCells) (fun a _ => putCells_length a) hp
     have hkn2 : ((kp - pendLen (f.pend.take (m + 1)) : Nat) : Int) = ((kp - pendLen (f.pend.take m) : Nat) : Int) - ((p.2.take (kp - pendLen (f.pend.take m))).length : Int) := by rw [pendLen_next hp, List.length_take]; omega
     have hltp : (p.2.take (kp - pendLen (f.pend.take m))).length ≤ p.2.length := by rw [List.length_take]; omega
     have hltk : (p.2.take (kp - pendLen (f.pend.take m))).length ≤ kp - pendLen (f.pend.take m) := by rw [List.length_take]; omega
     refine W_skip (tN (W_seq (W_block (W_rs (sm rfl rfl (st (X.nilChk rfl) rfl (st (X.fa fa83_0 rfl) rfl (st (X.ldL rfl (hB.bel hbB) Tryz.underlying81 rfl rfl) rfl (sm rfl rfl (st (X.idxA rfl rfl Tryz.underlying81 siz92 rfl (by omega)) rfl ?_))))))))))
     refine st (X.fa fa92_2 rfl) rfl (st (X.ld rfl Tryz.underlying90 rfl ((hR.bel hbB).reads.rec_' (f := RRec.cells) (rrec_len _) hml hxm 2 _ rfl)) rfl (sm rfl rfl (st (X.idxA rfl rfl Tryz.underlying90 siz132 rfl (by omega)) rfl (st (X.ldN (cs := putCells p) rfl Tryz.underlying132 rfl siz132 hcell) rfl (salA inf132 rfl (fun g10 w13 hB10 hg10 hb hl10 => ?_))))))
     replace hcw := hcw.then_below hb
     replace hbB := bthen hbB hb
     have hz_w13 := hb.size
     clear hb
     refine ssBN rfl rfl hB10 siz132 rfl rfl (fun w14 hB_ hc_ => ?_)
     replace hB10 := hB_
     clear hB_
     replace hcw := hcw.next hc_ (fun i_ hi_ => by first | exact .inl hi_ | exact .inl (.inl hi_) | (right; subst hi_; omega) | (left; subst hi_; show _ ≤ _; omega) | (left; subst hi_; assumption))
     replace hbB := bset hbB hc_ (by omega)
     have hz_w14 := hc_.size
     clear hc_
     have hB10' : Blk w14 g10 132 #[.int .i64 p.1, str p.2] := hB10
     clear hB10
     have hB10 := hB10'
     clear hB10'
     refine Wn (tN (W_seq (W_rs (st (X.fa fa132_1 rfl) rfl (st (X.ldL rfl hB10 Tryz.underlying9 rfl rfl) rfl (st (X.lenS rfl rfl Tryz.underlying9) rfl (sm rfl rfl (st (X.gtr rfl rfl) rfl (Wn (tN ?_))))))))))
     refine W_if rfl (fun h104 => ?_) (fun h104 => ?_)
     ·first | replace h104 := of_decide_eq_true h104 | replace h104 := of_decide_eq_false (notT h104) | replace h104 := notT h104 | skip
      refine W_reg (st (X.fa fa132_1 rfl) rfl (st (X.ldL rfl hB10 Tryz.underlying9 rfl rfl) rfl (sm rfl rfl (st (X.toS rfl rfl Tryz.underlying9 rfl (by omega)) rfl (st (X.fa fa132_1 rfl) rfl (ssB rfl rfl hB10 siz9 rfl (by first | decide | simp) (fun w15 hB_ hc_ => ?_)))))))
      replace hB10 := hB_
      clear hB_
      replace hcw := hcw.next hc_ (fun i_ hi_ => by first | exact .inl hi_ | exact .inl (.inl hi_) | (right; subst hi_; omega) | (left; subst hi_; show _ ≤ _; omega) | (left; subst hi_; assumption))
      replace hbB := bset hbB hc_ (by omega)
      have hz_w15 := hc_.size
      clear hc_
      refine Wn (tN (W_rs (sm rfl rfl (st (X.fa fa132_1 rfl) rfl (st (X.ldL rfl hB10 Tryz.underlying9 rfl rfl) rfl (st (X.lenS rfl rfl Tryz.underlying9) rfl (st (X.sub64 rfl rfl (by omega)) rfl (sa rfl rfl (Wn (tN ?_))))))))))
      refine W_rs (st (X.fa fa132_1 rfl) rfl (st (X.ldL rfl hB10 Tryz.underlying9 rfl rfl) rfl (st (X.neS rfl rfl) rfl (Wn (tN (W_if rfl (fun h117 => ?_) (fun h117 => ?_)))))))
      ·first | replace h117 := of_decide_eq_true h117 | replace h117 := of_decide_eq_false (notT h117) | replace h117 := notT h117 | skip
       refine W_reg (sm rfl rfl (st (X.ldBN rfl hB10 Tryz.underlying132 rfl siz132) rfl ?_))
       have hpp : 0 < kp - pendLen (f.pend.take m) := by
        rcases Nat.eq_zero_or_pos (kp - pendLen (f.pend.take m)) with e | e
        ·rw [e, List.take_zero] at h117
         exact absurd rfl h117
        ·exact e
       have hov := fun W_ : World => overR_any (crashBytes f.last (f.pend.take m) kp) (p.1, p.2.take (kp - pendLen (f.pend.take m))) W_ (crash_pos (p := p) hfk.puts hp hpp) (by omega) (by simp only; omega)
       simp only at hov
       obtain ⟨so, hso⟩ : ∃ s, overM (crashBytes f.last (f.pend.take m) kp) p.1 (p.2.take (kp - pendLen (f.pend.take m))) = s := ⟨_, rfl⟩
       rw [hso] at hov
       refine sc _ Tryz.func84 rfl (by kernel_rfl) rfl rfl ((hov _).mono ?_)
       rintro e_ w16 ⟨rfl, hb⟩
       refine cR ?_
       replace hcw := hcw.then_below hb
       replace hbB := bthen hbB hb
       replace hB10 := hB10.bel hb
       have hz_w16 := hb.size
       clear hb
       refine sa rfl rfl (Wn (bN (tN (W_reg (sm rfl rfl (st (X.add64 rfl rfl (by omega)) rfl (sa rfl rfl (Wn (tN ⟨_, _, ?_, ⟨m + 1, rfl, rfl, by omega, hcw, hbB⟩, ⟨rfl, rfl, rfl, by rw [hkn2]; rfl, by first | (rw [crash_next hfk.puts hp, hso] <;> rfl) | (rw [crash_next hfk.puts hp, h117, overM_nil] <;> rfl), rfl, trivial⟩⟩)))))))))
       omega
      ·first | replace h117 := of_decide_eq_false h117 | replace h117 := of_decide_eq_true (notF h117) | replace h117 := notF h117 | skip
       replace h117 := Classical.not_not.1 h117
       refine W_skip (bN (tN (W_reg (sm rfl rfl (st (X.add64 rfl rfl (by omega)) rfl (sa rfl rfl (Wn (tN ⟨_, _, ?_, ⟨m + 1, rfl, rfl, by omega, hcw, hbB⟩, ⟨rfl, rfl, rfl, by rw [hkn2]; rfl, by first | (rw [crash_next hfk.puts hp, hso] <;> rfl) | (rw [crash_next hfk.puts hp, h117, overM_nil] <;> rfl), rfl, trivial⟩⟩))))))))
       omega
     ·first | replace h104 := of_decide_eq_false h104 | replace h104 := of_decide_eq_true (notF h104) | replace h104 := notF h104 | skip
      have htk : p.2.take (kp - pendLen (f.pend.take m)) = p.2 := List.take_of_length_le (by omega)
      rw [← htk] at hB10
      refine W_skip (tN (W_rs (sm rfl rfl (st (X.fa fa132_1 rfl) rfl (st (X.ldL rfl hB10 Tryz.underlying9 rfl rfl) rfl (st (X.lenS rfl rfl Tryz.underlying9) rfl (st (X.sub64 rfl rfl (by omega)) rfl (sa rfl rfl (Wn (tN ?_))))))))))
      refine W_rs (st (X.fa fa132_1 rfl) rfl (st (X.ldL rfl hB10 Tryz.underlying9 rfl rfl) rfl (st (X.neS rfl rfl) rfl (Wn (tN (W_if rfl (fun h117 => ?_) (fun h117 => ?_)))))))
      ·first | replace h117 := of_decide_eq_true h117 | replace h117 := of_decide_eq_false (notT h117) | replace h117 := notT h117 | skip
       refine W_reg (sm rfl rfl (st (X.ldBN rfl hB10 Tryz.underlying132 rfl siz132) rfl ?_))
       have hpp : 0 < kp - pendLen (f.pend.take m) := by
        rcases Nat.eq_zero_or_pos (kp - pendLen (f.pend.take m)) with e | e
        ·rw [e, List.take_zero] at h117
         exact absurd rfl h117
        ·exact e
       have hov := fun W_ : World => overR_any (crashBytes f.last (f.pend.take m) kp) (p.1, p.2.take (kp - pendLen (f.pend.take m))) W_ (crash_pos (p := p) hfk.puts hp hpp) (by omega) (by simp only; omega)
       simp only at hov
       obtain ⟨so, hso⟩ : ∃ s, overM (crashBytes f.last (f.pend.take m) kp) p.1 (p.2.take (kp - pendLen (f.pend.take m))) = s := ⟨_, rfl⟩
       rw [hso] at hov
       refine sc _ Tryz.func84 rfl (by kernel_rfl) rfl rfl ((hov _).mono ?_)
       rintro e_ w17 ⟨rfl, hb⟩
       refine cR ?_
       replace hcw := hcw.then_below hb
       replace hbB := bthen hbB hb
       replace hB10 := hB10.bel hb
       have hz_w17 := hb.size
       clear hb
       refine sa rfl rfl (Wn (bN (tN (W_reg (sm rfl rfl (st (X.add64 rfl rfl (by omega)) rfl (sa rfl rfl (Wn (tN ⟨_, _, ?_, ⟨m + 1, rfl, rfl, by omega, hcw, hbB⟩, ⟨rfl, rfl, rfl, by rw [hkn2]; rfl, by first | (rw [crash_next hfk.puts hp, hso] <;> rfl) | (rw [crash_next hfk.puts hp, h117, overM_nil] <;> rfl), rfl, trivial⟩⟩)))))))))
       omega
      ·first | replace h117 := of_decide_eq_false h117 | replace h117 := of_decide_eq_true (notF h117) | replace h117 := notF h117 | skip
       replace h117 := Classical.not_not.1 h117
       refine W_skip (bN (tN (W_reg (sm rfl rfl (st (X.add64 rfl rfl (by omega)) rfl (sa rfl rfl (Wn (tN ⟨_, _, ?_, ⟨m + 1, rfl, rfl, by omega, hcw, hbB⟩, ⟨rfl, rfl, rfl, by rw [hkn2]; rfl, by first | (rw [crash_next hfk.puts hp, hso] <;> rfl) | (rw [crash_next hfk.puts hp, h117, overM_nil] <;> rfl), rfl, trivial⟩⟩))))))))
       omega
    ·first | replace h86 := of_decide_eq_false h86 | replace h86 := of_decide_eq_true (notF h86) | replace h86 := notF h86 | skip
     obtain rfl : m = f.pend.length := by omega
     rw [List.take_length]
     replace hB := hB.bel hbB
     replace hR := hR.bel hbB
     replace hV := hV.bel hbB
     replace hK := hK.belowAll hbB
     refine W_exit (tE (tE (bH (tN (W_rs (sm rfl rfl (st (X.nilChk rfl) rfl (st (X.fa fa83_0 rfl) rfl (st (X.ldL rfl hB Tryz.underlying81 rfl rfl) rfl (sm rfl rfl (sm rfl rfl (st (X.idxA rfl rfl Tryz.underlying81 siz92 rfl (by omega)) rfl (st (X.fa fa92_1 rfl) rfl ?_)))))))))))))
     refine ssRN (o := oF) (j := i * 3 + 1) rfl (by omega) rfl hR (by omega) (by omega) siz9 rfl (fun w18 hR3 hC3 => ?_)
     have hB3 := hB.chg hC3 (fun e => hneF e.symm)
     have hV3 := hV.chg hC3 (fun q hq => (hV q hq).ne2x hR)
     have hK3 := hK.chgS hC3 (fun h0 k hk e => hKS h0 k hk (by rw [show k = gF from e]; exact hSF))
     replace hcw := hcw.next hC3 (fun k hk => .inl (by rw [show k = gF from hk]; exact hSF))
     clear hB hR hV hK hC3
     have hB := hB3
     have hV := hV3
     have hK := hK3
     clear hB3 hV3 hK3
     refine Wn (tN (W_reg (sm rfl rfl (st (X.nilChk rfl) rfl (st (X.fa fa83_0 rfl) rfl (st (X.ldL rfl hB Tryz.underlying81 rfl rfl) rfl (sm rfl rfl (st (X.idxA rfl rfl Tryz.underlying81 siz92 rfl (by omega)) rfl (st (X.fa fa92_2 rfl) rfl (ssRN (o := oF) (j := i * 3 + 2) rfl (by omega) rfl hR3 (by omega) (by omega) siz90 rfl (fun w19 hR4 hC3 => ?_)))))))))))
     have hB3 := hB.chg hC3 (fun e => hneF e.symm)
     have hV3 := hV.chg hC3 (fun q hq => (hV q hq).ne2x hR3)
     have hK3 := hK.chgS hC3 (fun h0 k hk e => hKS h0 k hk (by rw [show k = gF from e]; exact hSF))
     replace hcw := hcw.next hC3 (fun k hk => .inl (by rw [show k = gF from hk]; exact hSF))
     clear hB hV hK hC3
     have hB := hB3
     have hV := hV3
     have hK := hK3
     clear hB3 hV3 hK3
     rw [flat_set3 ⟨n, ⟨crashBytes f.last f.pend kp, f.now, f.pend⟩, .slice av f.pend.length cv⟩ 1 _ hxm (by omega) rfl, flat_set3 (r := ⟨n, ⟨crashBytes f.last f.pend kp, f.now, f.pend⟩, .slice av f.pend.length cv⟩) ⟨n, crashM f kp, .slice none 0 0⟩ 2 _ (by rw [List.getElem?_set_self (by omega)]) (by omega) rfl, List.set_set] at hR4
     have hR' := hR4
     rw [← hkp, ← hpk, midR_set hx] at hR'
     clear hR4 hR3
     refine Wn (bN (tN (W_reg (sm rfl rfl (st (X.add64 rfl rfl (by omega)) rfl (sa rfl rfl (Wn (tN ⟨_, _, ?_, ⟨i + 1, rfl, rfl, by omega, hcw, hB, hR', hV, hK⟩, ⟨rfl, rfl, rfl, trivial⟩⟩))))))))
     omega
 ·first | replace h20 := of_decide_eq_false h20 | replace h20 := of_decide_eq_true (notF h20) | replace h20 := notF h20 | skip
  obtain rfl : i = rs.length := by omega
  rw [midR_all, ← crR_length rs ks] at hR
  refine W_exit (tE (tE (bH ((r0 rfl ⟨rfl, ⟨.slice a rs.length c, crR rs ks, ⟨hB, ?_, ?_, fun r hr => ?_⟩, ?_, .inl hSg, fun k hk => .inl (hh.vF k hk), fun r hr k hk => ?_⟩, hcw⟩).2))))
  ·rw [crR_length] at hR ⊢; exact hR
  ·rw [crR_map, h.files]; rfl
  ·obtain ⟨e1, e2⟩ := crR_nil _ _ _ hr; rw [e1, e2]; exact Row.nil _ _ _
  ·refine List.Pairwise.imp_of_mem (R := fun _ _ => True) (fun {x y} hx hy _ k hk => ?_) (List.pairwise_of_forall (fun _ _ => trivial))
   rw [(crR_nil _ _ _ hx).1] at hk
   simp [Value.ownBlock] at hk
  ·rw [(crR_nil _ _ _ hr).1] at hk
   simp [Value.ownBlock] at hk
end
end Go.Proofs.YtnijmegalgoipaaGreatDoor
namespace Go.Proofs.YtnijmegalgoipaaGreatDoor
open Go.RowKit
theorem RDisk.chg {w w' : World} {g : Nat} {D : DiskD} {S T : Nat → Prop} (h : RDisk w g D S) (hC : Chg T w w') (hs : ∀ k, S k → ¬ T k) : RDisk w' g D S := by
 obtain ⟨vF, rs, h1, h2⟩ := h
 exact ⟨vF, rs, h1.chg hC ⟨hs _ h2.g, fun k hk => hs k (h2.vF k hk), fun q hq k hk => hs k (h2.v q hq k hk)⟩, h2⟩
structure ROwn (B : Nat) (w : World) (g : Nat) (D : DiskD) (S : Nat → Prop) : Prop where
  at_ : RDisk w g D S
  lo : ∀ k, S k → B ≤ k ∧ k < w.heap.size
section
variable {B g c : Nat} {w w' w'' : World} {D D' E : DiskD} {S T : Nat → Prop}
theorem ROwn.bel (h : ROwn B w g D S) (hb : Below w.heap.size w w') : ROwn B w' g D S := ⟨h.at_.bel hb, fun k hk => by have := h.lo k hk; have := hb.size; omega⟩
theorem ROwn.step (h : ROwn B w g D S) (hD : RDisk w' g D' (Ext S w w')) (hC : Chg S w w') (hB : B ≤ w.heap.size) : ROwn B w' g D' (Ext S w w') :=
 ⟨hD, fun k hk => by
  have := hC.size
  rcases hk with hk | hk
  ·have := h.lo k hk; omega
  ·omega⟩
theorem ROwn.other (h : ROwn B w c E T) (hC : Chg S w w') (hd : ∀ k, S k → ¬ T k) : ROwn B w' c E T := ⟨h.at_.chg hC (fun k hk e => hd k e hk), fun k hk => by have := h.lo k hk; have := hC.size; omega⟩
theorem ROwn.ext (h : ROwn B w c E T) (hd : ∀ k, S k → ¬ T k) : ∀ k, Ext S w w' k → ¬ T k := Ext.apart hd (fun k hk => (h.lo k hk).2)
theorem Ext.flip (hd : ∀ k, T k → ¬ S k) : ∀ k, S k → ¬ T k := fun k h1 h2 => hd k h2 h1
end
end Go.Proofs.YtnijmegalgoipaaGreatDoor
namespace Go.Proofs.YtnijmegalgoipaaGreatDoor
open Go.RowKit
theorem sput_len_same {l : List (Key × FileD)} {n : Key} {f : FileD} (hs : Rising l) (h : mget l n = some f) (f' : FileD) : (sput l n f').length = l.length := by
 obtain ⟨i, hi⟩ := List.getElem?_of_mem (mget_mem h)
 rw [sput_set hs hi, List.length_set]
theorem append_few {D : DiskD} (hs : Rising D.files) (n : Key) (d : List UInt8) : (appendM D n d).2.files.length = D.files.length := by
 unfold appendM opM
 split
 ·rfl
 ·unfold fileM
  dsimp only
  rw [tick_files]
  split
  ·rw [tick_files]
  ·rename_i f hf
   unfold putM
   split
   ·rw [tick_files]
   ·split
    ·dsimp only; rw [tick_files]
    ·dsimp only; rw [tick_files, sput_len_same hs hf]
theorem sync_few {D : DiskD} (hs : Rising D.files) (n : Key) : (syncM D n).2.files.length = D.files.length := by
 unfold syncM opM
 split
 ·rfl
 ·unfold fileM
  dsimp only
  rw [tick_files]
  split
  ·rw [tick_files]
  ·rename_i f hf
   dsimp only
   rw [sput_len_same hs hf]
theorem mdel_len (l : List (Key × FileD)) (n : Key) : (mdel l n).length ≤ l.length := by
 induction l with
 | nil => exact Nat.le_refl _
 | cons p l ih =>
  obtain ⟨a, u⟩ := p
  unfold mdel
  split
  ·exact Nat.le_succ _
  ·exact Nat.succ_le_succ ih
theorem sput_len (l : List (Key × FileD)) (n : Key) (f : FileD) : (sput l n f).length ≤ l.length + 1 := by
 induction l with
 | nil => exact Nat.le_refl _
 | cons p l ih =>
  obtain ⟨a, u⟩ := p
  unfold sput
  split
  ·exact Nat.le_succ _
  ·split
   ·exact Nat.le_refl _
   ·exact Nat.succ_le_succ ih
theorem remove_few (D : DiskD) (n : Key) : (removeM D n).2.files.length ≤ D.files.length := by
 unfold removeM opM
 split
 ·exact Nat.le_refl _
 ·unfold fileM
  dsimp only
  rw [tick_files]
  split
  ·rw [tick_files]; exact Nat.le_refl _
  ·dsimp only
   exact mdel_len _ _
theorem create_few (D : DiskD) (n : Key) : (createM D n).2.files.length ≤ D.files.length + 1 := by
 unfold createM opM
 split
 ·exact Nat.le_succ _
 ·split
  ·dsimp only
   rw [tick_files]
   split
   ·dsimp only; rw [tick_files]; exact Nat.le_succ _
   ·exact sput_len _ _ _
  ·rw [tick_files]; exact Nat.le_succ _
def rjcells (x : ScM) (v : Value) (go : Nat) (la : List UInt8) : Array Value := #[str x.state, v, .int .i64 x.next, .int .i64 go, .int .i64 x.open_, str la]
structure RF (B : Nat) (w : World) (gr gx : Nat) (D : DiskD) (v : Value) (T : Nat → Prop) : Prop where
  own : ROwn B w gr D T
  g : ¬ T gx
  v : ∀ k, v.ownBlock = some k → ¬ T k ∧ B ≤ k
  gB : B ≤ gx
structure RJAll (B : Nat) (w : World) (gr gx : Nat) (D : DiskD) (x : ScM) (v : Value) (T : Nat → Prop) : Prop where
  blk : ∃ go la, Blk w gx 129 (rjcells x v go la) ∧ (0 < x.open_ → la = x.last)
  row : Row w 9 1 v x.done.length (x.done.map str)
  rf : RF B w gr gx D v T
section
variable {B gr gx : Nat} {w w' : World} {D : DiskD} {x : ScM} {v : Value} {T S : Nat → Prop}
theorem RF.bel (h : RF B w gr gx D v T) (hb : Below w.heap.size w w') : RF B w' gr gx D v T := ⟨h.own.bel hb, h.g, h.v, h.gB⟩
theorem RF.chg (h : RF B w gr gx D v T) (hC : Chg (fun k => k = gx) w w') (_ : True) : RF B w' gr gx D v T := ⟨h.own.other hC (fun k hk e => h.g (by rw [hk] at e; exact e)), h.g, h.v, h.gB⟩
theorem RJAll.bel (h : RJAll B w gr gx D x v T) (hb : Below w.heap.size w w') : RJAll B w' gr gx D x v T := by
 obtain ⟨go, la, h1, h2⟩ := h.blk
 exact ⟨⟨go, la, h1.bel hb, h2⟩, h.row.bel hb, h.rf.bel hb⟩
theorem RJAll.lt (h : RJAll B w gr gx D x v T) : gx < w.heap.size := by
 obtain ⟨go, la, h1, h2⟩ := h.blk
 exact h1.lt
theorem RJAll.other (h : RJAll B w gr gx D x v T) (hX : Chg S w w') (h1 : ∀ k, S k → ¬ T k ∧ ¬ k = gx ∧ ¬ v.ownBlock = some k) : RJAll B w' gr gx D x v T := by
 obtain ⟨go, la, h2, h3⟩ := h.blk
 exact ⟨⟨go, la, h2.chg hX (fun e => (h1 _ e).2.1 rfl), h3⟩, h.row.chg hX (fun k hk e => (h1 k e).2.2 hk), ⟨h.rf.own.other hX (fun k hk => (h1 k hk).1), h.rf.g, h.rf.v, h.rf.gB⟩⟩
end
theorem RF.app {B gr gx : Nat} {w w' : World} {D : DiskD} {v v' : Value} {T : Nat → Prop} (h : RF B w gr gx D v T) (hC : Chg (fun k => v.ownBlock = some k) w w') (hv : v'.ownBlock = v.ownBlock ∨ v'.ownBlock = some w.heap.size) (hlt : gx < w.heap.size) : RF B w' gr gx D v' T := by
 have hgB := h.gB
 refine ⟨h.own.other hC (fun k hk e => (h.v k hk).1 e), h.g, fun k hk => ?_, h.gB⟩
 rcases hv with e | e
 ·exact h.v k (e ▸ hk)
 ·rw [e] at hk
  injection hk with hk
  subst hk
  refine ⟨fun hs => ?_, by omega⟩
  have := (h.own.lo _ hs).2
  omega
def RJPost (B : Nat) (w : World) (gr gx : Nat) (D : DiskD) (x : ScM) (v : Value) (T : Nat → Prop) (w' : World) : Prop :=
  ∃ v' T', RJAll B w' gr gx D x v' T' ∧ (∀ k, T' k → T k ∨ w.heap.size ≤ k) ∧ (∀ k, v'.ownBlock = some k → v.ownBlock = some k ∨ w.heap.size ≤ k) ∧ Chg (fun k => T k ∨ k = gx ∨ v.ownBlock = some k) w w'
theorem rdisk {P : Program} {f : FuncId} {args : Array Value} {B gr gx : Nat} {w0 w : World} {D : DiskD} {v : Value} {S S1 X : Nat → Prop} {x : Int × DiskD} {ty : TypeId} {cs : Array Value} {e : TypeId} {n : Nat} {xs : List Value}
  (hc : Calls P f args w (RPost gr S1 w x)) (hB : Blk w gx ty cs) (hR : Row w e 1 v n xs) (hF : RF B w gr gx D v S1) (hcw : Chg X w0 w) (hSX : ∀ k, S k → X k) (hS1 : ∀ k, S1 k → S k ∨ w0.heap.size ≤ k) :
  Calls P f args w (fun e' w' => e' = .returned (.int .i64 x.1) ∧ ∃ S2, Blk w' gx ty cs ∧ Row w' e 1 v n xs ∧ RF B w' gr gx x.2 v S2 ∧ (∀ k, S2 k → S k ∨ w0.heap.size ≤ k) ∧ Chg X w0 w' ∧ w.heap.size ≤ w'.heap.size) := by
 refine hc.mono ?_
 rintro e' w' ⟨rfl, h1, hX⟩
 have hlt := hB.lt
 have hgB := hF.gB
 have hsz := hcw.size
 refine ⟨rfl, Ext S1 w w', hB.chg hX hF.g, hR.chg hX (fun k hk => (hF.v k hk).1), ⟨hF.own.step h1 hX (by omega), ?_, ?_, hgB⟩, ?_, hcw.next hX (fun i hi => (hS1 i hi).imp (hSX i) id), hX.size⟩
 ·rintro (h | ⟨h, _⟩)
  ·exact hF.g h
  ·omega
 ·refine fun k hk => ⟨?_, (hF.v k hk).2⟩
  rintro (h | ⟨h, _⟩)
  ·exact (hF.v k hk).1 h
  ·have := hR.lt k hk
   omega
 ·rintro k (h | ⟨h, _⟩)
  ·exact hS1 k h
  ·right; omega
theorem rnext {P : Program} {f : FuncId} {args : Array Value} {g : Nat} {w0 w : World} {S S1 : Nat → Prop} {x : Int × DiskD} (hc : Calls P f args w (RPost g S1 w x)) (hS1 : ∀ k, S1 k → Ext S w0 w k) (hcw : Chg S w0 w) :
  Calls P f args w (fun e' w' => e' = .returned (.int .i64 x.1) ∧ ∃ S2, RDisk w' g x.2 S2 ∧ (∀ k, S2 k → Ext S w0 w' k) ∧ Chg S w0 w' ∧ w.heap.size ≤ w'.heap.size) := by
 refine hc.mono ?_
 rintro e' w' ⟨rfl, h1, hX⟩
 have hsz := hcw.size
 have hs2 := hX.size
 refine ⟨rfl, _, h1, ?_, hcw.next hX (fun i hi => (hS1 i hi).imp id (fun h => h.1)), hX.size⟩
 rintro k (h | ⟨h, h'⟩)
 ·exact (hS1 k h).imp id (fun e => ⟨e.1, by omega⟩)
 ·exact .inr ⟨by omega, h'⟩
theorem all_any (g : Nat) (D : DiskD) (S : Nat → Prop) (w : World) (h : RDisk w g D S) (hok : DOk D) (hbud : DBud D) : Calls Tryz.prog 81 #[.pointer (some ⟨g, 0, none⟩)] w fun e w' => e = .returned (.tuple #[str (readM D jName 0 1073741824).1, .int .i64 (readM D jName 0 1073741824).2]) ∧ Below w.heap.size w w' := by
 refine W_enter (args := [.pointer (some ⟨g, 0, none⟩)]) 8 Tryz.func81 rfl rfl rfl (W_sub [(0, .pointer (some ⟨g, 0, none⟩))] ?_ ⟨rfl, trivial⟩)
 have hbw := Below.refl w.heap.size w
 refine W_rs (sa rfl rfl (sa rfl rfl (Wn (tN (W_rs (sm rfl rfl (sc _ Tryz.func57 rfl (by kernel_rfl) rfl rfl ((RRead_any g D S _ h jName 0 1073741824 hok hbud).mono ?_))))))))
 rintro e_ w1 ⟨rfl, hb⟩
 refine cR ?_
 replace hbw := bthen hbw hb
 have hz_w1 := hb.size
 clear hb
 refine st (X.ext rfl rfl) rfl (st (X.ext rfl rfl) rfl (sa rfl rfl (sa rfl rfl (Wn (tN (W_ret ?_))))))
 exact (rTT rfl rfl rfl ⟨rfl, hbw⟩).1
theorem replaceR_any (gd : Nat) (D : DiskD) (S : Nat → Prop) (s : List UInt8) (n : Nat) (w : World) (h : RDisk w gd D S) (hg : Good n D) (hn : n ≤ 1000000000) (hfw : D.files.length ≤ 800000) (hs : s.length ≤ 100000000) :
  Calls Tryz.prog 83 #[.pointer (some ⟨gd, 0, none⟩), str s] w (RPost gd S w (replaceR D s)) := by
 have h1 := remove_good hg jNew
 have h2 := create_good h1 jNew
 have h3 := append_good h2 jNew s
 have h4 := sync_good h3 jNew
 have f1 := remove_few D jNew
 have f2 := create_few (removeM D jNew).2 jNew
 have f3 := append_few h2.ok.srt jNew s
 have f4 := sync_few h3.ok.srt jNew
 refine W_enter (args := [.pointer (some ⟨gd, 0, none⟩), str s]) 22 Tryz.func83 rfl rfl rfl (W_sub [(0, .pointer (some ⟨gd, 0, none⟩)), (1, str s)] ?_ ⟨rfl, rfl, trivial⟩)
 have hcw := Chg.refl (S) w
 refine W_rs (sa rfl rfl (Wn (tN (W_rs (sm rfl rfl (sc _ Tryz.func55 rfl (by kernel_rfl) rfl rfl ((rnext (RRemove_any gd D _ _ h jNew hg.ok (by omega)) (fun k hk => .inl hk) hcw).mono ?_)))))))
 rintro e_ w1 ⟨rfl, S1, h, hS1, hcw, hz1_⟩
 refine cR (Wn (tN (W_rs (sm rfl rfl (sc _ Tryz.func50 rfl (by kernel_rfl) rfl rfl ((rnext (RCreate_any gd _ _ _ h jNew h1.ok (by omega) (by decide)) hS1 hcw).mono ?_))))))
 rintro e_ w2 ⟨rfl, S1, h, hS1, hcw, hz1_⟩
 refine cR (Wn (tN (W_rs (sm rfl rfl (sm rfl rfl (sc _ Tryz.func51 rfl (by kernel_rfl) rfl rfl ((rnext (RAppend_any gd _ _ _ h jNew s h2.ok (h2.bud (by omega)) (by omega)) hS1 hcw).mono ?_)))))))
 rintro e_ w3 ⟨rfl, S1, h, hS1, hcw, hz1_⟩
 refine cR ?_
 unfold replaceR
 refine sa rfl rfl (Wn (tN (W_seq (W_rs (sm rfl rfl (st (X.neq rfl rfl) rfl (Wn (tN (W_if rfl (fun h14 => ?_) (fun h14 => ?_))))))))))
 ·first | replace h14 := of_decide_eq_true h14 | replace h14 := of_decide_eq_false (notT h14) | replace h14 := notT h14 | skip
  rw [if_pos h14]
  refine W_rs (sm rfl rfl (sc _ Tryz.func55 rfl (by kernel_rfl) rfl rfl ((rnext (RRemove_any gd _ _ _ h jNew h3.ok (by omega)) hS1 hcw).mono ?_)))
  rintro e_ w4 ⟨rfl, S1, h, hS1, hcw, hz1_⟩
  refine cR (Wn (tN (W_rs (sm rfl rfl (sa rfl rfl (Wn (tN (W_ret (tR ?_)))))))))
  exact (rT rfl rfl ⟨rfl, h.mono hS1, hcw⟩).1
 ·first | replace h14 := of_decide_eq_false h14 | replace h14 := of_decide_eq_true (notF h14) | replace h14 := notF h14 | skip
  rw [if_neg h14]
  refine W_skip (tN (W_rs (sm rfl rfl (sc _ Tryz.func53 rfl (by kernel_rfl) rfl rfl ((rnext (RSync_any gd _ _ _ h jNew h3.ok (h3.bud (by omega))) hS1 hcw).mono ?_)))))
  rintro e_ w5 ⟨rfl, S1, h, hS1, hcw, hz1_⟩
  refine cR (Wn (tN (W_rs (sm rfl rfl (sc _ Tryz.func54 rfl (by kernel_rfl) rfl rfl ((rnext (RRename_any gd _ _ _ h jNew jName h4.ok (by omega) (by decide)) hS1 hcw).mono ?_))))))
  rintro e_ w6 ⟨rfl, S1, h, hS1, hcw, hz1_⟩
  refine cR (sa rfl rfl (Wn (tN (W_ret ?_))))
  exact (rT rfl rfl ⟨rfl, h.mono hS1, hcw⟩).1
section
variable {D : DiskD} {x : ScM} {id : Int}
theorem may_bad (h : id < 1 ∨ id ≠ (x.open_ : Int)) : mayJ ⟨x, false⟩ id = 1 := by
 unfold mayJ
 rw [if_neg (by simp), if_pos h]
theorem may_ok (h : ¬ (id < 1 ∨ id ≠ (x.open_ : Int))) : mayJ ⟨x, false⟩ id = 0 := by
 unfold mayJ
 rw [if_neg (by simp), if_neg h]
theorem commit_bad (h : id < 1 ∨ id ≠ (x.open_ : Int)) : commitJ D ⟨x, false⟩ id = (1, D, ⟨x, false⟩) := by
 unfold commitJ
 rw [may_bad h, if_pos (by decide)]
theorem commit_ok (h : ¬ (id < 1 ∨ id ≠ (x.open_ : Int))) : commitJ D ⟨x, false⟩ id = if (putJ D 5 (four id)).1 ≠ 0 then ((putJ D 5 (four id)).1, (putJ D 5 (four id)).2, ⟨x, lameOf (putJ D 5 (four id)).1⟩) else (0, (putJ D 5 (four id)).2, ⟨{ x with done := x.done ++ [x.last], open_ := 0, last := [] }, false⟩) := by
 unfold commitJ
 rw [may_ok h, if_neg (by decide)]
theorem abort_bad (h : id < 1 ∨ id ≠ (x.open_ : Int)) : abortJ ⟨x, false⟩ id = (1, ⟨x, false⟩) := by
 unfold abortJ
 rw [may_bad h, if_pos (by decide)]
theorem abort_ok (h : ¬ (id < 1 ∨ id ≠ (x.open_ : Int))) : abortJ ⟨x, false⟩ id = (0, ⟨{ x with open_ := 0, last := [] }, false⟩) := by
 unfold abortJ
 rw [may_ok h, if_neg (by decide)]
end
section
variable (B gr gx : Nat) (D : DiskD) (x : ScM) (v : Value) (T : Nat → Prop) (w : World)
theorem putR_any (gd : Nat) (S : Nat → Prop) (k : UInt8) (b : List UInt8) (n : Nat) (h : RDisk w gd D S) (hg : Good n D) (hn : n ≤ 1000000000) (hb_ : b.length ≤ 1000000) :
  Calls Tryz.prog 113 #[.pointer (some ⟨gd, 0, none⟩), .int .u8 k.toNat, str b] w (RPost gd S w (putR D k b)) := by
 have hsl := sealM_length k b
 have hg1 := append_good hg jName (sealM k b)
 refine W_enter (args := [.pointer (some ⟨gd, 0, none⟩), .int .u8 k.toNat, str b]) 18 Tryz.func113 rfl rfl rfl (W_sub [(0, .pointer (some ⟨gd, 0, none⟩)), (1, .int .u8 k.toNat), (2, str b)] ?_ ⟨rfl, rfl, rfl, trivial⟩)
 have hcw := Chg.refl (S) w
 refine W_rs (sa rfl rfl (Wn (tN (W_rs (sm rfl rfl (sm rfl rfl (sm rfl rfl (sc _ Tryz.func115 rfl (by kernel_rfl) rfl rfl ((SealR_any k b _ (by omega)).mono ?_)))))))))
 rintro e_ w1 ⟨rfl, hb⟩
 refine cR ?_
 replace hcw := hcw.then_below hb
 replace h := h.bel hb
 have hz_w1 := hb.size
 clear hb
 refine sc _ Tryz.func51 rfl (by kernel_rfl) rfl rfl ((rnext (RAppend_any gd D _ _ h jName (sealM k b) hg.ok (hg.bud (by omega)) (by omega)) (fun k hk => .inl hk) hcw).mono ?_)
 clear h
 rintro e_ w2 ⟨rfl, S1, h, hS1, hcw, hz1_⟩
 refine cR ?_
 obtain ⟨e1, D1, hap⟩ : ∃ e1 D1, appendM D jName (sealM k b) = (e1, D1) := ⟨_, _, rfl⟩
 unfold putR
 rw [hap] at h hg1 ⊢
 simp only at h hg1 ⊢
 refine sa rfl rfl (Wn (tN (W_seq (W_rs (sm rfl rfl (st (X.eql rfl rfl) rfl (Wn (tN (W_if rfl (fun h14 => ?_) (fun h14 => ?_))))))))))
 ·first | replace h14 := of_decide_eq_true h14 | replace h14 := of_decide_eq_false (notT h14) | replace h14 := notT h14 | skip
  obtain rfl : e1 = 0 := h14
  rw [if_pos rfl]
  refine W_reg (sm rfl rfl (sc _ Tryz.func53 rfl (by kernel_rfl) rfl rfl ((rnext (RSync_any gd D1 _ _ h jName hg1.ok (hg1.bud (by omega))) hS1 hcw).mono ?_)))
  clear h
  rintro e_ w3 ⟨rfl, S1, h, hS1, hcw, hz1_⟩
  refine cR (Wn (tN (W_rs (sm rfl rfl (sa rfl rfl (Wn (tN (W_ret ?_))))))))
  exact (rT rfl rfl ⟨rfl, h.mono hS1, hcw⟩).1
 ·first | replace h14 := of_decide_eq_false h14 | replace h14 := of_decide_eq_true (notF h14) | replace h14 := notF h14 | skip
  rw [if_neg h14]
  refine W_skip (tN (W_rs (sm rfl rfl (sa rfl rfl (Wn (tN (W_ret ?_)))))))
  exact (rT rfl rfl ⟨rfl, h.mono hS1, hcw⟩).1
theorem RIntent_any (p : List UInt8) (n : Nat) (h : RJAll B w gr gx D x v T) (hg : Good n D) (hst : D.stops = false) (hj : (mget D.files jName).isSome = true) (hn : n ≤ 1000000000) (hp : p.length ≤ 1099511627776) (hnx : x.next ≤ 1152921504606846976) :
  Calls Tryz.prog 85 #[.pointer (some ⟨gx, 0, none⟩), .pointer (some ⟨gr, 0, none⟩), str p] w (fun e w' => e = .returned (.tuple #[.int .i64 (intentJ D ⟨x, false⟩ p).1.1, .int .i64 (intentJ D ⟨x, false⟩ p).1.2]) ∧ RJPost B w gr gx (intentJ D ⟨x, false⟩ p).2.1 (intentJ D ⟨x, false⟩ p).2.2.x v T w') := by
 obtain ⟨go, la, hB0, hla⟩ := h.blk
 have hB : Blk w gx 129 #[str x.state, v, .int .i64 x.next, .int .i64 go, .int .i64 x.open_, str la] := hB0
 have hR := h.row
 have hF := h.rf
 have hX : T gx ∨ gx = gx ∨ v.ownBlock = some gx := .inr (.inl rfl)
 have hlt := hB.lt
 have hn4 := four_length (x.next : Int)
 unfold intentJ
 refine W_enter (args := [.pointer (some ⟨gx, 0, none⟩), .pointer (some ⟨gr, 0, none⟩), str p]) 56 Tryz.func85 rfl rfl rfl (W_sub [(0, .pointer (some ⟨gx, 0, none⟩)), (1, .pointer (some ⟨gr, 0, none⟩)), (2, str p)] ?_ ⟨rfl, rfl, rfl, trivial⟩)
 have hcw := Chg.refl (fun k => T k ∨ k = gx ∨ v.ownBlock = some k) w
 refine W_rs (sa rfl rfl (sa rfl rfl (Wn (tN (W_seq (W_rs (sm rfl rfl (st (X.nilChk rfl) rfl (st (X.fa fa129_1 rfl) rfl (st (X.ldL rfl hB Tryz.underlying3 rfl rfl) rfl ?_))))))))))
 refine st (X.gtr rfl rfl) rfl (Wn (tN (W_if rfl (fun h13 => ?_) (fun h13 => ?_))))
 ·first | replace h13 := of_decide_eq_true h13 | replace h13 := of_decide_eq_false (notT h13) | replace h13 := notT h13 | skip
  refine W_rs (sa rfl rfl (sa rfl rfl (Wn (tN (W_ret (tR ?_))))))
  rw [if_pos (.inr (by show 0 < x.open_; omega))]
  exact (rTT rfl rfl rfl ⟨rfl, v, T, ⟨⟨go, la, hB, hla⟩, hR, hF⟩, fun k hk => .inl hk, fun k hk => .inl hk, hcw⟩).1
 ·first | replace h13 := of_decide_eq_false h13 | replace h13 := of_decide_eq_true (notF h13) | replace h13 := notF h13 | skip
  rw [if_neg (by rintro (e | e); cases e; exact absurd (show 0 < x.open_ from e) (by omega))]
  refine W_skip (tN (W_seq (W_rs (sm rfl rfl (st (X.lenS rfl rfl Tryz.underlying9) rfl (st (X.gtr rfl rfl) rfl (Wn (tN (W_if rfl (fun h16 => ?_) (fun h16 => ?_))))))))))
  ·first | replace h16 := of_decide_eq_true h16 | replace h16 := of_decide_eq_false (notT h16) | replace h16 := notT h16 | skip
   refine W_rs (sa rfl rfl (sa rfl rfl (Wn (tN (W_ret (tR ?_))))))
   rw [if_pos (by omega)]
   exact (rTT rfl rfl rfl ⟨rfl, v, T, ⟨⟨go, la, hB, hla⟩, hR, hF⟩, fun k hk => .inl hk, fun k hk => .inl hk, hcw⟩).1
  ·first | replace h16 := of_decide_eq_false h16 | replace h16 := of_decide_eq_true (notF h16) | replace h16 := notF h16 | skip
   rw [if_neg (by omega)]
   refine W_skip (tN (W_rs (sm rfl rfl (sm rfl rfl (st (X.nilChk rfl) rfl (st (X.fa fa129_0 rfl) rfl (st (X.fa fa126_2 rfl) rfl (st (X.ldL rfl hB Tryz.underlying3 rfl rfl) rfl (sc _ Tryz.func114 rfl (by kernel_rfl) rfl rfl ((Num_any x.next _ (by omega) (by omega)).mono ?_))))))))))
   rintro e_ w1 ⟨rfl, hb⟩
   refine cR ?_
   replace hcw := hcw.then_below hb
   replace hB := hB.bel hb
   replace hR := hR.bel hb
   replace hF := hF.bel hb
   have hz_w1 := hb.size
   clear hb
   refine sm rfl rfl (st (X.cat rfl rfl (by omega)) rfl (sc _ Tryz.func113 rfl (by kernel_rfl) rfl rfl ((rdisk (putR_any D _ gr T 4 (four x.next ++ p) n hF.own.at_ hg hn (by rw [List.length_append]; omega)) hB hR hF hcw (fun k hk => .inl hk) (fun k hk => .inl hk)).mono ?_)))
   clear hB hR hF
   rintro e_ w2 ⟨rfl, S1, hB, hR, hF, hS1, hcw1, hz1_⟩
   clear hcw
   have hcw := hcw1
   clear hcw1
   refine cR ?_
   obtain ⟨q1, q2, q3, q4⟩ := put_all hg hst hj 4 (four x.next ++ p)
   rw [q1] at hF ⊢
   obtain ⟨e1, D1, hpj⟩ : ∃ e D', putJ D 4 (four x.next ++ p) = (e, D') := ⟨_, _, rfl⟩
   rw [hpj] at hF ⊢
   simp only at hF ⊢
   have hz_w2 := hz1_
   have hne := hR.ne2 hB (by decide)
   refine sa rfl rfl (Wn (tN (W_seq (W_rs (sm rfl rfl (st (X.neq rfl rfl) rfl (Wn (tN (W_if rfl (fun h28 => ?_) (fun h28 => ?_))))))))))
   ·first | replace h28 := of_decide_eq_true h28 | replace h28 := of_decide_eq_false (notT h28) | replace h28 := notT h28 | skip
    rw [if_pos h28]
    refine W_rs (sm rfl rfl (sa rfl rfl (sa rfl rfl (Wn (tN (W_ret (tR ?_)))))))
    exact (rTT rfl rfl rfl ⟨rfl, v, S1, ⟨⟨go, la, hB, hla⟩, hR, hF⟩, hS1, fun k hk => .inl hk, hcw⟩).1
   ·first | replace h28 := of_decide_eq_false h28 | replace h28 := of_decide_eq_true (notF h28) | replace h28 := notF h28 | skip
    obtain rfl : e1 = 0 := Decidable.of_not_not h28
    rw [if_neg (by simp)]
    refine W_skip (tN (W_rs (sm rfl rfl (sm rfl rfl (st (X.nilChk rfl) rfl (st (X.fa fa129_0 rfl) rfl (st (X.fa fa126_2 rfl) rfl (st (X.ldL rfl hB Tryz.underlying3 rfl rfl) rfl (st (X.nilChk rfl) rfl (st (X.fa fa129_1 rfl) rfl ?_))))))))))
    refine ssB rfl rfl hB siz3 rfl (by first | decide | simp) (fun w3 hB_ hc_ => ?_)
    replace hB := hB_
    clear hB_
    replace hR := hR.chg hc_ (by first | (show ¬ _ = _; omega) | (intro k_ hk_; simp [Value.ownBlock] at hk_; subst hk_; show ¬ _ = _; omega) | assumption | trivial)
    replace hF := hF.chg hc_ (by first | (show ¬ _ = _; omega) | (intro k_ hk_; simp [Value.ownBlock] at hk_; subst hk_; show ¬ _ = _; omega) | assumption | trivial)
    replace hcw := hcw.next hc_ (fun i_ hi_ => by first | exact .inl hi_ | exact .inl (.inl hi_) | (right; subst hi_; omega) | (left; subst hi_; show _ ≤ _; omega) | (left; subst hi_; assumption))
    have hz_w3 := hc_.size
    clear hc_
    refine Wn (tN (W_rs (sm rfl rfl (sm rfl rfl (st (X.nilChk rfl) rfl (st (X.fa fa129_2 rfl) rfl (ssB rfl rfl hB siz9 rfl (by first | decide | simp) (fun w4 hB_ hc_ => ?_))))))))
    replace hB := hB_
    clear hB_
    replace hR := hR.chg hc_ (by first | (show ¬ _ = _; omega) | (intro k_ hk_; simp [Value.ownBlock] at hk_; subst hk_; show ¬ _ = _; omega) | assumption | trivial)
    replace hF := hF.chg hc_ (by first | (show ¬ _ = _; omega) | (intro k_ hk_; simp [Value.ownBlock] at hk_; subst hk_; show ¬ _ = _; omega) | assumption | trivial)
    replace hcw := hcw.next hc_ (fun i_ hi_ => by first | exact .inl hi_ | exact .inl (.inl hi_) | (right; subst hi_; omega) | (left; subst hi_; show _ ≤ _; omega) | (left; subst hi_; assumption))
    have hz_w4 := hc_.size
    clear hc_
    refine Wn (tN (W_rs (sm rfl rfl (sm rfl rfl (st (X.nilChk rfl) rfl (st (X.fa fa129_0 rfl) rfl (st (X.fa fa126_2 rfl) rfl (st (X.ldL rfl hB Tryz.underlying3 rfl rfl) rfl (st (X.add64 rfl rfl (by omega)) rfl (st (X.nilChk rfl) rfl ?_))))))))))
    refine st (X.fa fa129_0 rfl) rfl (st (X.fa fa126_2 rfl) rfl (ssB rfl rfl hB siz3 rfl (by first | decide | simp) (fun w5 hB_ hc_ => ?_)))
    replace hB := hB_
    clear hB_
    replace hR := hR.chg hc_ (by first | (show ¬ _ = _; omega) | (intro k_ hk_; simp [Value.ownBlock] at hk_; subst hk_; show ¬ _ = _; omega) | assumption | trivial)
    replace hF := hF.chg hc_ (by first | (show ¬ _ = _; omega) | (intro k_ hk_; simp [Value.ownBlock] at hk_; subst hk_; show ¬ _ = _; omega) | assumption | trivial)
    replace hcw := hcw.next hc_ (fun i_ hi_ => by first | exact .inl hi_ | exact .inl (.inl hi_) | (right; subst hi_; omega) | (left; subst hi_; show _ ≤ _; omega) | (left; subst hi_; assumption))
    have hz_w5 := hc_.size
    clear hc_
    refine Wn (tN (W_rs (sm rfl rfl (st (X.nilChk rfl) rfl (st (X.fa fa129_1 rfl) rfl (st (X.ldL rfl hB Tryz.underlying3 rfl rfl) rfl (sa rfl rfl (sa rfl rfl (Wn (tN ?_))))))))))
    refine W_ret ?_
    exact (rTT rfl rfl rfl ⟨rfl, v, S1, ⟨⟨go, p, hB, fun _ => rfl⟩, hR, hF⟩, hS1, fun k hk => .inl hk, hcw⟩).1
set_option maxRecDepth 10000 in
theorem RCommit_any (id : Int) (n : Nat) (h : RJAll B w gr gx D x v T) (hg : Good n D) (hst : D.stops = false) (hj : (mget D.files jName).isSome = true) (hn : n ≤ 1000000000) (hid : id ≤ 9223372036854775807) (hdn : x.done.length ≤ 1000000000) :
  Calls Tryz.prog 86 #[.pointer (some ⟨gx, 0, none⟩), .pointer (some ⟨gr, 0, none⟩), .int .i64 id] w (fun e w' => e = .returned (.int .i64 (commitJ D ⟨x, false⟩ id).1) ∧ RJPost B w gr gx (commitJ D ⟨x, false⟩ id).2.1 (commitJ D ⟨x, false⟩ id).2.2.x v T w') := by
 obtain ⟨go, la, hB0, hla⟩ := h.blk
 have hB : Blk w gx 129 #[str x.state, v, .int .i64 x.next, .int .i64 go, .int .i64 x.open_, str la] := hB0
 have hR := h.row
 have hF := h.rf
 have hX : T gx ∨ gx = gx ∨ v.ownBlock = some gx := .inr (.inl rfl)
 have hlt := hB.lt
 have hn4 := four_length id
 refine W_enter (args := [.pointer (some ⟨gx, 0, none⟩), .pointer (some ⟨gr, 0, none⟩), .int .i64 id]) 43 Tryz.func86 rfl rfl rfl (W_sub [(0, .pointer (some ⟨gx, 0, none⟩)), (1, .pointer (some ⟨gr, 0, none⟩)), (2, .int .i64 id)] ?_ ⟨rfl, rfl, rfl, trivial⟩)
 have hcw := Chg.refl (fun k => T k ∨ k = gx ∨ v.ownBlock = some k) w
 refine W_rs (sa rfl rfl (Wn (tN (W_seq (W_rs (sm rfl rfl (st (X.lss rfl rfl) rfl (sb rfl rfl (fun h10 => ?_) (fun h10 => ?_)))))))))
 ·first | replace h10 := of_decide_eq_true h10 | replace h10 := of_decide_eq_false (notT h10) | replace h10 := notT h10 | skip
  refine gN (g := 10) rfl rfl rfl rfl (gN (g := 10) rfl rfl rfl rfl (gN (g := 10) rfl rfl rfl rfl (gN (g := 10) rfl rfl rfl rfl (gN (g := 10) rfl rfl rfl rfl (gN (g := 10) rfl rfl rfl rfl (st (X.pickT rfl rfl) rfl (Wn (tN (W_yes rfl (rfl) (W_rs ?_))))))))))
  refine sa rfl rfl (Wn (tN (W_ret (tR ?_))))
  rw [commit_bad (.inl (by omega))]
  exact (rT rfl rfl ⟨rfl, v, T, ⟨⟨go, la, hB, hla⟩, hR, hF⟩, fun k hk => .inl hk, fun k hk => .inl hk, hcw⟩).1
 ·first | replace h10 := of_decide_eq_false h10 | replace h10 := of_decide_eq_true (notF h10) | replace h10 := notF h10 | skip
  refine gY (g := 10) rfl rfl rfl (sm rfl rfl (gY (g := 10) rfl rfl rfl (sm rfl rfl (gY (g := 10) rfl rfl rfl (st (X.nilChk rfl) rfl (gY (g := 10) rfl rfl rfl (st (X.fa fa129_1 rfl) rfl (gY (g := 10) rfl rfl rfl (st (X.ldL rfl hB Tryz.underlying3 rfl rfl) rfl (gY (g := 10) rfl rfl rfl ?_))))))))))
  refine st (X.neq rfl rfl) rfl (st (X.pickF rfl rfl) rfl (Wn (tN (W_if rfl (fun h17 => ?_) (fun h17 => ?_)))))
  ·first | replace h17 := of_decide_eq_true h17 | replace h17 := of_decide_eq_false (notT h17) | replace h17 := notT h17 | skip
   refine W_rs (sa rfl rfl (Wn (tN (W_ret (tR ?_)))))
   rw [commit_bad (.inr (by show id ≠ (x.open_ : Int); omega))]
   exact (rT rfl rfl ⟨rfl, v, T, ⟨⟨go, la, hB, hla⟩, hR, hF⟩, fun k hk => .inl hk, fun k hk => .inl hk, hcw⟩).1
  ·first | replace h17 := of_decide_eq_false h17 | replace h17 := of_decide_eq_true (notF h17) | replace h17 := notF h17 | skip
   rw [commit_ok (show ¬ (id < 1 ∨ id ≠ (x.open_ : Int)) by omega)]
   have hla2 : la = x.last := hla (by omega)
   subst hla2
   refine W_skip (tN (W_rs (sm rfl rfl (sm rfl rfl (sc _ Tryz.func114 rfl (by kernel_rfl) rfl rfl ((Num_any id _ (by omega) hid).mono ?_))))))
   rintro e_ w1 ⟨rfl, hb⟩
   refine cR ?_
   replace hcw := hcw.then_below hb
   replace hB := hB.bel hb
   replace hR := hR.bel hb
   replace hF := hF.bel hb
   have hz_w1 := hb.size
   clear hb
   refine sc _ Tryz.func113 rfl (by kernel_rfl) rfl rfl ((rdisk (putR_any D _ gr T 5 (four id) n hF.own.at_ hg hn (by omega)) hB hR hF hcw (fun k hk => .inl hk) (fun k hk => .inl hk)).mono ?_)
   clear hB hR hF
   rintro e_ w2 ⟨rfl, S1, hB, hR, hF, hS1, hcw1, hz1_⟩
   clear hcw
   have hcw := hcw1
   clear hcw1
   refine cR ?_
   obtain ⟨q1, q2, q3, q4⟩ := put_all hg hst hj 5 (four id)
   rw [q1] at hF ⊢
   obtain ⟨e1, D1, hpj⟩ : ∃ e D', putJ D 5 (four id) = (e, D') := ⟨_, _, rfl⟩
   rw [hpj] at hF ⊢
   simp only at hF ⊢
   have hz_w2 := hz1_
   have hne := hR.ne2 hB (by decide)
   refine sa rfl rfl (Wn (tN (W_seq (W_rs (sm rfl rfl (st (X.eql rfl rfl) rfl (Wn (tN (W_if rfl (fun h23 => ?_) (fun h23 => ?_))))))))))
   ·first | replace h23 := of_decide_eq_true h23 | replace h23 := of_decide_eq_false (notT h23) | replace h23 := notT h23 | skip
    obtain rfl : e1 = 0 := h23
    rw [if_neg (by simp)]
    have hB0 := hB
    have hz9 := hcw.size
    refine W_phase_s (fun W_ => Below w2.heap.size w2 W_) 11 [true, true, true, true, true, true, true, true, true, true, false] (by kernel_rfl) (by kernel_rfl) (bdrew (Below.refl _ _)) ?_
    obtain ⟨w3, hw_⟩ : ∃ w3 : World, w3 = World.drew w2 := ⟨_, rfl⟩
    rw [← hw_]
    have hb : Below w2.heap.size w2 w3 := by rw [hw_]; exact bdrew (Below.refl _ _)
    clear hw_
    have hS := hb
    replace hcw := hcw.then_below hb
    replace hB := hB.bel hb
    replace hR := hR.bel hb
    replace hF := hF.bel hb
    have hz_w3 := hb.size
    clear hb
    refine pY (fun W_ hW_ => (X.move rfl)) rfl (pY (fun W_ hW_ => (X.move rfl)) rfl (pY (fun W_ hW_ => (X.nilChk rfl)) rfl (pY (fun W_ hW_ => (X.fa fa129_0 rfl)) rfl (pY (fun W_ hW_ => (X.fa fa126_1 rfl)) rfl (pY (fun W_ hW_ => (X.ldL rfl (hB0.bel hW_) Tryz.underlying42 rfl rfl)) rfl (pY (fun W_ hW_ => (X.move rfl)) rfl (pY (fun W_ hW_ => (X.nilChk rfl)) rfl (pY (fun W_ hW_ => (X.fa fa129_2 rfl)) rfl (pY (fun W_ hW_ => (X.ldL rfl (hB0.bel hW_) Tryz.underlying9 rfl rfl)) rfl (pL (fun Q_ hQ_ hP_ => ?_)))))))))))
    refine sbs1 rfl Tryz.underlying42 inf9 rfl rfl (by decide) (by decide) rfl (fun g34 w4 hR34 hg34 hb => ?_)
    replace hS := bthen hS hb
    replace hcw := hcw.then_below hb
    replace hB := hB.bel hb
    replace hR := hR.bel hb
    replace hF := hF.bel hb
    have hz_w4 := hb.size
    clear hb
    have hl34 := hR34.blt (by decide)
    refine Wn (hQ_ _ _ hS ?_)
    clear hQ_ hP_ Q_
    refine pN (sapp rfl rfl Tryz.underlying42 inf9 rfl (by decide) hR (hR34.src Tryz.underlying42 (by intro u hu; rw [show u = str x.last by simpa [Value.cells, str] using hu]; rfl)) (by simp only [maxLen]; omega) (by omega) rfl (fun v' w5 hR2 hC2 hv => ?_))
    obtain ⟨a', c', rfl, _, _⟩ := hR2.shape
    have hz_w5 := hC2.size
    have hlt9 := hB.lt
    have hne1 := hR.ne2 hB (by decide)
    replace hB := hB.chg hC2 (fun hk => hne1 _ hk rfl)
    have hne := hR2.ne2 hB (by decide)
    replace hF := hF.app hC2 hv hlt9
    replace hcw := hcw.next hC2 (fun i hi => .inl (.inr (.inr hi)))
    have hvn : ∀ k, (Value.slice a' (x.done.length + 1) c').ownBlock = some k → v.ownBlock = some k ∨ w.heap.size ≤ k := fun k hk => by
     rcases hv with hv | hv
     ·exact .inl (hv ▸ hk)
     ·rw [hv] at hk
      injection hk with hk
      right; omega
    replace hR := hR2
    clear hC2 hR2
    refine st (X.nilChk rfl) rfl (st (X.fa fa129_0 rfl) rfl (st (X.fa fa126_1 rfl) rfl (ssB rfl rfl hB siz42 rfl (by first | decide | simp) (fun w6 hB_ hc_ => ?_))))
    replace hB := hB_
    clear hB_
    replace hR := hR.chg hc_ (by first | (show ¬ _ = _; omega) | (intro k_ hk_; simp [Value.ownBlock] at hk_; subst hk_; show ¬ _ = _; omega) | assumption | trivial)
    replace hF := hF.chg hc_ (by first | (show ¬ _ = _; omega) | (intro k_ hk_; simp [Value.ownBlock] at hk_; subst hk_; show ¬ _ = _; omega) | assumption | trivial)
    replace hcw := hcw.next hc_ (fun i_ hi_ => by first | exact .inl hi_ | exact .inl (.inl hi_) | (right; subst hi_; omega) | (left; subst hi_; show _ ≤ _; omega) | (left; subst hi_; assumption))
    have hz_w6 := hc_.size
    clear hc_
    refine Wn (nN (W_reg (sm rfl rfl (st (X.nilChk rfl) rfl (st (X.fa fa129_1 rfl) rfl (ssB rfl rfl hB siz3 rfl (by first | decide | simp) (fun w7 hB_ hc_ => ?_)))))))
    replace hB := hB_
    clear hB_
    replace hR := hR.chg hc_ (by first | (show ¬ _ = _; omega) | (intro k_ hk_; simp [Value.ownBlock] at hk_; subst hk_; show ¬ _ = _; omega) | assumption | trivial)
    replace hF := hF.chg hc_ (by first | (show ¬ _ = _; omega) | (intro k_ hk_; simp [Value.ownBlock] at hk_; subst hk_; show ¬ _ = _; omega) | assumption | trivial)
    replace hcw := hcw.next hc_ (fun i_ hi_ => by first | exact .inl hi_ | exact .inl (.inl hi_) | (right; subst hi_; omega) | (left; subst hi_; show _ ≤ _; omega) | (left; subst hi_; assumption))
    have hz_w7 := hc_.size
    clear hc_
    refine Wn (tN (W_rs (sm rfl rfl (sa rfl rfl (Wn (tN (W_ret ((rT rfl rfl ⟨rfl, _, S1, ⟨⟨go, x.last, hB, fun e => absurd e (Nat.lt_irrefl 0)⟩, ?_, hF⟩, hS1, hvn, hcw⟩).1))))))))
    simpa [str, Value.cells] using hR
   ·first | replace h23 := of_decide_eq_false h23 | replace h23 := of_decide_eq_true (notF h23) | replace h23 := notF h23 | skip
    rw [if_pos h23]
    refine W_skip (tN (W_rs (sm rfl rfl (sa rfl rfl (Wn (tN (W_ret ?_)))))))
    exact (rT rfl rfl ⟨rfl, v, S1, ⟨⟨go, x.last, hB, hla⟩, hR, hF⟩, hS1, fun k hk => .inl hk, hcw⟩).1
theorem RAbort_any (id : Int) (h : RJAll B w gr gx D x v T) :
  Calls Tryz.prog 87 #[.pointer (some ⟨gx, 0, none⟩), .int .i64 id] w (fun e w' => e = .returned (.int .i64 (abortJ ⟨x, false⟩ id).1) ∧ RJPost B w gr gx D (abortJ ⟨x, false⟩ id).2.x v T w') := by
 obtain ⟨go, la, hB0, hla⟩ := h.blk
 have hB : Blk w gx 129 #[str x.state, v, .int .i64 x.next, .int .i64 go, .int .i64 x.open_, str la] := hB0
 have hR := h.row
 have hF := h.rf
 have hne := hR.ne2 hB (by decide)
 have hX : T gx ∨ gx = gx ∨ v.ownBlock = some gx := .inr (.inl rfl)
 have hlt := hB.lt
 refine W_enter (args := [.pointer (some ⟨gx, 0, none⟩), .int .i64 id]) 18 Tryz.func87 rfl rfl rfl (W_sub [(0, .pointer (some ⟨gx, 0, none⟩)), (1, .int .i64 id)] ?_ ⟨rfl, rfl, trivial⟩)
 have hcw := Chg.refl (fun k => T k ∨ k = gx ∨ v.ownBlock = some k) w
 refine W_rs (sa rfl rfl (Wn (tN (W_seq (W_rs (sm rfl rfl (st (X.lss rfl rfl) rfl (sb rfl rfl (fun h7 => ?_) (fun h7 => ?_)))))))))
 ·first | replace h7 := of_decide_eq_true h7 | replace h7 := of_decide_eq_false (notT h7) | replace h7 := notT h7 | skip
  refine gN (g := 7) rfl rfl rfl rfl (gN (g := 7) rfl rfl rfl rfl (gN (g := 7) rfl rfl rfl rfl (gN (g := 7) rfl rfl rfl rfl (gN (g := 7) rfl rfl rfl rfl (gN (g := 7) rfl rfl rfl rfl (st (X.pickT rfl rfl) rfl (Wn (tN (W_yes rfl (rfl) (W_rs ?_))))))))))
  refine sa rfl rfl (Wn (tN (W_ret (tR ?_))))
  rw [abort_bad (.inl (by omega))]
  exact (rT rfl rfl ⟨rfl, v, T, ⟨⟨go, la, hB, hla⟩, hR, hF⟩, fun k hk => .inl hk, fun k hk => .inl hk, hcw⟩).1
 ·first | replace h7 := of_decide_eq_false h7 | replace h7 := of_decide_eq_true (notF h7) | replace h7 := notF h7 | skip
  refine gY (g := 7) rfl rfl rfl (sm rfl rfl (gY (g := 7) rfl rfl rfl (sm rfl rfl (gY (g := 7) rfl rfl rfl (st (X.nilChk rfl) rfl (gY (g := 7) rfl rfl rfl (st (X.fa fa129_1 rfl) rfl (gY (g := 7) rfl rfl rfl (st (X.ldL rfl hB Tryz.underlying3 rfl rfl) rfl (gY (g := 7) rfl rfl rfl ?_))))))))))
  refine st (X.neq rfl rfl) rfl (st (X.pickF rfl rfl) rfl (Wn (tN (W_if rfl (fun h14 => ?_) (fun h14 => ?_)))))
  ·first | replace h14 := of_decide_eq_true h14 | replace h14 := of_decide_eq_false (notT h14) | replace h14 := notT h14 | skip
   refine W_rs (sa rfl rfl (Wn (tN (W_ret (tR ?_)))))
   rw [abort_bad (.inr (by show id ≠ (x.open_ : Int); omega))]
   exact (rT rfl rfl ⟨rfl, v, T, ⟨⟨go, la, hB, hla⟩, hR, hF⟩, fun k hk => .inl hk, fun k hk => .inl hk, hcw⟩).1
  ·first | replace h14 := of_decide_eq_false h14 | replace h14 := of_decide_eq_true (notF h14) | replace h14 := notF h14 | skip
   rw [abort_ok (show ¬ (id < 1 ∨ id ≠ (x.open_ : Int)) by omega)]
   refine W_skip (tN (W_rs (sm rfl rfl (st (X.nilChk rfl) rfl (st (X.fa fa129_1 rfl) rfl (ssB rfl rfl hB siz3 rfl (by first | decide | simp) (fun w1 hB_ hc_ => ?_)))))))
   replace hB := hB_
   clear hB_
   replace hR := hR.chg hc_ (by first | (show ¬ _ = _; omega) | (intro k_ hk_; simp [Value.ownBlock] at hk_; subst hk_; show ¬ _ = _; omega) | assumption | trivial)
   replace hF := hF.chg hc_ (by first | (show ¬ _ = _; omega) | (intro k_ hk_; simp [Value.ownBlock] at hk_; subst hk_; show ¬ _ = _; omega) | assumption | trivial)
   replace hcw := hcw.next hc_ (fun i_ hi_ => by first | exact .inl hi_ | exact .inl (.inl hi_) | (right; subst hi_; omega) | (left; subst hi_; show _ ≤ _; omega) | (left; subst hi_; assumption))
   have hz_w1 := hc_.size
   clear hc_
   refine Wn (tN (W_rs (sa rfl rfl (Wn (tN (W_ret ?_))))))
   exact (rT rfl rfl ⟨rfl, v, T, ⟨⟨go, la, hB, fun e => absurd e (Nat.lt_irrefl 0)⟩, hR, hF⟩, fun k hk => .inl hk, fun k hk => .inl hk, hcw⟩).1
set_option maxRecDepth 10000 in
theorem RCheck_any (p : List UInt8) (n : Nat) (h : RJAll B w gr gx D x v T) (hg : Good n D) (hst : D.stops = false) (hn : n ≤ 1000000000) (hfw : D.files.length ≤ 800000) (hp : p.length ≤ 1099511627776) (hnx : x.next ≤ 1152921504606846976) :
  Calls Tryz.prog 88 #[.pointer (some ⟨gx, 0, none⟩), .pointer (some ⟨gr, 0, none⟩), str p] w (fun e w' => e = .returned (.int .i64 (checkJ D ⟨x, false⟩ p).1) ∧ RJPost B w gr gx (checkJ D ⟨x, false⟩ p).2.1 (checkJ D ⟨x, false⟩ p).2.2.x v T w') := by
 obtain ⟨go, la, hB0, hla⟩ := h.blk
 have hB : Blk w gx 129 #[str x.state, v, .int .i64 x.next, .int .i64 go, .int .i64 x.open_, str la] := hB0
 have hR := h.row
 have hF := h.rf
 have hX : T gx ∨ gx = gx ∨ v.ownBlock = some gx := .inr (.inl rfl)
 have hlt := hB.lt
 have hn4 := four_length (x.next : Int)
 have hsl := sealM_length 6 (four x.next ++ p)
 rw [List.length_append] at hsl
 unfold checkJ
 refine W_enter (args := [.pointer (some ⟨gx, 0, none⟩), .pointer (some ⟨gr, 0, none⟩), str p]) 39 Tryz.func88 rfl rfl rfl (W_sub [(0, .pointer (some ⟨gx, 0, none⟩)), (1, .pointer (some ⟨gr, 0, none⟩)), (2, str p)] ?_ ⟨rfl, rfl, rfl, trivial⟩)
 have hcw := Chg.refl (fun k => T k ∨ k = gx ∨ v.ownBlock = some k) w
 refine W_rs (sa rfl rfl (Wn (tN (W_seq (W_rs (sm rfl rfl (st (X.nilChk rfl) rfl (st (X.fa fa129_1 rfl) rfl (st (X.ldL rfl hB Tryz.underlying3 rfl rfl) rfl (st (X.gtr rfl rfl) rfl ?_))))))))))
 refine Wn (tN (W_if rfl (fun h12 => ?_) (fun h12 => ?_)))
 ·first | replace h12 := of_decide_eq_true h12 | replace h12 := of_decide_eq_false (notT h12) | replace h12 := notT h12 | skip
  refine W_rs (sa rfl rfl (Wn (tN (W_ret (tR ?_)))))
  rw [if_pos (.inr (by show 0 < x.open_; omega))]
  exact (rT rfl rfl ⟨rfl, v, T, ⟨⟨go, la, hB, hla⟩, hR, hF⟩, fun k hk => .inl hk, fun k hk => .inl hk, hcw⟩).1
 ·first | replace h12 := of_decide_eq_false h12 | replace h12 := of_decide_eq_true (notF h12) | replace h12 := notF h12 | skip
  rw [if_neg (by rintro (e | e); cases e; exact absurd (show 0 < x.open_ from e) (by omega))]
  refine W_skip (tN (W_seq (W_rs (sm rfl rfl (st (X.lenS rfl rfl Tryz.underlying9) rfl (st (X.gtr rfl rfl) rfl (Wn (tN (W_if rfl (fun h15 => ?_) (fun h15 => ?_))))))))))
  ·first | replace h15 := of_decide_eq_true h15 | replace h15 := of_decide_eq_false (notT h15) | replace h15 := notT h15 | skip
   refine W_rs (sa rfl rfl (Wn (tN (W_ret (tR ?_)))))
   rw [if_pos (by omega)]
   exact (rT rfl rfl ⟨rfl, v, T, ⟨⟨go, la, hB, hla⟩, hR, hF⟩, fun k hk => .inl hk, fun k hk => .inl hk, hcw⟩).1
  ·first | replace h15 := of_decide_eq_false h15 | replace h15 := of_decide_eq_true (notF h15) | replace h15 := notF h15 | skip
   rw [if_neg (by omega)]
   refine W_skip (tN (W_rs (sm rfl rfl (sm rfl rfl (st (X.nilChk rfl) rfl (st (X.fa fa129_0 rfl) rfl (st (X.fa fa126_2 rfl) rfl (st (X.ldL rfl hB Tryz.underlying3 rfl rfl) rfl (sc _ Tryz.func114 rfl (by kernel_rfl) rfl rfl ((Num_any x.next _ (by omega) (by omega)).mono ?_))))))))))
   rintro e_ w1 ⟨rfl, hb⟩
   refine cR ?_
   replace hcw := hcw.then_below hb
   replace hB := hB.bel hb
   replace hR := hR.bel hb
   replace hF := hF.bel hb
   have hz_w1 := hb.size
   clear hb
   refine sm rfl rfl (st (X.cat rfl rfl (by omega)) rfl (sc _ Tryz.func115 rfl (by kernel_rfl) rfl rfl ((SealR_any 6 (four x.next ++ p) _ (by rw [List.length_append]; omega)).mono ?_)))
   rintro e_ w2 ⟨rfl, hb⟩
   refine cR ?_
   replace hcw := hcw.then_below hb
   replace hB := hB.bel hb
   replace hR := hR.bel hb
   replace hF := hF.bel hb
   have hz_w2 := hb.size
   clear hb
   refine sc _ Tryz.func83 rfl (by kernel_rfl) rfl rfl ((rdisk (replaceR_any gr D T (sealM 6 (four x.next ++ p)) n _ hF.own.at_ hg hn hfw (by omega)) hB hR hF hcw (fun k hk => .inl hk) (fun k hk => .inl hk)).mono ?_)
   clear hB hR hF
   rintro e_ w3 ⟨rfl, S1, hB, hR, hF, hS1, hcw1, hz1_⟩
   clear hcw
   have hcw := hcw1
   clear hcw1
   refine cR ?_
   obtain ⟨q1, q2, q3, q4⟩ := replace_all hg hst (sealM 6 (four x.next ++ p))
   rw [q1] at hF ⊢
   obtain ⟨e1, D1, hpj⟩ : ∃ e D', replaceJ D (sealM 6 (four x.next ++ p)) = (e, D') := ⟨_, _, rfl⟩
   rw [hpj] at hF ⊢
   simp only at hF ⊢
   have hz_w3 := hz1_
   have hne := hR.ne2 hB (by decide)
   refine sa rfl rfl (Wn (tN (W_seq (W_rs (sm rfl rfl (st (X.eql rfl rfl) rfl (Wn (tN (W_if rfl (fun h28 => ?_) (fun h28 => ?_))))))))))
   ·first | replace h28 := of_decide_eq_true h28 | replace h28 := of_decide_eq_false (notT h28) | replace h28 := notT h28 | skip
    obtain rfl : e1 = 0 := h28
    rw [if_neg (by simp)]
    refine W_rs (sm rfl rfl (sm rfl rfl (st (X.nilChk rfl) rfl (st (X.fa fa129_0 rfl) rfl (st (X.fa fa126_0 rfl) rfl (ssB rfl rfl hB siz9 rfl (by first | decide | simp) (fun w4 hB_ hc_ => ?_)))))))
    replace hB := hB_
    clear hB_
    replace hR := hR.chg hc_ (by first | (show ¬ _ = _; omega) | (intro k_ hk_; simp [Value.ownBlock] at hk_; subst hk_; show ¬ _ = _; omega) | assumption | trivial)
    replace hF := hF.chg hc_ (by first | (show ¬ _ = _; omega) | (intro k_ hk_; simp [Value.ownBlock] at hk_; subst hk_; show ¬ _ = _; omega) | assumption | trivial)
    replace hcw := hcw.next hc_ (fun i_ hi_ => by first | exact .inl hi_ | exact .inl (.inl hi_) | (right; subst hi_; omega) | (left; subst hi_; show _ ≤ _; omega) | (left; subst hi_; assumption))
    have hz_w4 := hc_.size
    clear hc_
    refine Wn (tN (W_reg (sm rfl rfl (st (X.nilChk rfl) rfl (st (X.fa fa129_0 rfl) rfl (st (X.fa fa126_1 rfl) rfl (ssB rfl rfl hB siz42 rfl (by first | decide | simp) (fun w5 hB_ hc_ => ?_))))))))
    replace hB := hB_
    clear hB_
    replace hR := hR.chg hc_ (by first | (show ¬ _ = _; omega) | (intro k_ hk_; simp [Value.ownBlock] at hk_; subst hk_; show ¬ _ = _; omega) | assumption | trivial)
    replace hF := hF.chg hc_ (by first | (show ¬ _ = _; omega) | (intro k_ hk_; simp [Value.ownBlock] at hk_; subst hk_; show ¬ _ = _; omega) | assumption | trivial)
    replace hcw := hcw.next hc_ (fun i_ hi_ => by first | exact .inl hi_ | exact .inl (.inl hi_) | (right; subst hi_; omega) | (left; subst hi_; show _ ≤ _; omega) | (left; subst hi_; assumption))
    have hz_w5 := hc_.size
    clear hc_
    refine Wn (tN (W_rs (sm rfl rfl (sa rfl rfl (Wn (tN (W_ret ?_)))))))
    exact (rT rfl rfl ⟨rfl, .slice none 0 0, S1, ⟨⟨go, la, hB, hla⟩, Row.nil _ _ _, ⟨hF.own, hF.g, fun k hk => by simp [Value.ownBlock] at hk, hF.gB⟩⟩, hS1, fun k hk => by simp [Value.ownBlock] at hk, hcw⟩).1
   ·first | replace h28 := of_decide_eq_false h28 | replace h28 := of_decide_eq_true (notF h28) | replace h28 := notF h28 | skip
    rw [if_pos h28]
    refine W_skip (tN (W_rs (sm rfl rfl (sa rfl rfl (Wn (tN (W_ret ?_)))))))
    exact (rT rfl rfl ⟨rfl, v, S1, ⟨⟨go, la, hB, hla⟩, hR, hF⟩, hS1, fun k hk => .inl hk, hcw⟩).1
end
theorem ROwn.stepE {B g : Nat} {w w' : World} {D D' : DiskD} {S : Nat → Prop} (h : ROwn B w g D S) (hD : RDisk w' g D' (Ext S w w')) (hC : Chg S w w') (hB : B ≤ w.heap.size) : ∃ S', ROwn B w' g D' S' ∧ ∀ k, S' k → S k ∨ w.heap.size ≤ k :=
 ⟨_, h.step hD hC hB, fun _ hk => hk.imp (fun e => e) (fun e => e.1)⟩
theorem bRJ (x : ScM) (a : Option Addr) (n c : Nat) (w : World) : (Instr.build 129 #[(0, seenV x (.slice a n c))]).run Tryz.prog w = .ok (.agg #[str x.state, .slice a n c, .int .i64 x.next, .int .i64 x.good, .int .i64 0, str []]) w := by kernel_rfl
def ROpenPost (B : Nat) (w : World) (gr : Nat) (T : Nat → Prop) (r : (Option ScM × Int) × DiskD) (e : Ending) (w' : World) : Prop :=
  ∃ T', ROwn B w' gr r.2 T' ∧ (∀ k, T' k → T k ∨ w.heap.size ≤ k) ∧ Chg T w w' ∧
    match r.1.1 with
    | none => e = .returned (.tuple #[.pointer none, .int .i64 r.1.2])
    | some x => ∃ gx v, e = .returned (.tuple #[.pointer (some ⟨gx, 0, none⟩), .int .i64 r.1.2]) ∧ RJAll B w' gr gx r.2 (viewJ x).x v T' ∧ w.heap.size ≤ gx ∧ ∀ k, v.ownBlock = some k → w.heap.size ≤ k
set_option maxRecDepth 10000 in
theorem ROpen_any (B gr : Nat) (D : DiskD) (T : Nat → Prop) (n : Nat) (w : World) (hd : ROwn B w gr D T) (hB : B ≤ w.heap.size) (hg : Good n D) (hn : n ≤ 500000000) (hfw : D.files.length ≤ 700000) :
  Calls Tryz.prog 35 #[.pointer (some ⟨gr, 0, none⟩)] w (ROpenPost B w gr T (openR D)) := by
 obtain ⟨s, e, hse⟩ : ∃ a b, readM D jName 0 1073741824 = (a, b) := ⟨_, _, rfl⟩
 have hsl : s.length ≤ 16777216 := by
  have h := hse
  unfold readM at h
  split at h
  ·injection h with h _; rw [← h]; exact Nat.zero_le _
  ·rename_i f hf
   have := (hg.ok.len hf).1
   split at h
   ·injection h with h _; rw [← h]; exact Nat.zero_le _
   ·injection h with h _
    rw [← h, List.length_take, List.length_drop]
    omega
 have hg1 := create_good hg jName
 have hf1 := create_few D jName
 have hsc := (scanM_ok s).good
 unfold openR
 rw [hse]
 simp only
 refine W_enter (args := [.pointer (some ⟨gr, 0, none⟩)]) 41 Tryz.func35 rfl rfl rfl (W_sub [(0, .pointer (some ⟨gr, 0, none⟩))] ?_ ⟨rfl, trivial⟩)
 have hcw := Chg.refl (T) w
 refine W_rs (sa rfl rfl (sa rfl rfl (Wn (tN (W_rs (sm rfl rfl ?_))))))
 have hal := all_any gr D T w hd.at_ hg.ok (hg.bud (by omega))
 rw [hse] at hal
 simp only at hal
 refine sc _ Tryz.func81 rfl (by kernel_rfl) rfl rfl ((hal).mono ?_)
 rintro e_ w1 ⟨rfl, hb⟩
 refine cR ?_
 replace hcw := hcw.then_below hb
 replace hd := hd.bel hb
 have hz_w1 := hb.size
 clear hb
 refine sm rfl rfl (st (X.ext rfl rfl) rfl (st (X.ext rfl rfl) rfl (sa rfl rfl (sa rfl rfl (Wn (tN (W_seq (W_rs (sm rfl rfl (st (X.neq rfl rfl) rfl ?_))))))))))
 refine Wn (tN (W_if rfl (fun h13 => ?_) (fun h13 => ?_)))
 ·first | replace h13 := of_decide_eq_true h13 | replace h13 := of_decide_eq_false (notT h13) | replace h13 := notT h13 | skip
  rw [if_pos h13]
  have hgD := hg1
  have hfD : (createM D jName).2.files.length ≤ 700001 := by omega
  refine W_reg (sm rfl rfl (sc _ Tryz.func50 rfl (by kernel_rfl) rfl rfl ((RCreate_any gr D T _ hd.at_ jName hg.ok (by omega) (by decide)).mono ?_)))
  rintro e_ w2 ⟨rfl, h1, hX⟩
  refine cR ?_
  have hzc := hcw.size
  obtain ⟨S1, hdn, hS0⟩ := hd.stepE h1 hX (by omega)
  have hS1 : ∀ k, S1 k → T k ∨ w.heap.size ≤ k := fun k hk => (hS0 k hk).imp (fun e => e) (fun e => by omega)
  replace hcw := hcw.next hX (fun i hi => .inl hi)
  have hz_w2 := hX.size
  clear hd h1 hX
  have hd := hdn
  clear hdn
  refine Wn (tN (W_rs (sm rfl rfl ?_)))
  have hlo := hd.lo
  have hzc4 := hcw.size
  refine sc _ Tryz.func82 rfl (by kernel_rfl) rfl rfl ((Scan_ref s _ (by omega)).mono ?_)
  rintro e_ w3 ⟨⟨v, rfl, hR, hvo⟩, hb⟩
  refine cR ?_
  replace hcw := hcw.then_below hb
  replace hd := hd.bel hb
  have hz_w3 := hb.size
  clear hb
  obtain ⟨av, cv, rfl, hcv1, hcv2⟩ := hR.shape
  obtain ⟨x, hx⟩ : ∃ x, scanM s = x := ⟨_, rfl⟩
  rw [hx] at hR hvo hsc ⊢
  refine st (X.bld rfl (bRJ _ _ _ _ _)) rfl (sboxA rfl rfl (fun g19 w4 hB19 hg19 hb hl19 => ?_))
  replace hcw := hcw.then_below hb
  replace hd := hd.bel hb
  replace hR := hR.bel hb
  have hz_w4 := hb.size
  clear hb
  have hF : RF B w4 gr g19 _ (.slice av x.done.length cv) _ := ⟨hd, fun e => by have := (hlo _ e).2; omega, fun k hk => ⟨fun e => by have := (hlo _ e).2; have := hvo k hk; omega, by have := hvo k hk; omega⟩, by omega⟩
  have hB19' : Blk w4 g19 129 #[str x.state, .slice av x.done.length cv, .int .i64 x.next, .int .i64 x.good, .int .i64 0, str []] := hB19
  clear hB19
  have hB19 := hB19'
  clear hB19'
  refine sa rfl rfl (Wn (tN (W_seq (W_rs (sm rfl rfl (st (X.nilChk rfl) rfl (st (X.fa fa129_0 rfl) rfl (st (X.fa fa126_3 rfl) rfl (st (X.ldL rfl hB19 Tryz.underlying3 rfl rfl) rfl (sm rfl rfl ?_))))))))))
  refine st (X.lenS rfl rfl Tryz.underlying9) rfl (st (X.lss rfl rfl) rfl (Wn (tN (W_if rfl (fun h27 => ?_) (fun h27 => ?_)))))
  ·first | replace h27 := of_decide_eq_true h27 | replace h27 := of_decide_eq_false (notT h27) | replace h27 := notT h27 | skip
   rw [if_pos (show x.good < s.length by omega)]
   refine W_rs (sm rfl rfl (sm rfl rfl (sm rfl rfl (st (X.nilChk rfl) rfl (st (X.fa fa129_0 rfl) rfl (st (X.fa fa126_3 rfl) rfl (st (X.ldL rfl hB19 Tryz.underlying3 rfl rfl) rfl (st (X.toS (j := x.good) rfl rfl Tryz.underlying9 rfl (by omega)) rfl (sc _ Tryz.func83 rfl (by kernel_rfl) rfl rfl ((rdisk (replaceR_any gr _ _ (s.take x.good) (n + 1) _ hF.own.at_ hgD (by omega) (by omega) (by rw [List.length_take]; omega)) hB19 hR hF hcw (fun k hk => hk) hS1).mono ?_))))))))))
   clear hB19 hR hF
   rintro e_ w5 ⟨rfl, S2, hB19, hR, hF, hS2, hcw, hz2_⟩
   refine cR ?_
   obtain ⟨e3, D3, hp3⟩ : ∃ e D', replaceR (createM D jName).2 (s.take x.good) = (e, D') := ⟨_, _, rfl⟩
   rw [hp3] at hF ⊢
   simp only at hF ⊢
   refine sa rfl rfl (Wn (tN (W_rs (sm rfl rfl (st (X.neq rfl rfl) rfl (Wn (tN (W_if rfl (fun h38 => ?_) (fun h38 => ?_)))))))))
   ·first | replace h38 := of_decide_eq_true h38 | replace h38 := of_decide_eq_false (notT h38) | replace h38 := notT h38 | skip
    rw [if_pos h38]
    refine W_rs (sm rfl rfl (sa rfl rfl (sa rfl rfl (Wn (tN (W_ret (tR ?_)))))))
    exact (rTT rfl rfl rfl ⟨S2, hF.own, hS2, hcw, rfl⟩).1
   ·first | replace h38 := of_decide_eq_false h38 | replace h38 := of_decide_eq_true (notF h38) | replace h38 := notF h38 | skip
    rw [if_neg h38]
    refine W_skip (tN (W_rs (sm rfl rfl (sa rfl rfl (sa rfl rfl (Wn (tN (W_ret ?_))))))))
    exact (rTT rfl rfl rfl ⟨S2, hF.own, hS2, hcw, g19, _, rfl, ⟨⟨_, _, hB19, fun e => absurd e (Nat.lt_irrefl 0)⟩, hR, hF⟩, by omega, fun k hk => by have := hvo k hk; omega⟩).1
  ·first | replace h27 := of_decide_eq_false h27 | replace h27 := of_decide_eq_true (notF h27) | replace h27 := notF h27 | skip
   rw [if_neg (show ¬ (x.good < s.length) by omega)]
   refine W_skip (tN (W_rs (sm rfl rfl (sa rfl rfl (sa rfl rfl (Wn (tN (W_ret ?_))))))))
   exact (rTT rfl rfl rfl ⟨_, hF.own, hS1, hcw, g19, _, rfl, ⟨⟨_, _, hB19, fun e => absurd e (Nat.lt_irrefl 0)⟩, hR, hF⟩, by omega, fun k hk => by have := hvo k hk; omega⟩).1
 ·first | replace h13 := of_decide_eq_false h13 | replace h13 := of_decide_eq_true (notF h13) | replace h13 := notF h13 | skip
  rw [if_neg h13]
  have hgD : Good (n + 1) D := hg.mono (by omega)
  have hfD : D.files.length ≤ 700001 := by omega
  have hS1 : ∀ k, T k → T k ∨ w.heap.size ≤ k := fun k hk => .inl hk
  refine W_skip (tN (W_rs (sm rfl rfl ?_)))
  have hlo := hd.lo
  have hzc4 := hcw.size
  refine sc _ Tryz.func82 rfl (by kernel_rfl) rfl rfl ((Scan_ref s _ (by omega)).mono ?_)
  rintro e_ w6 ⟨⟨v, rfl, hR, hvo⟩, hb⟩
  refine cR ?_
  replace hcw := hcw.then_below hb
  replace hd := hd.bel hb
  have hz_w6 := hb.size
  clear hb
  obtain ⟨av, cv, rfl, hcv1, hcv2⟩ := hR.shape
  obtain ⟨x, hx⟩ : ∃ x, scanM s = x := ⟨_, rfl⟩
  rw [hx] at hR hvo hsc ⊢
  refine st (X.bld rfl (bRJ _ _ _ _ _)) rfl (sboxA rfl rfl (fun g19 w7 hB19 hg19 hb hl19 => ?_))
  replace hcw := hcw.then_below hb
  replace hd := hd.bel hb
  replace hR := hR.bel hb
  have hz_w7 := hb.size
  clear hb
  have hF : RF B w7 gr g19 _ (.slice av x.done.length cv) _ := ⟨hd, fun e => by have := (hlo _ e).2; omega, fun k hk => ⟨fun e => by have := (hlo _ e).2; have := hvo k hk; omega, by have := hvo k hk; omega⟩, by omega⟩
  have hB19' : Blk w7 g19 129 #[str x.state, .slice av x.done.length cv, .int .i64 x.next, .int .i64 x.good, .int .i64 0, str []] := hB19
  clear hB19
  have hB19 := hB19'
  clear hB19'
  refine sa rfl rfl (Wn (tN (W_seq (W_rs (sm rfl rfl (st (X.nilChk rfl) rfl (st (X.fa fa129_0 rfl) rfl (st (X.fa fa126_3 rfl) rfl (st (X.ldL rfl hB19 Tryz.underlying3 rfl rfl) rfl (sm rfl rfl ?_))))))))))
  refine st (X.lenS rfl rfl Tryz.underlying9) rfl (st (X.lss rfl rfl) rfl (Wn (tN (W_if rfl (fun h27 => ?_) (fun h27 => ?_)))))
  ·first | replace h27 := of_decide_eq_true h27 | replace h27 := of_decide_eq_false (notT h27) | replace h27 := notT h27 | skip
   rw [if_pos (show x.good < s.length by omega)]
   refine W_rs (sm rfl rfl (sm rfl rfl (sm rfl rfl (st (X.nilChk rfl) rfl (st (X.fa fa129_0 rfl) rfl (st (X.fa fa126_3 rfl) rfl (st (X.ldL rfl hB19 Tryz.underlying3 rfl rfl) rfl (st (X.toS (j := x.good) rfl rfl Tryz.underlying9 rfl (by omega)) rfl (sc _ Tryz.func83 rfl (by kernel_rfl) rfl rfl ((rdisk (replaceR_any gr _ _ (s.take x.good) (n + 1) _ hF.own.at_ hgD (by omega) (by omega) (by rw [List.length_take]; omega)) hB19 hR hF hcw (fun k hk => hk) hS1).mono ?_))))))))))
   clear hB19 hR hF
   rintro e_ w8 ⟨rfl, S2, hB19, hR, hF, hS2, hcw, hz2_⟩
   refine cR ?_
   obtain ⟨e3, D3, hp3⟩ : ∃ e D', replaceR D (s.take x.good) = (e, D') := ⟨_, _, rfl⟩
   rw [hp3] at hF ⊢
   simp only at hF ⊢
   refine sa rfl rfl (Wn (tN (W_rs (sm rfl rfl (st (X.neq rfl rfl) rfl (Wn (tN (W_if rfl (fun h38 => ?_) (fun h38 => ?_)))))))))
   ·first | replace h38 := of_decide_eq_true h38 | replace h38 := of_decide_eq_false (notT h38) | replace h38 := notT h38 | skip
    rw [if_pos h38]
    refine W_rs (sm rfl rfl (sa rfl rfl (sa rfl rfl (Wn (tN (W_ret (tR ?_)))))))
    exact (rTT rfl rfl rfl ⟨S2, hF.own, hS2, hcw, rfl⟩).1
   ·first | replace h38 := of_decide_eq_false h38 | replace h38 := of_decide_eq_true (notF h38) | replace h38 := notF h38 | skip
    rw [if_neg h38]
    refine W_skip (tN (W_rs (sm rfl rfl (sa rfl rfl (sa rfl rfl (Wn (tN (W_ret ?_))))))))
    exact (rTT rfl rfl rfl ⟨S2, hF.own, hS2, hcw, g19, _, rfl, ⟨⟨_, _, hB19, fun e => absurd e (Nat.lt_irrefl 0)⟩, hR, hF⟩, by omega, fun k hk => by have := hvo k hk; omega⟩).1
  ·first | replace h27 := of_decide_eq_false h27 | replace h27 := of_decide_eq_true (notF h27) | replace h27 := notF h27 | skip
   rw [if_neg (show ¬ (x.good < s.length) by omega)]
   refine W_skip (tN (W_rs (sm rfl rfl (sa rfl rfl (sa rfl rfl (Wn (tN (W_ret ?_))))))))
   exact (rTT rfl rfl rfl ⟨_, hF.own, hS1, hcw, g19, _, rfl, ⟨⟨_, _, hB19, fun e => absurd e (Nat.lt_irrefl 0)⟩, hR, hF⟩, by omega, fun k hk => by have := hvo k hk; omega⟩).1
end Go.Proofs.YtnijmegalgoipaaGreatDoor
namespace Go.Proofs.YtnijmegalgoipaaGreatDoor
section
variable {D : DiskD} {n m : Key}
theorem oth_remove (h : D.stops = false) (hs : Rising D.files) (hm : m ≠ n) : mget (removeM D n).2.files m = mget D.files m := by
 unfold removeM
 rw [opQ h]
 unfold fileM
 split
 ·rfl
 ·dsimp only
  rw [mget_mdel hs.nodup, if_neg hm]
theorem oth_create (h : D.stops = false) (hs : Rising D.files) (hm : m ≠ n) : mget (createM D n).2.files m = mget D.files m := by
 unfold createM
 rw [opQ h]
 split
 ·split
  ·rfl
  ·dsimp only
   rw [mget_sput hs, if_neg hm]
 ·rfl
theorem oth_append (h : D.stops = false) (hs : Rising D.files) (hm : m ≠ n) (d : List UInt8) : mget (appendM D n d).2.files m = mget D.files m := by
 unfold appendM
 rw [opQ h]
 unfold fileM
 split
 ·rfl
 ·dsimp only
  unfold putM
  split
  ·rfl
  ·split
   ·rfl
   ·dsimp only
    rw [mget_sput hs, if_neg hm]
end
section
variable {D : DiskD} {n : Key} {f : FileD}
theorem append_ref (h : D.stops = false) (d : List UInt8) : (appendM D n d).2.refused ≤ D.refused + 1 := by
 unfold appendM
 rw [opQ h]
 unfold fileM
 split
 ·dsimp only; omega
 ·dsimp only
  unfold putM
  split
  ·dsimp only; omega
  ·split <;> dsimp only <;> omega
theorem remove_ref (h : D.stops = false) : (removeM D n).2.refused = D.refused := by
 unfold removeM
 rw [opQ h]
 unfold fileM
 split <;> rfl
theorem sync_form (h : D.stops = false) (hg : mget D.files n = some f) : syncM D n = (0, { D with files := sput D.files n (lastsM f) }) := by
 unfold syncM
 rw [opQ h, fileM_some hg]
theorem rename_form {b : Key} (h : D.stops = false) (hg : mget D.files n = some f) (hn : nameOk b = true) (hne : n ≠ b) : renameM D n b = (0, { D with files := sput (mdel D.files n) b f, used := D.used - lenAt D b }) := by
 unfold renameM
 rw [opQ h, if_pos hn, fileM_some hg, if_neg hne]
end
section
variable {D : DiskD} {n : Nat}
theorem replace_good2 (hg : Good n D) (h : D.stops = false) (s : List UInt8) : Good (n + 2) (replaceJ D s).2 := by
 have gB := replaceJ_good hg s
 have g1 := remove_good hg jNew
 have g2 := create_good g1 jNew
 have g3 := append_good g2 jNew s
 have g4 := sync_good g3 jNew
 have s1 := remove_stops (n := jNew) h
 have s2 := create_stops (n := jNew) s1
 have s3 := append_stops (n := jNew) s2 s
 have s4 := sync_stops (n := jNew) s3
 obtain ⟨v1, e1⟩ := remove_val (n := jNew) h hg.ok.srt
 obtain ⟨v2, e2⟩ := create_val (n := jNew) s1 g1.ok.srt (by decide) e1
 obtain ⟨v3, f3, e3⟩ := append_val (n := jNew) s2 e2 g2.ok.srt s
 have hne : jName ≠ jNew := by decide
 have hold : ∀ k, k ≠ jNew → mget (appendM (createM (removeM D jNew).2 jNew).2 jNew s).2.files k = mget D.files k := fun k hk => by
  rw [oth_append s2 g2.ok.srt hk, oth_create s1 g1.ok.srt hk, oth_remove h hg.ok.srt hk]
 have hr3 := append_ref (n := jNew) s2 s
 have hr2 := g2.ref
 have hf3 := append_few g2.ok.srt jNew s
 have hf2 := g2.few
 unfold replaceJ at gB ⊢
 rw [if_neg (show ¬ ((removeM D jNew).1 ≠ 0 ∧ (removeM D jNew).1 ≠ 15) by omega), if_neg (show ¬ ((createM (removeM D jNew).2 jNew).1 ≠ 0) by omega)] at gB ⊢
 obtain ⟨D3, hD3⟩ : ∃ D3, (appendM (createM (removeM D jNew).2 jNew).2 jNew s).2 = D3 := ⟨_, rfl⟩
 rw [hD3] at gB g3 g4 s3 s4 e3 hold hr3 hf3 ⊢
 by_cases ha : (appendM (createM (removeM D jNew).2 jNew).2 jNew s).1 ≠ 0
 ·rw [if_pos ha] at gB ⊢
  have gf := remove_few D3 jNew
  refine ⟨gB.ok, fun k f hf => ?_, ?_, ?_⟩
  ·by_cases hk : k = jNew
   ·subst hk
    dsimp only at hf
    rw [(remove_val s3 g3.ok.srt).2] at hf
    cases hf
   ·dsimp only at hf
    rw [oth_remove s3 g3.ok.srt hk, hold k hk] at hf
    have := hg.pend k f hf
    omega
  ·dsimp only
   rw [remove_ref s3]
   omega
  ·dsimp only
   omega
 ·have e4 : mget (sput D3.files jNew (lastsM f3)) jNew = some (lastsM f3) := by rw [mget_sput g3.ok.srt, if_pos rfl]
  have hsy := sync_form s3 e3
  have hre : renameM { D3 with files := sput D3.files jNew (lastsM f3) } jNew jName = (0, { D3 with files := sput (mdel (sput D3.files jNew (lastsM f3)) jNew) jName (lastsM f3), used := D3.used - lenAt { D3 with files := sput D3.files jNew (lastsM f3) } jName }) := rename_form s3 e4 (by decide) (Ne.symm hne)
  have hs4 : Rising (sput D3.files jNew (lastsM f3)) := g3.ok.srt.sput _ _
  rw [if_neg ha, hsy] at gB ⊢
  dsimp only at gB ⊢
  rw [if_neg (show ¬ ((0 : Int) ≠ 0) by simp), hre] at gB ⊢
  refine ⟨gB.ok, fun k f hf => ?_, ?_, ?_⟩
  ·dsimp only at hf
   rw [mget_sput (hs4.del _)] at hf
   by_cases hk : k = jName
   ·rw [if_pos hk] at hf
    injection hf with hf
    subst hf
    exact ⟨Nat.zero_le _, Nat.zero_le _⟩
   ·rw [if_neg hk, mget_mdel hs4.nodup] at hf
    by_cases hk2 : k = jNew
    ·rw [if_pos hk2] at hf
     cases hf
    ·rw [if_neg hk2, mget_sput g3.ok.srt, if_neg hk2, hold k hk2] at hf
     have := hg.pend k f hf
     omega
  ·dsimp only
   omega
  ·dsimp only
   have h1 := sput_len (mdel (sput D3.files jNew (lastsM f3)) jNew) jName (lastsM f3)
   have h2 := mdel_len (sput D3.files jNew (lastsM f3)) jNew
   have h3 := sput_len_same g3.ok.srt e3 (lastsM f3)
   omega
theorem open_good2 (hg : Good n D) (h : D.stops = false) : Good (n + 3) (openJ D).2 := by
 have hmd : Good (n + 1) (madeJ D).2 ∧ (madeJ D).2.stops = false := by
  refine ⟨madeJ_good hg, ?_⟩
  unfold madeJ
  split
  ·exact create_stops h
  ·exact h
 have h2 := fun s => (replace_good2 hmd.1 hmd.2 s)
 unfold openJ
 split
 ·exact hmd.1.mono (by omega)
 split
 ·exact hmd.1.mono (by omega)
 split
 ·split <;> exact h2 _
 ·exact hmd.1.mono (by omega)
structure JStep (D : DiskD) (x : ScM) (n : Nat) (r : DiskD × JrM) : Prop where
  lame : r.2.lame = false
  stops : r.1.stops = false
  has : (mget r.1.files jName).isSome = true
  next : r.2.x.next ≤ x.next + 1
  done : r.2.x.done.length ≤ x.done.length + 1
  good : Good (n + 1000) r.1
variable {x : ScM}
theorem intent_step (hg : Good n D) (h : D.stops = false) (hj : (mget D.files jName).isSome = true) (p : List UInt8) (hp : p.length ≤ 900) : JStep D x n (intentJ D ⟨x, false⟩ p).2 := by
 obtain ⟨_, q2, q3, q4⟩ := put_all hg h hj 4 (four x.next ++ p)
 have hgi := (intentJ_good hg ⟨x, false⟩ p).mono (m := n + 1000) (by omega)
 unfold intentJ at hgi ⊢
 split
 ·exact ⟨rfl, h, hj, Nat.le_succ _, Nat.le_succ _, hg.mono (by omega)⟩
 ·rename_i h1
  rw [if_neg h1] at hgi
  split
  ·exact ⟨rfl, h, hj, Nat.le_succ _, Nat.le_succ _, hg.mono (by omega)⟩
  ·rename_i h2
   rw [if_neg h2] at hgi
   split
   ·rename_i h3
    rw [if_pos h3] at hgi
    have e := q3.resolve_left h3
    exact ⟨by show lameOf _ = false; dsimp only; rw [e]; rfl, q2, q4, Nat.le_succ _, Nat.le_succ _, hgi⟩
   ·rename_i h3
    rw [if_neg h3] at hgi
    exact ⟨rfl, q2, q4, Nat.le_refl _, Nat.le_succ _, hgi⟩
theorem commit_step (hg : Good n D) (h : D.stops = false) (hj : (mget D.files jName).isSome = true) (id : Int) : JStep D x n (commitJ D ⟨x, false⟩ id).2 := by
 obtain ⟨_, q2, q3, q4⟩ := put_all hg h hj 5 (four id)
 have hgi := (commitJ_good hg ⟨x, false⟩ id).mono (m := n + 1000) (by omega)
 by_cases hb : id < 1 ∨ id ≠ (x.open_ : Int)
 ·rw [commit_bad hb]
  exact ⟨rfl, h, hj, Nat.le_succ _, Nat.le_succ _, hg.mono (by omega)⟩
 ·rw [commit_ok hb] at hgi ⊢
  split
  ·rename_i h3
   rw [if_pos h3] at hgi
   have e := q3.resolve_left h3
   exact ⟨by show lameOf _ = false; rw [e]; rfl, q2, q4, Nat.le_succ _, Nat.le_succ _, hgi⟩
  ·rename_i h3
   rw [if_neg h3] at hgi
   exact ⟨rfl, q2, q4, Nat.le_succ _, by show (x.done ++ [x.last]).length ≤ _; rw [List.length_append]; exact Nat.le_refl _, hgi⟩
theorem abort_step (hg : Good n D) (h : D.stops = false) (hj : (mget D.files jName).isSome = true) (id : Int) : JStep D x n (D, (abortJ ⟨x, false⟩ id).2) := by
 by_cases hb : id < 1 ∨ id ≠ (x.open_ : Int)
 ·rw [abort_bad hb]
  exact ⟨rfl, h, hj, Nat.le_succ _, Nat.le_succ _, hg.mono (by omega)⟩
 ·rw [abort_ok hb]
  exact ⟨rfl, h, hj, Nat.le_succ _, Nat.le_succ _, hg.mono (by omega)⟩
theorem check_step (hg : Good n D) (h : D.stops = false) (hj : (mget D.files jName).isSome = true) (p : List UInt8) : JStep D x n (checkJ D ⟨x, false⟩ p).2 := by
 obtain ⟨_, q2, q3, q4⟩ := replace_all hg h (sealM 6 (four x.next ++ p))
 have hgi := (replace_good2 hg h (sealM 6 (four x.next ++ p))).mono (m := n + 1000) (by omega)
 unfold checkJ
 split
 ·exact ⟨rfl, h, hj, Nat.le_succ _, Nat.le_succ _, hg.mono (by omega)⟩
 ·split
  ·exact ⟨rfl, h, hj, Nat.le_succ _, Nat.le_succ _, hg.mono (by omega)⟩
  ·split
   ·exact ⟨rfl, q2, q4 hj, Nat.le_succ _, Nat.le_succ _, hgi⟩
   ·exact ⟨rfl, q2, q4 hj, Nat.le_succ _, Nat.zero_le _, hgi⟩
end
end Go.Proofs.YtnijmegalgoipaaGreatDoor
namespace Go.Proofs.YtnijmegalgoipaaGreatDoor
open Go.ChangeShapes Go.WideShapes Go.ChangeAt Go.RowKit
structure Op16 where
  ask : Int
  id : Int
  text : List UInt8
  picks : List Int
  vp : Value
def Op16.cells (o : Op16) : List Value := [.int .i64 o.ask, .int .i64 o.id, str o.text, o.vp]
theorem Op16.cells_length (o : Op16) : o.cells.length = 4 := rfl
structure Op16.ok (w : World) (o : Op16) : Prop where
  id : -9223372036854775808 ≤ o.id ∧ o.id ≤ 9223372036854775807
  picks : Reads w 1 o.vp o.picks.length (o.picks.map fun k => .int .i64 k)
theorem Op16.ok.bel {w w' : World} {o : Op16} (h : o.ok w) (hb : Below w.heap.size w w') : o.ok w' := ⟨h.id, h.picks.belowAll hb⟩
def Ops16At (w : World) (v : Value) (l : List Op16) : Prop := Reads w 4 v l.length (l.flatMap Op16.cells) ∧ ∀ o ∈ l, o.ok w
theorem Ops16At.bel {w w' : World} {v : Value} {l : List Op16} (h : Ops16At w v l) (hb : Below w.heap.size w w') : Ops16At w' v l := ⟨h.1.belowAll hb, fun o ho => (h.2 o ho).bel hb⟩
instance : Inhabited Op16 := ⟨⟨0, 0, [], [], .bool false⟩⟩
theorem len4 {α : Type} {l : List α} (h : l.length = 4) : ∃ a b c d, l = [a, b, c, d] := by
 match l, h with
 | [a, b, c, d], _ => exact ⟨a, b, c, d, rfl⟩
section
variable {H : Type} {enc : TypeId × Value → H} {W : World} {base : Nat} {sp : Nat → Bool} {held : Bool}
theorem trod_struct4 {P : Program} {t : TypeId} {f0 f1 f2 f3 : Field} {fuel : Nat} {cs : List Value} {x : DataW H × List MemPlace} (ht : P.underlying t = some (.struct #[f0, f1, f2, f3])) (h : DataW.trod enc P W base sp held fuel t cs = some x) :
  ∃ y0 y1 y2 y3 n, cs.length = P.cellsOf t ∧ DataW.trod enc P W base sp held n f0.type ((cs.drop f0.offset).take (P.cellsOf f0.type)) = some y0 ∧ DataW.trod enc P W base sp held n f1.type ((cs.drop f1.offset).take (P.cellsOf f1.type)) = some y1 ∧
   DataW.trod enc P W base sp held n f2.type ((cs.drop f2.offset).take (P.cellsOf f2.type)) = some y2 ∧ DataW.trod enc P W base sp held n f3.type ((cs.drop f3.offset).take (P.cellsOf f3.type)) = some y3 := by
 obtain ⟨xs, n, _, rfl, hl, hlen, hf⟩ := DataW.trod_struct ht h
 match xs, hlen with
 | [y0, y1, y2, y3], _ => exact ⟨y0, y1, y2, y3, n, hl, by simpa using hf 0 f0 rfl, by simpa using hf 1 f1 rfl, by simpa using hf 2 f2 rfl, by simpa using hf 3 f3 rfl⟩
theorem cOp16 : Tryz.prog.cellsOf 73 = 4 := by kernel_rfl
set_option maxRecDepth 4000 in
theorem open_op16 (fuel : Nat) (cs : List Value) (x : DataW H × List MemPlace) (h : DataW.trod enc Tryz.prog W base sp held fuel 73 cs = some x) : ∃ o : Op16, cs = o.cells ∧ o.ok W := by
 obtain ⟨y0, y1, y2, y3, n, hl, h0, h1, h2, h3⟩ := trod_struct4 Tryz.underlying73 h
 rw [cOp16] at hl
 obtain ⟨a, b, c, d, rfl⟩ := len4 hl
 simp only [cInt, cStr, cInts] at h0 h1 h2 h3
 obtain ⟨k0, e0, _, _⟩ := DataW.trod_int Tryz.underlying3 h0
 obtain ⟨k1, e1, _, w1⟩ := DataW.trod_int Tryz.underlying3 h1
 obtain ⟨s2, e2, _, _⟩ := DataW.trod_string Tryz.underlying9 h2
 obtain ⟨v, l, e3, hR⟩ := open_intsL _ _ _ h3
 simp at e0 e1 e2 e3
 subst e0 e1 e2 e3
 exact ⟨⟨k0, k1, s2.data.toList, l, d⟩, rfl, wf_i64 w1, hR⟩
set_option maxRecDepth 4000 in
theorem open_ops16 {r : Reach} {b0 : Nat} {v : Value} {d : DataW H} {p : List MemPlace} (hv : Value.okWide Tryz.prog W r b0 59 v) (h : DataW.Trod enc Tryz.prog W base sp held 59 v d p) :
  ∃ l : List Op16, Ops16At W v l := by
 obtain ⟨fuel, hf⟩ := h
 obtain ⟨a0, len0, cap0, rfl⟩ := okWide_slice Tryz.underlying59 hv
 obtain ⟨v', l, e, hR, hp⟩ := open_rows Op16.cells (fun o => o.ok W) Tryz.underlying59 cOp16 (by decide) open_op16 hf
 simp [Value.cells] at e
 exact ⟨l, e ▸ hR, fun o ho => (hp o ho).1⟩
end
end Go.Proofs.YtnijmegalgoipaaGreatDoor
namespace Go.Proofs.YtnijmegalgoipaaGreatDoor
open Go.RowKit
def aj1 : DiskD := (createM (newM 5000) jName).2
def ajJ : JrM := ⟨⟨[], [], 1, 0, 0, []⟩, false⟩
theorem aj_open : openJ (newM 5000) = ((some ajJ, 0), aj1) := by kernel_rfl
theorem aj_int : (intentJ aj1 ajJ [97]).1 = (1, 0) ∧ (intentJ aj1 ajJ [97]).2.2 = ⟨⟨[], [], 2, 0, 1, [97]⟩, false⟩ := by constructor <;> kernel_rfl
def aj2 : DiskD := (intentJ aj1 ajJ [97]).2.1
def ajK : JrM := ⟨⟨[], [], 2, 0, 1, [97]⟩, false⟩
theorem aj_com : (commitJ aj2 ajK 1).1 = 0 ∧ (commitJ aj2 ajK 1).2.2 = ⟨⟨[], [[97]], 2, 0, 0, []⟩, false⟩ := by constructor <;> kernel_rfl
def aj3 : DiskD := (commitJ aj2 ajK 1).2.1
def ajL : JrM := ⟨⟨[], [[97]], 2, 0, 0, []⟩, false⟩
theorem aj1_good : Good 1 aj1 := create_good (Good.new (by omega)) _
theorem aj2_good : Good 16 aj2 := (intentJ_good aj1_good ajJ [97]).mono (by decide)
theorem JAll.below {w0 w w' : World} {gd gj : Nat} {D : DiskD} {J : JrM} {v : Value} {S : Nat → Prop} (h : JAll w0.heap.size w gd gj D J v S) (hb : Below w0.heap.size w0 w) (hC : Chg (fun k => S k ∨ k = gj ∨ v.ownBlock = some k) w w') : Below w0.heap.size w0 w' :=
 bchg hb hC (fun k hk => by
  rcases hk with hk | rfl | hk
  ·exact (h.jf.own.lo k hk).1
  ·exact h.jf.gB
  ·exact (h.jf.v k hk).2)
set_option maxRecDepth 10000 in
theorem awake16_any (w : World) : Calls Tryz.prog 17 #[] w fun e w' => e = .returned (.bool true) ∧ Below w.heap.size w w' := by
 refine W_enter (args := []) 64 Tryz.func17 rfl rfl rfl ?_
 have hbw := Below.refl w.heap.size w
 refine W_rs (sa rfl rfl (Wn (tN (W_rs (sc _ Tryz.func9 rfl (by kernel_rfl) rfl rfl ((New_ok 5000 _ (by omega)).mono ?_))))))
 rintro e_ w1 ⟨gd, S0, rfl, h0, hS0, hb⟩
 refine cR ?_
 replace hbw := bthen hbw hb
 have hz_w1 := hb.size
 clear hb
 have hd : Own w.heap.size w1 gd (newM 5000) S0 := ⟨h0, fun k hk => by have := hS0 k hk; have := hbw.size; omega⟩
 clear h0 hS0
 refine sm rfl rfl (st (X.ext rfl rfl) rfl (st (X.ext rfl rfl) rfl (sa rfl rfl (sa rfl rfl (Wn (tN (W_rs (sm rfl rfl ?_))))))))
 have hO := Open_any w.heap.size gd (newM 5000) S0 0 w1 hd hbw.size (Good.new (by omega)) (by omega)
 rw [aj_open] at hO
 refine sc _ Tryz.func18 rfl (by kernel_rfl) rfl rfl ((hO).mono ?_)
 rintro e_ w2 ⟨S1, hd1, hS1, hX, gj, v1, rfl, hj, hgj, hv1⟩
 refine cR ?_
 replace hbw := bchg hbw hX (fun k hk => (hd.lo k hk).1)
 clear hd hd1 hX hO
 refine sm rfl rfl (st (X.ext rfl rfl) rfl (st (X.ext rfl rfl) rfl (sa rfl rfl (sa rfl rfl (Wn (tN (W_seq (W_rs (sm rfl rfl (st (X.neq rfl rfl) rfl ?_))))))))))
 refine sbN rfl (rfl) rfl (gY (g := 20) rfl rfl rfl (sm rfl rfl (gY (g := 20) rfl rfl rfl (st (X.neq rfl rfl) rfl (st (X.pickF rfl rfl) rfl (sbN rfl (rfl) rfl (gY (g := 24) rfl rfl rfl (sm rfl rfl (gY (g := 24) rfl rfl rfl (st (X.jEq rfl) rfl ?_))))))))))
 refine st (X.pickF rfl rfl) rfl (Wn (tN (W_no rfl (rfl) (W_skip (tN (W_rs (sm rfl rfl ?_)))))))
 have hI := Intent_any w.heap.size gd gj aj1 ajJ v1 S1 w2 hj [97] 1 aj1_good (by omega) (by decide) (by decide)
 rw [aj_int.1, aj_int.2] at hI
 simp only at hI
 refine sc _ Tryz.func19 rfl (by kernel_rfl) rfl rfl ((hI).mono ?_)
 rintro e_ w3 ⟨rfl, v2, S2, hj2, hS2, hv2, hX⟩
 refine cR ?_
 replace hbw := hj.below hbw hX
 clear hj hX hI
 have hj : JAll w.heap.size w3 gd gj aj2 ajK v2 S2 := hj2
 clear hj2
 refine sm rfl rfl (st (X.ext rfl rfl) rfl (st (X.ext rfl rfl) rfl (sa rfl rfl (sa rfl rfl (Wn (tN (W_rs (sm rfl rfl (sm rfl rfl ?_)))))))))
 have hI := Commit_any w.heap.size gd gj aj2 ajK v2 S2 w3 hj 1 16 aj2_good (by omega) (by decide)
 rw [aj_com.1, aj_com.2] at hI
 refine sc _ Tryz.func20 rfl (by kernel_rfl) rfl rfl ((hI).mono ?_)
 rintro e_ w4 ⟨rfl, v3, S3, hj3, hS3, hv3, hX⟩
 refine cR ?_
 replace hbw := hj.below hbw hX
 clear hj hX hI
 have hj : JAll w.heap.size w4 gd gj aj3 ajL v3 S3 := hj3
 clear hj3
 refine sa rfl rfl (Wn (tN (W_rs (sm rfl rfl (sc _ Tryz.func26 rfl (by kernel_rfl) rfl rfl ((Done_any w.heap.size gd gj aj3 ajL v3 S3 _ hj (by decide)).mono ?_))))))
 rintro e_ w5 ⟨v4, rfl, hR, hO4, hb⟩
 refine cR ?_
 replace hbw := bthen hbw hb
 replace hj := hj.bel hb
 have hz_w5 := hb.size
 clear hb
 obtain ⟨g4, o4, c4, hv4_, _⟩ := hR.reads.some_ (show 0 < ajL.x.done.length by decide)
 subst hv4_
 refine sa rfl rfl (Wn (tN (W_rs (sm rfl rfl (st (X.eql rfl rfl) rfl (sbY rfl (rfl) rfl (gY (g := 40) rfl rfl rfl (sm rfl rfl (gY (g := 40) rfl rfl rfl (st (X.eql rfl rfl) rfl ?_))))))))))
 refine st (X.pickT rfl rfl) rfl (sbY rfl (rfl) rfl (gY (g := 44) rfl rfl rfl (sm rfl rfl (gY (g := 44) rfl rfl rfl (st (X.eql rfl rfl) rfl (st (X.pickT rfl rfl) rfl (sbY rfl (rfl) rfl (gY (g := 48) rfl rfl rfl (sm rfl rfl (gY (g := 48) rfl rfl rfl ?_))))))))))
 refine st (X.lenL rfl rfl Tryz.underlying42) rfl (gY (g := 48) rfl rfl rfl (st (X.eql rfl rfl) rfl (st (X.pickT rfl rfl) rfl (sbY rfl (rfl) rfl (gY (g := 53) rfl rfl rfl (sm rfl rfl (gY (g := 53) rfl rfl rfl (st (X.idxA (j := 0) rfl rfl Tryz.underlying42 siz9 rfl (by decide)) rfl (gY (g := 53) rfl rfl rfl (st (X.ld rfl Tryz.underlying9 rfl (by rw [Nat.zero_mul]; exact hR.reads.cellAt (by decide) (j := 0) rfl)) rfl ?_))))))))))
 refine gY (g := 53) rfl rfl rfl (st (X.eqS rfl rfl) rfl (st (X.pickT rfl rfl) rfl (sbY rfl (rfl) rfl (gY (g := 59) rfl rfl rfl (sm rfl rfl (gY (g := 59) rfl rfl rfl (sc _ Tryz.func27 rfl (by kernel_rfl) rfl rfl ((Next_j w.heap.size gd gj aj3 ajL v3 S3 _ hj).mono ?_))))))))
 rintro e_ w_ ⟨rfl, rfl⟩
 refine cR (gY (g := 59) rfl rfl rfl (st (X.eql rfl rfl) rfl (st (X.pickT rfl rfl) rfl (sa rfl rfl (Wn (tN (W_ret ?_)))))))
 exact (rT rfl rfl ⟨rfl, hbw⟩).1
end Go.Proofs.YtnijmegalgoipaaGreatDoor
namespace Go.Proofs.YtnijmegalgoipaaGreatDoor
open Go.RowKit
def Fp (S : Nat → Prop) (g : Nat) (v : Value) (k : Nat) : Prop := S k ∨ k = g ∨ v.ownBlock = some k
section
variable {B gd gr gj gx gk : Nat} {w w' : World} {D D1 D2 : DiskD} {J J' : JrM} {x x' : ScM} {v u : Value} {S T : Nat → Prop} {ty : TypeId} {cs : Array Value}
theorem JAll.fp (h : JAll B w gd gj D J v S) : ∀ k, Fp S gj v k → B ≤ k ∧ k < w.heap.size := fun k hk => by
 rcases hk with e | e | e
 ·exact h.jf.own.lo k e
 ·have := h.jf.gB; have := h.blk.lt; omega
 ·exact ⟨(h.jf.v k e).2, h.row.lt k e⟩
theorem RJAll.fp (h : RJAll B w gr gx D x v T) : ∀ k, Fp T gx v k → B ≤ k ∧ k < w.heap.size := fun k hk => by
 rcases hk with e | e | e
 ·exact h.rf.own.lo k e
 ·have := h.rf.gB; have := h.lt; omega
 ·exact ⟨(h.rf.v k e).2, h.row.lt k e⟩
theorem JAll.off (h : JAll B w gd gj D J v S) {F : Nat → Prop} (hX : Chg F w w') (h1 : ∀ k, F k → ¬ Fp S gj v k) : JAll B w' gd gj D J v S :=
 ⟨h.blk.chg hX (fun e => h1 _ e (.inr (.inl rfl))), h.row.chg hX (fun k hk e => h1 k e (.inr (.inr hk))), ⟨h.jf.own.other hX (fun k hk e => h1 k hk (.inl e)), h.jf.g, h.jf.v, h.jf.gB⟩⟩
theorem RJAll.off (h : RJAll B w gr gx D x v T) {F : Nat → Prop} (hX : Chg F w w') (h1 : ∀ k, F k → ¬ Fp T gx v k) : RJAll B w' gr gx D x v T :=
 h.other hX (fun k hk => ⟨fun e => h1 k hk (.inl e), fun e => h1 k hk (.inr (.inl e)), fun e => h1 k hk (.inr (.inr e))⟩)
structure Two (B : Nat) (w : World) (gd gr gj gx : Nat) (D1 D2 : DiskD) (J : JrM) (x : ScM) (v u : Value) (S T : Nat → Prop) (gk : Nat) (ty : TypeId) (cs : Array Value) : Prop where
  j : JAll B w gd gj D1 J v S
  r : RJAll B w gr gx D2 x u T
  sep : ∀ k, Fp S gj v k → ¬ Fp T gx u k
  blk : Blk w gk ty cs
  nj : ¬ Fp S gj v gk
  nr : ¬ Fp T gx u gk
theorem Two.bel (h : Two B w gd gr gj gx D1 D2 J x v u S T gk ty cs) (hb : Below w.heap.size w w') : Two B w' gd gr gj gx D1 D2 J x v u S T gk ty cs := ⟨h.j.bel hb, h.r.bel hb, h.sep, h.blk.bel hb, h.nj, h.nr⟩
theorem Two.jstep (h : Two B w gd gr gj gx D1 D2 J x v u S T gk ty cs) (hp : JPost B w gd gj D J' v S w') : ∃ v' S', Two B w' gd gr gj gx D D2 J' x v' u S' T gk ty cs ∧ Chg (fun k => B ≤ k) w w' := by
 obtain ⟨v', S', hj, hS, hv, hX⟩ := hp
 have hfp : ∀ k, Fp S' gj v' k → Fp S gj v k ∨ w.heap.size ≤ k := fun k hk => by
  rcases hk with e | e | e
  ·exact (hS k e).imp .inl id
  ·exact .inl (.inr (.inl e))
  ·exact (hv k e).imp (fun e => .inr (.inr e)) id
 have hl := h.r.fp
 refine ⟨v', S', ⟨hj, h.r.off hX (fun k hk => h.sep k hk), fun k hk e => ?_, h.blk.chg hX h.nj, fun e => ?_, h.nr⟩, hX.mono (fun k _ hk => (h.j.fp k hk).1)⟩
 ·rcases hfp k hk with a | a
  ·exact h.sep k a e
  ·have := (hl k e).2; omega
 ·rcases hfp _ e with a | a
  ·exact h.nj a
  ·have := h.blk.lt; omega
theorem Two.rstep (h : Two B w gd gr gj gx D1 D2 J x v u S T gk ty cs) (hp : RJPost B w gr gx D x' u T w') : ∃ u' T', Two B w' gd gr gj gx D1 D J x' v u' S T' gk ty cs ∧ Chg (fun k => B ≤ k) w w' := by
 obtain ⟨u', T', hr, hT, hu, hX⟩ := hp
 have hfp : ∀ k, Fp T' gx u' k → Fp T gx u k ∨ w.heap.size ≤ k := fun k hk => by
  rcases hk with e | e | e
  ·exact (hT k e).imp .inl id
  ·exact .inl (.inr (.inl e))
  ·exact (hu k e).imp (fun e => .inr (.inr e)) id
 have hl := h.j.fp
 refine ⟨u', T', ⟨h.j.off hX (fun k hk e => h.sep k e hk), hr, fun k hk e => ?_, h.blk.chg hX h.nr, h.nj, fun e => ?_⟩, hX.mono (fun k _ hk => (h.r.fp k hk).1)⟩
 ·rcases hfp k e with a | a
  ·exact h.sep k hk a
  ·have := (hl k hk).2; omega
 ·rcases hfp _ e with a | a
  ·exact h.nr a
  ·have := h.blk.lt; omega
end
theorem rjEqP (w : World) (a : Addr) : (binOp .eql 68 (.pointer (some a)) (.pointer none)).run Tryz.prog w = .ok (.bool false) w := by kernel_rfl
theorem rjEqN (w : World) : (binOp .eql 68 (.pointer none) (.pointer none)).run Tryz.prog w = .ok (.bool true) w := by kernel_rfl
theorem jrNeP3 (w : World) (a : Addr) : (binOp .neq 43 (.pointer (some a)) (.pointer none)).run Tryz.prog w = .ok (.bool true) w := by kernel_rfl
section
variable {l : Env} {o : Operand} {p : Option Addr} {a : Addr} {t' ty : TypeId} {w : World}
theorem X.xEq (hx : ev l o = some (.pointer p)) : X Tryz.prog l (.binOp .eql 68 o (.const (.pointer none)) t') ty w (.bool p.isNone) w :=
 X.bin hx rfl guard_ptr (by cases p with | none => exact rjEqN w | some a => exact rjEqP w a)
theorem X.jNe3 (hx : ev l o = some (.pointer (some a))) : X Tryz.prog l (.binOp .neq 43 o (.const (.pointer none)) t') ty w (.bool true) w := X.bin hx rfl guard_ptr (jrNeP3 w a)
end
theorem same_nil (w : World) : Calls Tryz.prog 36 #[.pointer none, .pointer none] w fun e w' => e = .returned (.bool true) ∧ Below w.heap.size w w' := by
 refine W_enter (args := [.pointer none, .pointer none]) 57 Tryz.func36 rfl rfl rfl (W_sub [(0, .pointer none), (1, .pointer none)] ?_ ⟨rfl, rfl, trivial⟩)
 have hbw := Below.refl w.heap.size w
 refine W_rs (sa rfl rfl (Wn (tN (W_seq (W_rs (sm rfl rfl (st (X.xEq rfl) rfl (Wn (tN (W_yes rfl (rfl) ?_))))))))))
 refine W_rs (sm rfl rfl (st (X.jEq rfl) rfl (sbY rfl (rfl) rfl (gY (g := 9) rfl rfl rfl (sm rfl rfl (gY (g := 9) rfl rfl rfl (sc _ Tryz.func25 rfl (by kernel_rfl) rfl rfl ((State_nil _).mono ?_))))))))
 rintro e_ w_ ⟨rfl, rfl⟩
 refine cR (gY (g := 9) rfl rfl rfl (st (X.eqS rfl rfl) rfl (st (X.pickT rfl rfl) rfl (sbY rfl (rfl) rfl (gY (g := 14) rfl rfl rfl (sm rfl rfl (gY (g := 14) rfl rfl rfl (sc _ Tryz.func26 rfl (by kernel_rfl) rfl rfl ((Done_nil _).mono ?_)))))))))
 rintro e_ w_ ⟨rfl, rfl⟩
 refine cR (gY (g := 14) rfl rfl rfl (st (X.lenL rfl rfl Tryz.underlying42) rfl (gY (g := 14) rfl rfl rfl (st (X.eql rfl rfl) rfl (st (X.pickT rfl rfl) rfl (sbY rfl (rfl) rfl (gY (g := 20) rfl rfl rfl (sm rfl rfl (gY (g := 20) rfl rfl rfl (sc _ Tryz.func27 rfl (by kernel_rfl) rfl rfl ((Next_nil _).mono ?_)))))))))))
 rintro e_ w_ ⟨rfl, rfl⟩
 refine cR (gY (g := 20) rfl rfl rfl (st (X.eql rfl rfl) rfl (st (X.pickT rfl rfl) rfl (sa rfl rfl (Wn (tN (W_ret (tR ?_))))))))
 exact (rT rfl rfl ⟨rfl, hbw⟩).1
set_option maxRecDepth 10000 in
theorem same_any (B gd gr gj gx : Nat) (D : DiskD) (x : ScM) (v u : Value) (S T : Nat → Prop) (w : World) (hj : JAll B w gd gj D ⟨x, false⟩ v S) (hr : RJAll B w gr gx D x u T) (hd : x.done.length ≤ 1099511627776) :
  Calls Tryz.prog 36 #[.pointer (some ⟨gj, 0, none⟩), .pointer (some ⟨gx, 0, none⟩)] w fun e w' => e = .returned (.bool true) ∧ Below w.heap.size w w' := by
 obtain ⟨go, la, hB0, _⟩ := hr.blk
 have hB : Blk w gx 129 #[str x.state, u, .int .i64 x.next, .int .i64 go, .int .i64 x.open_, str la] := hB0
 have hR := hr.row
 refine W_enter (args := [.pointer (some ⟨gj, 0, none⟩), .pointer (some ⟨gx, 0, none⟩)]) 57 Tryz.func36 rfl rfl rfl (W_sub [(0, .pointer (some ⟨gj, 0, none⟩)), (1, .pointer (some ⟨gx, 0, none⟩))] ?_ ⟨rfl, rfl, trivial⟩)
 have hbw := Below.refl w.heap.size w
 refine W_rs (sa rfl rfl (Wn (tN (W_seq (W_rs (sm rfl rfl (st (X.xEq rfl) rfl (Wn (tN (W_no rfl (rfl) ?_))))))))))
 refine W_skip (tN (W_drsN (fun W_ => Blk W_ gx 129 #[str x.state, u, .int .i64 x.next, .int .i64 go, .int .i64 x.open_, str la]) [0, 1, 2, 3, 5, 6, 7, 8, 9, 4, 10, 11, 12, 13, 15, 16, 17, 18, 19, 14, 20, 21, 22, 23, 25, 26, 27, 28, 29, 24, 30, 31, 32] [true, true, true, true, true, true, true, true, true, false, true, true, true, true, true, true, true, true, true, false, true, true, true, true, true, true, true, true, true, false, false, true, true] (by kernel_rfl) (by kernel_rfl) (hB.bel (bdrew (Below.refl _ _))) ?_))
 obtain ⟨w1, hw_⟩ : ∃ w1 : World, w1 = World.drew w := ⟨_, rfl⟩
 rw [← hw_]
 have hb : Below w.heap.size w w1 := by rw [hw_]; exact bdrew (Below.refl _ _)
 clear hw_
 have hS := hb
 replace hbw := bthen hbw hb
 replace hj := hj.bel hb
 replace hB := hB.bel hb
 replace hR := hR.bel hb
 have hz_w1 := hb.size
 clear hb
 refine oY rfl (fun W_ hW_ => (X.move rfl)) rfl (oY rfl (fun W_ hW_ => (X.jNe3 rfl)) rfl (oY rfl (fun W_ hW_ => (X.mvB (c := true) rfl (rfl))) rfl (oYg (g := 27) rfl rfl rfl rfl (fun W_ hW_ => (X.move rfl)) rfl (oYg (g := 27) rfl rfl rfl rfl (fun W_ hW_ => (X.move rfl)) rfl (oYg (g := 27) rfl rfl rfl rfl (fun W_ hW_ => (X.nilChk rfl)) rfl (oYg (g := 27) rfl rfl rfl rfl (fun W_ hW_ => (X.fa fa129_0 rfl)) rfl (oYg (g := 27) rfl rfl rfl rfl (fun W_ hW_ => (X.fa fa126_0 rfl)) rfl (oYg (g := 27) rfl rfl rfl rfl (fun W_ hW_ => (X.ldL rfl hW_ Tryz.underlying9 rfl rfl)) rfl (oL rfl (fun Q_ hQ_ hP_ => (gY (g := 27) rfl rfl rfl ?_)))))))))))
 refine sc _ Tryz.func25 rfl (by kernel_rfl) rfl rfl ((State_any B gd gj D ⟨x, false⟩ v S _ hj).mono ?_)
 rintro e_ w_ ⟨rfl, rfl⟩
 refine cR (Wn (hQ_ _ _ (hB) ?_))
 clear hQ_ hP_ Q_
 refine oYg (g := 27) rfl rfl rfl rfl (fun W_ hW_ => (X.eqS rfl rfl)) rfl (oY rfl (fun W_ hW_ => (X.pickT rfl rfl)) rfl (oY rfl (fun W_ hW_ => (X.mvB (c := true) rfl (decide_eq_true rfl))) rfl (oYg (g := 37) rfl rfl rfl rfl (fun W_ hW_ => (X.move rfl)) rfl (oYg (g := 37) rfl rfl rfl rfl (fun W_ hW_ => (X.move rfl)) rfl (oYg (g := 37) rfl rfl rfl rfl (fun W_ hW_ => (X.nilChk rfl)) rfl (oYg (g := 37) rfl rfl rfl rfl (fun W_ hW_ => (X.fa fa129_0 rfl)) rfl (oYg (g := 37) rfl rfl rfl rfl (fun W_ hW_ => (X.fa fa126_2 rfl)) rfl (oYg (g := 37) rfl rfl rfl rfl (fun W_ hW_ => (X.ldL rfl hW_ Tryz.underlying3 rfl rfl)) rfl (oL rfl (fun Q_ hQ_ hP_ => (gY (g := 37) rfl rfl rfl ?_)))))))))))
 refine sc _ Tryz.func27 rfl (by kernel_rfl) rfl rfl ((Next_j B gd gj D ⟨x, false⟩ v S _ hj).mono ?_)
 rintro e_ w_ ⟨rfl, rfl⟩
 refine cR (Wn (hQ_ _ _ (hB) ?_))
 clear hQ_ hP_ Q_
 refine oYg (g := 37) rfl rfl rfl rfl (fun W_ hW_ => (X.eql rfl rfl)) rfl (oY rfl (fun W_ hW_ => (X.pickT rfl rfl)) rfl (oY rfl (fun W_ hW_ => (X.mvB (c := true) rfl (decide_eq_true rfl))) rfl (oYg (g := 47) rfl rfl rfl rfl (fun W_ hW_ => (X.move rfl)) rfl (oYg (g := 47) rfl rfl rfl rfl (fun W_ hW_ => (X.move rfl)) rfl (oYg (g := 47) rfl rfl rfl rfl (fun W_ hW_ => (X.nilChk rfl)) rfl (oYg (g := 47) rfl rfl rfl rfl (fun W_ hW_ => (X.fa fa129_0 rfl)) rfl (oYg (g := 47) rfl rfl rfl rfl (fun W_ hW_ => (X.fa fa126_1 rfl)) rfl (oYg (g := 47) rfl rfl rfl rfl (fun W_ hW_ => (X.ldL rfl hW_ Tryz.underlying42 rfl rfl)) rfl (oL rfl (fun Q_ hQ_ hP_ => (gY (g := 47) rfl rfl rfl ?_)))))))))))
 refine sc _ Tryz.func26 rfl (by kernel_rfl) rfl rfl ((Done_any B gd gj D ⟨x, false⟩ v S _ hj hd).mono ?_)
 rintro e_ w2 ⟨vn, rfl, hN, hO, hb⟩
 refine cR ?_
 replace hbw := bthen hbw hb
 replace hj := hj.bel hb
 replace hB := hB.bel hb
 replace hR := hR.bel hb
 have hz_w2 := hb.size
 clear hb
 refine Wn (hQ_ _ _ (hB) ?_)
 clear hQ_ hP_ Q_
 refine oL rfl (fun Q_ hQ_ hP_ => (gY (g := 47) rfl rfl rfl (sc _ Tryz.func30 rfl (by kernel_rfl) rfl rfl ((Same16_any _ _ x.done x.done _ hN.reads hR.reads).mono ?_))))
 rintro e_ w3 ⟨rfl, hb⟩
 refine cR ?_
 replace hbw := bthen hbw hb
 replace hj := hj.bel hb
 replace hB := hB.bel hb
 replace hR := hR.bel hb
 replace hN := hN.bel hb
 have hz_w3 := hb.size
 clear hb
 refine Wn (hQ_ _ _ (hB) ?_)
 clear hQ_ hP_ Q_
 refine oY rfl (fun W_ hW_ => (X.pickT rfl rfl)) rfl (oY rfl (fun W_ hW_ => (X.assign rfl)) rfl (oN (nN (W_ret ((rT rfl rfl ⟨?_, hbw⟩).1)))))
 rw [decide_eq_true rfl]
theorem jrot_any (B gd gj : Nat) (D : DiskD) (J : JrM) (v : Value) (S : Nat → Prop) (i : Int) (b : UInt8) (w : World) (h : JAll B w gd gj D J v S) (hok : DOk D) :
  Calls Tryz.prog 48 #[.pointer (some ⟨gd, 0, none⟩), str jName, .int .i64 i, .int .u8 b.toNat] w (fun e w' => e = .returned (.int .i64 (rotM D jName i b).1) ∧ JPost B w gd gj (rotM D jName i b).2 J v S w') := by
 refine (jdisk (X := fun k => S k ∨ k = gj ∨ v.ownBlock = some k) (Rot_any gd D S jName i b w h.jf.own.at_ hok) h.blk h.row h.jf (Chg.refl _ w) (fun k hk => .inl hk) (fun k hk => .inl hk)).mono ?_
 rintro e w' ⟨rfl, S2, h1, h2, h3, h4, h5, _⟩
 exact ⟨rfl, v, S2, ⟨h1, h2, h3⟩, h4, fun k hk => .inl hk, h5⟩
theorem rrot_any (B gr gx : Nat) (D : DiskD) (x : ScM) (v : Value) (T : Nat → Prop) (i : Int) (b : UInt8) (w : World) (h : RJAll B w gr gx D x v T) (hok : DOk D) (hbud : DBud D) :
  Calls Tryz.prog 56 #[.pointer (some ⟨gr, 0, none⟩), str jName, .int .i64 i, .int .u8 b.toNat] w (fun e w' => e = .returned (.int .i64 (rotM D jName i b).1) ∧ RJPost B w gr gx (rotM D jName i b).2 x v T w') := by
 obtain ⟨go, la, hB, hla⟩ := h.blk
 refine (rdisk (X := fun k => T k ∨ k = gx ∨ v.ownBlock = some k) (RRot_any gr D T w h.rf.own.at_ jName i b hok hbud) hB h.row h.rf (Chg.refl _ w) (fun k hk => .inl hk) (fun k hk => .inl hk)).mono ?_
 rintro e w' ⟨rfl, S2, h1, h2, h3, h4, h5, _⟩
 exact ⟨rfl, v, S2, ⟨⟨go, la, h1, hla⟩, h2, h3⟩, h4, fun k hk => .inl hk, h5⟩
theorem intent_id (D : DiskD) (x : ScM) (p : List UInt8) : (intentJ D ⟨x, false⟩ p).1.1 ≤ x.next := by
 unfold intentJ
 split
 ·dsimp only; omega
 ·split
  ·dsimp only; omega
  ·split
   ·dsimp only; omega
   ·exact Int.le_refl _
theorem rot_step {D : DiskD} {x : ScM} {n : Nat} (hg : Good n D) (h : D.stops = false) (hj : (mget D.files jName).isSome = true) (i : Int) (b : UInt8) : JStep D x n ((rotM D jName i b).2, ⟨x, false⟩) := by
 refine ⟨rfl, rot_stops h i b, ?_, Nat.le_succ _, Nat.le_succ _, (rot_good hg jName i b).mono (by omega)⟩
 obtain ⟨f, hf⟩ := Option.isSome_iff_exists.1 hj
 unfold rotM
 rw [fileM_some hf]
 split
 ·exact hj
 ·dsimp only
  rw [mget_sput hg.ok.srt, if_pos rfl]
  rfl
theorem does16_nil (gd gr : Nat) (o : Op16) (la : Int) (w : World) :
  Calls Tryz.prog 38 #[.pointer (some ⟨gd, 0, none⟩), .pointer none, .pointer (some ⟨gr, 0, none⟩), .pointer none, .agg #[.int .i64 o.ask, .int .i64 o.id, str o.text, o.vp], .int .i64 la] w fun e w' => e = .returned (.tuple #[.int .i64 0, .bool true]) ∧ Below w.heap.size w w' := by
 refine W_enter (args := [.pointer (some ⟨gd, 0, none⟩), .pointer none, .pointer (some ⟨gr, 0, none⟩), .pointer none, .agg #[.int .i64 o.ask, .int .i64 o.id, str o.text, o.vp], .int .i64 la]) 138 Tryz.func38 rfl rfl rfl (W_sub [(0, .pointer (some ⟨gd, 0, none⟩)), (1, .pointer none), (2, .pointer (some ⟨gr, 0, none⟩)), (3, .pointer none), (4, .agg #[.int .i64 o.ask, .int .i64 o.id, str o.text, o.vp]), (5, .int .i64 la)] ?_ ⟨rfl, rfl, rfl, rfl, rfl, rfl, trivial⟩)
 have hbw := Below.refl w.heap.size w
 refine W_rs (sboxA rfl rfl (fun g10 w1 hB10 hg10 hb hl10 => ?_))
 replace hbw := bthen hbw hb
 have hz_w1 := hb.size
 clear hb
 refine sa rfl rfl (sa rfl rfl (Wn (tN (W_rs (st (X.fa fa73_1 rfl) rfl (st (X.ldL rfl hB10 Tryz.underlying3 rfl rfl) rfl (sa rfl rfl (Wn (tN (W_seq ?_))))))))))
 refine W_rs (sm rfl rfl (st (X.eql rfl rfl) rfl (Wn (tN (W_if rfl (fun h24 => ?_) (fun h24 => ?_))))))
 ·first | replace h24 := of_decide_eq_true h24 | replace h24 := of_decide_eq_false (notT h24) | replace h24 := notT h24 | skip
  refine W_reg (sm rfl rfl (sa rfl rfl (Wn (tN (W_seq (W_rs (sm rfl rfl (st (X.xEq rfl) rfl (Wn (tN ?_))))))))))
  refine W_yes rfl (rfl) (W_rs (sm rfl rfl (st (X.fa fa73_2 rfl) rfl (st (X.ldL rfl hB10 Tryz.underlying9 rfl rfl) rfl (sc _ Tryz.func19 rfl (by kernel_rfl) rfl rfl ((Intent_nil o.text _).mono ?_))))))
  rintro e_ w_ ⟨rfl, rfl⟩
  refine cR (sm rfl rfl (st (X.ext rfl rfl) rfl (st (X.ext rfl rfl) rfl (sa rfl rfl (sa rfl rfl (Wn (tN (W_rs (sm rfl rfl (st (X.eql rfl rfl) rfl ?_))))))))))
  refine sbY rfl (rfl) rfl (gY (g := 37) rfl rfl rfl (sm rfl rfl (gY (g := 37) rfl rfl rfl (sm rfl rfl (gY (g := 37) rfl rfl rfl (sc _ Tryz.func20 rfl (by kernel_rfl) rfl rfl ((Commit_nil _ _).mono ?_)))))))
  rintro e_ w_ ⟨rfl, rfl⟩
  refine cR (gY (g := 37) rfl rfl rfl (st (X.eql rfl rfl) rfl (st (X.pickT rfl rfl) rfl (sbY rfl (rfl) rfl (gY (g := 43) rfl rfl rfl (sm rfl rfl (gY (g := 43) rfl rfl rfl (sm rfl rfl (gY (g := 43) rfl rfl rfl (sc _ Tryz.func29 rfl (by kernel_rfl) rfl rfl ((Abort_nil _ _).mono ?_)))))))))))
  rintro e_ w_ ⟨rfl, rfl⟩
  refine cR (gY (g := 43) rfl rfl rfl (st (X.eql rfl rfl) rfl (st (X.pickT rfl rfl) rfl (sbY rfl (rfl) rfl (gY (g := 49) rfl rfl rfl (sm rfl rfl (gY (g := 49) rfl rfl rfl (st (X.fa fa73_2 rfl) rfl (gY (g := 49) rfl rfl rfl (st (X.ldL rfl hB10 Tryz.underlying9 rfl rfl) rfl ?_))))))))))
  refine gY (g := 49) rfl rfl rfl (sc _ Tryz.func21 rfl (by kernel_rfl) rfl rfl ((Checkpoint_nil o.text _).mono ?_))
  rintro e_ w_ ⟨rfl, rfl⟩
  refine cR (gY (g := 49) rfl rfl rfl (st (X.eql rfl rfl) rfl (st (X.pickT rfl rfl) rfl (sa rfl rfl (sa rfl rfl (Wn (tN (W_ret (tR ?_)))))))))
  exact (rTT rfl rfl rfl ⟨rfl, hbw⟩).1
 ·first | replace h24 := of_decide_eq_false h24 | replace h24 := of_decide_eq_true (notF h24) | replace h24 := notF h24 | skip
  refine W_skip (tN (W_seq (W_rs (sm rfl rfl (st (X.xEq rfl) rfl (Wn (tN (W_yes rfl (rfl) (W_rs (sm rfl rfl ?_))))))))))
  refine st (X.fa fa73_2 rfl) rfl (st (X.ldL rfl hB10 Tryz.underlying9 rfl rfl) rfl (sc _ Tryz.func19 rfl (by kernel_rfl) rfl rfl ((Intent_nil o.text _).mono ?_)))
  rintro e_ w_ ⟨rfl, rfl⟩
  refine cR (sm rfl rfl (st (X.ext rfl rfl) rfl (st (X.ext rfl rfl) rfl (sa rfl rfl (sa rfl rfl (Wn (tN (W_rs (sm rfl rfl (st (X.eql rfl rfl) rfl ?_))))))))))
  refine sbY rfl (rfl) rfl (gY (g := 37) rfl rfl rfl (sm rfl rfl (gY (g := 37) rfl rfl rfl (sm rfl rfl (gY (g := 37) rfl rfl rfl (sc _ Tryz.func20 rfl (by kernel_rfl) rfl rfl ((Commit_nil _ _).mono ?_)))))))
  rintro e_ w_ ⟨rfl, rfl⟩
  refine cR (gY (g := 37) rfl rfl rfl (st (X.eql rfl rfl) rfl (st (X.pickT rfl rfl) rfl (sbY rfl (rfl) rfl (gY (g := 43) rfl rfl rfl (sm rfl rfl (gY (g := 43) rfl rfl rfl (sm rfl rfl (gY (g := 43) rfl rfl rfl (sc _ Tryz.func29 rfl (by kernel_rfl) rfl rfl ((Abort_nil _ _).mono ?_)))))))))))
  rintro e_ w_ ⟨rfl, rfl⟩
  refine cR (gY (g := 43) rfl rfl rfl (st (X.eql rfl rfl) rfl (st (X.pickT rfl rfl) rfl (sbY rfl (rfl) rfl (gY (g := 49) rfl rfl rfl (sm rfl rfl (gY (g := 49) rfl rfl rfl (st (X.fa fa73_2 rfl) rfl (gY (g := 49) rfl rfl rfl (st (X.ldL rfl hB10 Tryz.underlying9 rfl rfl) rfl ?_))))))))))
  refine gY (g := 49) rfl rfl rfl (sc _ Tryz.func21 rfl (by kernel_rfl) rfl rfl ((Checkpoint_nil o.text _).mono ?_))
  rintro e_ w_ ⟨rfl, rfl⟩
  refine cR (gY (g := 49) rfl rfl rfl (st (X.eql rfl rfl) rfl (st (X.pickT rfl rfl) rfl (sa rfl rfl (sa rfl rfl (Wn (tN (W_ret (tR ?_)))))))))
  exact (rTT rfl rfl rfl ⟨rfl, hbw⟩).1
def DoesPost (B gd gr gj gx : Nat) (x : ScM) (n : Nat) (w : World) (e : Ending) (w' : World) : Prop :=
  ∃ la D' x' v' u' S' T', e = .returned (.tuple #[.int .i64 la, .bool true]) ∧ la ≤ 9223372036854775807 ∧ JAll B w' gd gj D' ⟨x', false⟩ v' S' ∧ RJAll B w' gr gx D' x' u' T' ∧ (∀ k, Fp S' gj v' k → ¬ Fp T' gx u' k) ∧ JStep D' x n (D', ⟨x', false⟩) ∧ Chg (fun k => B ≤ k) w w'
theorem JStep.self {D : DiskD} {x : ScM} {n : Nat} {r : DiskD × JrM} (h : JStep D x n r) : JStep r.1 x n (r.1, ⟨r.2.x, false⟩) := ⟨rfl, h.stops, h.has, h.next, h.done, h.good⟩
theorem Two.leave {B gd gr gj gx gk n : Nat} {w0 w : World} {D D' : DiskD} {J : JrM} {x : ScM} {v u : Value} {S T : Nat → Prop} {ty : TypeId} {cs : Array Value} {la : Int} (h : Two B w gd gr gj gx D' D' J J.x v u S T gk ty cs) (hs : JStep D x n (D', J)) (hcw : Chg (fun k => B ≤ k) w0 w) (hla : la ≤ 9223372036854775807) {e : Ending} (he : e = .returned (.tuple #[.int .i64 la, .bool true])) : DoesPost B gd gr gj gx x n w0 e w := by
 obtain ⟨y, lm⟩ := J
 obtain rfl : lm = false := hs.lame
 exact ⟨la, D', y, v, u, S, T, he, hla, h.j, h.r, h.sep, hs.self, hcw⟩
set_option maxRecDepth 10000 in
theorem does16_any (B gd gr gj gx : Nat) (D : DiskD) (x : ScM) (v u : Value) (S T : Nat → Prop) (o : Op16) (la : Int) (n : Nat) (w : World) (hj : JAll B w gd gj D ⟨x, false⟩ v S) (hr : RJAll B w gr gx D x u T) (hsep : ∀ k, Fp S gj v k → ¬ Fp T gx u k)
  (hg : Good n D) (hn : n ≤ 400000) (hst : D.stops = false) (hhas : (mget D.files jName).isSome = true) (hnx : x.next ≤ 1125899906842624) (hdn : x.done.length ≤ 100000000) (hla : la ≤ 9223372036854775807) (hid : o.id ≤ 9223372036854775807) (htx : o.text.length ≤ 300) (hask : o.ask = 1 ∨ o.ask = 2 ∨ o.ask = 3 ∨ o.ask = 4 ∨ 0 ≤ o.id) :
  Calls Tryz.prog 38 #[.pointer (some ⟨gd, 0, none⟩), .pointer (some ⟨gj, 0, none⟩), .pointer (some ⟨gr, 0, none⟩), .pointer (some ⟨gx, 0, none⟩), .agg #[.int .i64 o.ask, .int .i64 o.id, str o.text, o.vp], .int .i64 la] w (DoesPost B gd gr gj gx x n w) := by
 have hidN := intent_id D x o.text
 refine W_enter (args := [.pointer (some ⟨gd, 0, none⟩), .pointer (some ⟨gj, 0, none⟩), .pointer (some ⟨gr, 0, none⟩), .pointer (some ⟨gx, 0, none⟩), .agg #[.int .i64 o.ask, .int .i64 o.id, str o.text, o.vp], .int .i64 la]) 138 Tryz.func38 rfl rfl rfl (W_sub [(0, .pointer (some ⟨gd, 0, none⟩)), (1, .pointer (some ⟨gj, 0, none⟩)), (2, .pointer (some ⟨gr, 0, none⟩)), (3, .pointer (some ⟨gx, 0, none⟩)), (4, .agg #[.int .i64 o.ask, .int .i64 o.id, str o.text, o.vp]), (5, .int .i64 la)] ?_ ⟨rfl, rfl, rfl, rfl, rfl, rfl, trivial⟩)
 have hcw := Chg.refl (fun k => B ≤ k) w
 have hJl := hj.fp
 have hRl := hr.fp
 refine W_rs (sboxA rfl rfl (fun g10 w1 hB10 hg10 hb hl10 => ?_))
 replace hcw := hcw.then_below hb
 replace hj := hj.bel hb
 replace hr := hr.bel hb
 have hz_w1 := hb.size
 clear hb
 have hT : Two B w1 gd gr gj gx D D ⟨x, false⟩ x v u S T g10 73 #[.int .i64 o.ask, .int .i64 o.id, str o.text, o.vp] := ⟨hj, hr, hsep, hB10, fun e => by have := (hJl _ e).2; omega, fun e => by have := (hRl _ e).2; omega⟩
 clear hj hr hB10
 refine sa rfl rfl (sa rfl rfl (Wn (tN (W_rs (st (X.fa fa73_1 rfl) rfl (st (X.ldL rfl hT.blk Tryz.underlying3 rfl rfl) rfl (sa rfl rfl (Wn (tN (W_seq ?_))))))))))
 refine W_rs (sm rfl rfl (st (X.eql rfl rfl) rfl (Wn (tN (W_if rfl (fun h24 => ?_) (fun h24 => ?_))))))
 ·first | replace h24 := of_decide_eq_true h24 | replace h24 := of_decide_eq_false (notT h24) | replace h24 := notT h24 | skip
  refine W_reg (sm rfl rfl (sa rfl rfl (Wn (tN (W_seq (W_rs (sm rfl rfl (st (X.xEq rfl) rfl (Wn (tN ?_))))))))))
  refine W_no rfl (rfl) (W_skip (tN (W_seq (W_rs (st (X.fa fa73_0 rfl) rfl (st (X.ldL rfl hT.blk Tryz.underlying3 rfl rfl) rfl (Wn (tN (W_block (W_rs ?_))))))))))
  refine st (X.eql rfl rfl) rfl (sa rfl rfl (Wn (tN (W_if rfl (fun h58 => ?_) (fun h58 => ?_)))))
  ·first | replace h58 := of_decide_eq_true h58 | replace h58 := of_decide_eq_false (notT h58) | replace h58 := notT h58 | skip
   refine W_rs (sm rfl rfl (st (X.fa fa73_2 rfl) rfl (st (X.ldL rfl hT.blk Tryz.underlying9 rfl rfl) rfl (sc _ Tryz.func19 rfl (by kernel_rfl) rfl rfl ((Intent_any B gd gj D ⟨x, false⟩ v S _ hT.j o.text n hg (by omega) (by omega) (by show x.next ≤ _; omega)).mono ?_)))))
   rintro e_ w2 ⟨rfl, hJP⟩
   refine cR ?_
   have hst1 := intent_step (x := x) hg hst hhas o.text (by omega)
   have hRI := fun W_ : World => fun hr_ : RJAll B W_ gr gx D x u T => RIntent_any B gr gx D x u T W_ o.text n hr_ hg hst hhas (by omega) (by omega) (by omega)
   obtain ⟨⟨⟨rid, re⟩, D1, J1⟩, hr1⟩ : ∃ r, intentJ D ⟨x, false⟩ o.text = r := ⟨_, rfl⟩
   rw [hr1] at hJP hst1 hRI hidN ⊢
   simp only at hJP hst1 hRI hidN ⊢
   obtain ⟨v1, S1, hT1, hC⟩ := hT.jstep hJP
   replace hcw := hcw.next hC (fun i hi => .inl hi)
   have hz_w2 := hC.size
   clear hT hC hJP
   have hT := hT1
   clear hT1
   refine sm rfl rfl (st (X.ext rfl rfl) rfl (st (X.ext rfl rfl) rfl (sa rfl rfl (sa rfl rfl (Wn (tN (W_rs (sm rfl rfl (sm rfl rfl (st (X.fa fa73_2 rfl) rfl ?_))))))))))
   refine st (X.ldL rfl hT.blk Tryz.underlying9 rfl rfl) rfl (sc _ Tryz.func85 rfl (by kernel_rfl) rfl rfl ((hRI _ hT.r).mono ?_))
   rintro e_ w3 ⟨rfl, hRP⟩
   refine cR ?_
   skip
   obtain ⟨u1, T1, hT1, hC⟩ := hT.rstep hRP
   replace hcw := hcw.next hC (fun i hi => .inl hi)
   have hz_w3 := hC.size
   clear hT hC hRP
   have hT := hT1
   clear hT1
   refine sm rfl rfl (st (X.ext rfl rfl) rfl (st (X.ext rfl rfl) rfl (sa rfl rfl (sa rfl rfl (Wn (tN (W_seq (W_rs (sm rfl rfl (st (X.eql rfl rfl) rfl ?_))))))))))
   refine Wn (tN (W_if rfl (fun h76 => ?_) (fun h76 => ?_)))
   ·first | replace h76 := of_decide_eq_true h76 | replace h76 := of_decide_eq_false (notT h76) | replace h76 := notT h76 | skip
    refine W_reg (sm rfl rfl (sa rfl rfl (Wn (tN (W_rs (sm rfl rfl (sm rfl rfl (sm rfl rfl (st (X.eql rfl rfl) rfl (sbY rfl (decide_eq_true rfl) rfl ?_))))))))))
    refine gY (g := 82) rfl rfl rfl (sm rfl rfl (gY (g := 82) rfl rfl rfl (sm rfl rfl (gY (g := 82) rfl rfl rfl (st (X.eql rfl rfl) rfl (st (X.pickT rfl rfl) rfl (sa rfl rfl (sa rfl rfl (Wn (tN ?_))))))))))
    refine W_ret (bR (tR ((rTT rfl rfl rfl (hT.leave (la := rid) hst1 hcw (by omega) ?_)).1)))
    rw [decide_eq_true rfl]
   ·first | replace h76 := of_decide_eq_false h76 | replace h76 := of_decide_eq_true (notF h76) | replace h76 := notF h76 | skip
    refine W_skip (tN (W_rs (sm rfl rfl (sm rfl rfl (sm rfl rfl (st (X.eql rfl rfl) rfl (sbY rfl (decide_eq_true rfl) rfl (gY (g := 82) rfl rfl rfl (sm rfl rfl (gY (g := 82) rfl rfl rfl ?_))))))))))
    refine sm rfl rfl (gY (g := 82) rfl rfl rfl (st (X.eql rfl rfl) rfl (st (X.pickT rfl rfl) rfl (sa rfl rfl (sa rfl rfl (Wn (tN (W_ret (bR (tR ((rTT rfl rfl rfl (hT.leave hst1 hcw hla ?_)).1)))))))))))
    rw [decide_eq_true rfl]
  ·first | replace h58 := of_decide_eq_false h58 | replace h58 := of_decide_eq_true (notF h58) | replace h58 := notF h58 | skip
   refine W_rs (st (X.eql rfl rfl) rfl (sa rfl rfl (Wn (tN (W_if rfl (fun h87 => ?_) (fun h87 => ?_))))))
   ·first | replace h87 := of_decide_eq_true h87 | replace h87 := of_decide_eq_false (notT h87) | replace h87 := notT h87 | skip
    refine W_rs (sm rfl rfl (sm rfl rfl (sm rfl rfl (sc _ Tryz.func20 rfl (by kernel_rfl) rfl rfl ((Commit_any B gd gj D ⟨x, false⟩ v S _ hT.j la n hg (by omega) (by show x.done.length ≤ _; omega)).mono ?_)))))
    rintro e_ w4 ⟨rfl, hJP⟩
    refine cR ?_
    have hst1 := commit_step (x := x) hg hst hhas la
    have hRI := fun W_ : World => fun hr_ : RJAll B W_ gr gx D x u T => RCommit_any B gr gx D x u T W_ la n hr_ hg hst hhas (by omega) hla (by omega)
    obtain ⟨⟨re, D1, J1⟩, hr1⟩ : ∃ r, commitJ D ⟨x, false⟩ la = r := ⟨_, rfl⟩
    rw [hr1] at hJP hst1 hRI ⊢
    simp only at hJP hst1 hRI ⊢
    obtain ⟨v1, S1, hT1, hC⟩ := hT.jstep hJP
    replace hcw := hcw.next hC (fun i hi => .inl hi)
    have hz_w4 := hC.size
    clear hT hC hJP
    have hT := hT1
    clear hT1
    refine sm rfl rfl (sm rfl rfl (sm rfl rfl (sc _ Tryz.func86 rfl (by kernel_rfl) rfl rfl ((hRI _ hT.r).mono ?_))))
    rintro e_ w5 ⟨rfl, hRP⟩
    refine cR ?_
    skip
    obtain ⟨u1, T1, hT1, hC⟩ := hT.rstep hRP
    replace hcw := hcw.next hC (fun i hi => .inl hi)
    have hz_w5 := hC.size
    clear hT hC hRP
    have hT := hT1
    clear hT1
    refine st (X.eql rfl rfl) rfl (sa rfl rfl (sa rfl rfl (Wn (tN (W_ret (bR (tR ((rTT rfl rfl rfl (hT.leave hst1 hcw hla ?_)).1))))))))
    rw [decide_eq_true rfl]
   ·first | replace h87 := of_decide_eq_false h87 | replace h87 := of_decide_eq_true (notF h87) | replace h87 := notF h87 | skip
    refine W_rs (st (X.eql rfl rfl) rfl (sa rfl rfl (Wn (tN (W_if rfl (fun h98 => ?_) (fun h98 => ?_))))))
    ·first | replace h98 := of_decide_eq_true h98 | replace h98 := of_decide_eq_false (notT h98) | replace h98 := notT h98 | skip
     refine W_rs (sm rfl rfl (sm rfl rfl (sm rfl rfl (sc _ Tryz.func29 rfl (by kernel_rfl) rfl rfl ((jabort_any B gd gj D ⟨x, false⟩ v S _ la hT.j).mono ?_)))))
     rintro e_ w6 ⟨rfl, hJP⟩
     refine cR ?_
     have hst1 := abort_step (x := x) hg hst hhas la
     have hRI := fun W_ : World => fun hr_ : RJAll B W_ gr gx D x u T => RAbort_any B gr gx D x u T W_ la hr_
     obtain ⟨⟨re, J1⟩, hr1⟩ : ∃ r, abortJ ⟨x, false⟩ la = r := ⟨_, rfl⟩
     rw [hr1] at hJP hst1 hRI ⊢
     simp only at hJP hst1 hRI ⊢
     obtain ⟨v1, S1, hT1, hC⟩ := hT.jstep hJP
     replace hcw := hcw.next hC (fun i hi => .inl hi)
     have hz_w6 := hC.size
     clear hT hC hJP
     have hT := hT1
     clear hT1
     refine sm rfl rfl (sm rfl rfl (sc _ Tryz.func87 rfl (by kernel_rfl) rfl rfl ((hRI _ hT.r).mono ?_)))
     rintro e_ w7 ⟨rfl, hRP⟩
     refine cR ?_
     skip
     obtain ⟨u1, T1, hT1, hC⟩ := hT.rstep hRP
     replace hcw := hcw.next hC (fun i hi => .inl hi)
     have hz_w7 := hC.size
     clear hT hC hRP
     have hT := hT1
     clear hT1
     refine st (X.eql rfl rfl) rfl (sa rfl rfl (sa rfl rfl (Wn (tN (W_ret (bR (tR ((rTT rfl rfl rfl (hT.leave hst1 hcw hla ?_)).1))))))))
     rw [decide_eq_true rfl]
    ·first | replace h98 := of_decide_eq_false h98 | replace h98 := of_decide_eq_true (notF h98) | replace h98 := notF h98 | skip
     refine W_rs (st (X.eql rfl rfl) rfl (sa rfl rfl (Wn (tN (W_if rfl (fun h108 => ?_) (fun h108 => ?_))))))
     ·first | replace h108 := of_decide_eq_true h108 | replace h108 := of_decide_eq_false (notT h108) | replace h108 := notT h108 | skip
      refine W_drsN (fun W_ => Blk W_ g10 73 #[.int .i64 o.ask, .int .i64 o.id, str o.text, o.vp]) [0, 1, 2, 3, 5, 6, 7, 8, 4, 9, 10, 11, 12] [true, true, true, true, true, true, true, true, false, false, true, true, true] (by kernel_rfl) (by kernel_rfl) ((hT.bel (bdrew (Below.refl _ _))).blk) ?_
      obtain ⟨w8, hw_⟩ : ∃ w8 : World, w8 = World.drew w1 := ⟨_, rfl⟩
      rw [← hw_]
      have hb : Below w1.heap.size w1 w8 := by rw [hw_]; exact bdrew (Below.refl _ _)
      clear hw_
      have hS := hb
      replace hcw := hcw.then_below hb
      replace hT := hT.bel hb
      have hz_w8 := hb.size
      clear hb
      refine oY rfl (fun W_ hW_ => (X.move rfl)) rfl (oY rfl (fun W_ hW_ => (X.move rfl)) rfl (oY rfl (fun W_ hW_ => (X.fa fa73_2 rfl)) rfl (oY rfl (fun W_ hW_ => (X.ldL rfl hW_ Tryz.underlying9 rfl rfl)) rfl (oY rfl (fun W_ hW_ => (X.move rfl)) rfl (oY rfl (fun W_ hW_ => (X.move rfl)) rfl (oY rfl (fun W_ hW_ => (X.fa fa73_2 rfl)) rfl (oY rfl (fun W_ hW_ => (X.ldL rfl hW_ Tryz.underlying9 rfl rfl)) rfl (oL rfl (fun Q_ hQ_ hP_ => (sc _ Tryz.func21 rfl (by kernel_rfl) rfl rfl ((Checkpoint_any B gd gj D ⟨x, false⟩ v S _ hT.j o.text n hg (by omega) (by omega)).mono ?_)))))))))))
      rintro e_ w9 ⟨rfl, hJP⟩
      refine cR ?_
      have hst1 := check_step (x := x) hg hst hhas o.text
      have hRI := fun W_ : World => fun hr_ : RJAll B W_ gr gx D x u T => RCheck_any B gr gx D x u T W_ o.text n hr_ hg hst (by omega) (by have := hg.few; omega) (by omega) (by omega)
      obtain ⟨⟨re, D1, J1⟩, hr1⟩ : ∃ r, checkJ D ⟨x, false⟩ o.text = r := ⟨_, rfl⟩
      rw [hr1] at hJP hst1 hRI ⊢
      simp only at hJP hst1 hRI ⊢
      obtain ⟨v1, S1, hT1, hC⟩ := hT.jstep hJP
      replace hcw := hcw.next hC (fun i hi => .inl hi)
      have hz_w8 := hC.size
      clear hT hC hJP
      have hT := hT1
      clear hT1
      refine Wn (hQ_ _ _ (hT.blk) ?_)
      clear hQ_ hP_ Q_
      refine oL rfl (fun Q_ hQ_ hP_ => (sc _ Tryz.func88 rfl (by kernel_rfl) rfl rfl ((hRI _ hT.r).mono ?_)))
      rintro e_ w10 ⟨rfl, hRP⟩
      refine cR ?_
      obtain ⟨u1, T1, hT1, hC⟩ := hT.rstep hRP
      replace hcw := hcw.next hC (fun i hi => .inl hi)
      have hz_w9 := hC.size
      clear hT hC hRP
      have hT := hT1
      clear hT1
      refine Wn (hQ_ _ _ (hT.blk) ?_)
      clear hQ_ hP_ Q_
      refine oY rfl (fun W_ hW_ => (X.eql rfl rfl)) rfl (oY rfl (fun W_ hW_ => (X.assign rfl)) rfl (oY rfl (fun W_ hW_ => (X.assign rfl)) rfl (oN (nN (W_ret (bR (tR ((rTT rfl rfl rfl (hT.leave hst1 hcw hla ?_)).1))))))))
      rw [decide_eq_true rfl]
     ·first | replace h108 := of_decide_eq_false h108 | replace h108 := of_decide_eq_true (notF h108) | replace h108 := notF h108 | skip
      have hid0 : 0 ≤ o.id := by omega
      have hbt : (UInt8.ofNat (o.id.toNat % 256)).toNat = o.id.toNat % 256 := by simp
      refine W_skip (bN (tN (W_rs (sm rfl rfl (st (X.fa fa73_1 rfl) rfl (st (X.ldL rfl hT.blk Tryz.underlying3 rfl rfl) rfl (st (X.fa fa73_1 rfl) rfl (st (X.ldL rfl hT.blk Tryz.underlying3 rfl rfl) rfl (st (X.rem64 rfl rfl (by omega) (by omega)) rfl (st (X.convI (z := ((UInt8.ofNat (o.id.toNat % 256)).toNat : Int)) rfl Tryz.underlying3 Tryz.underlying5 (by rw [hbt]; refine (IntWalk.u8_in _ (by omega)).trans ?_; omega)) rfl ?_))))))))))
      refine sc _ Tryz.func48 rfl (by kernel_rfl) rfl rfl ((jrot_any B gd gj D ⟨x, false⟩ v S o.id _ _ hT.j hg.ok).mono ?_)
      rintro e_ w11 ⟨rfl, hJP⟩
      refine cR ?_
      have hst1 := rot_step (x := x) hg hst hhas o.id (UInt8.ofNat (o.id.toNat % 256))
      obtain ⟨v1, S1, hT1, hC⟩ := hT.jstep hJP
      replace hcw := hcw.next hC (fun i hi => .inl hi)
      have hz_w11 := hC.size
      clear hT hC hJP
      have hT := hT1
      clear hT1
      refine Wn (tN (W_rs (sm rfl rfl (st (X.fa fa73_1 rfl) rfl (st (X.ldL rfl hT.blk Tryz.underlying3 rfl rfl) rfl (st (X.fa fa73_1 rfl) rfl (st (X.ldL rfl hT.blk Tryz.underlying3 rfl rfl) rfl (st (X.rem64 rfl rfl (by omega) (by omega)) rfl (st (X.convI (z := ((UInt8.ofNat (o.id.toNat % 256)).toNat : Int)) rfl Tryz.underlying3 Tryz.underlying5 (by rw [hbt]; refine (IntWalk.u8_in _ (by omega)).trans ?_; omega)) rfl ?_)))))))))
      refine sc _ Tryz.func56 rfl (by kernel_rfl) rfl rfl ((rrot_any B gr gx D x u T o.id _ _ hT.r hg.ok (hg.bud (by omega))).mono ?_)
      rintro e_ w12 ⟨rfl, hRP⟩
      refine cR ?_
      skip
      obtain ⟨u1, T1, hT1, hC⟩ := hT.rstep hRP
      replace hcw := hcw.next hC (fun i hi => .inl hi)
      have hz_w12 := hC.size
      clear hT hC hRP
      have hT := hT1
      clear hT1
      refine Wn (tN (W_rs (sm rfl rfl (sa rfl rfl (sa rfl rfl (Wn (tN (W_ret ?_))))))))
      exact (rTT rfl rfl rfl (hT.leave hst1 hcw hla rfl)).1
 ·first | replace h24 := of_decide_eq_false h24 | replace h24 := of_decide_eq_true (notF h24) | replace h24 := notF h24 | skip
  refine W_skip (tN (W_seq (W_rs (sm rfl rfl (st (X.xEq rfl) rfl (Wn (tN (W_no rfl (rfl) (W_skip (tN ?_))))))))))
  refine W_seq (W_rs (st (X.fa fa73_0 rfl) rfl (st (X.ldL rfl hT.blk Tryz.underlying3 rfl rfl) rfl (Wn (tN (W_block (W_rs (st (X.eql rfl rfl) rfl (sa rfl rfl (Wn ?_))))))))))
  refine tN (W_if rfl (fun h58 => ?_) (fun h58 => ?_))
  ·first | replace h58 := of_decide_eq_true h58 | replace h58 := of_decide_eq_false (notT h58) | replace h58 := notT h58 | skip
   refine W_rs (sm rfl rfl (st (X.fa fa73_2 rfl) rfl (st (X.ldL rfl hT.blk Tryz.underlying9 rfl rfl) rfl (sc _ Tryz.func19 rfl (by kernel_rfl) rfl rfl ((Intent_any B gd gj D ⟨x, false⟩ v S _ hT.j o.text n hg (by omega) (by omega) (by show x.next ≤ _; omega)).mono ?_)))))
   rintro e_ w13 ⟨rfl, hJP⟩
   refine cR ?_
   have hst1 := intent_step (x := x) hg hst hhas o.text (by omega)
   have hRI := fun W_ : World => fun hr_ : RJAll B W_ gr gx D x u T => RIntent_any B gr gx D x u T W_ o.text n hr_ hg hst hhas (by omega) (by omega) (by omega)
   obtain ⟨⟨⟨rid, re⟩, D1, J1⟩, hr1⟩ : ∃ r, intentJ D ⟨x, false⟩ o.text = r := ⟨_, rfl⟩
   rw [hr1] at hJP hst1 hRI hidN ⊢
   simp only at hJP hst1 hRI hidN ⊢
   obtain ⟨v1, S1, hT1, hC⟩ := hT.jstep hJP
   replace hcw := hcw.next hC (fun i hi => .inl hi)
   have hz_w13 := hC.size
   clear hT hC hJP
   have hT := hT1
   clear hT1
   refine sm rfl rfl (st (X.ext rfl rfl) rfl (st (X.ext rfl rfl) rfl (sa rfl rfl (sa rfl rfl (Wn (tN (W_rs (sm rfl rfl (sm rfl rfl (st (X.fa fa73_2 rfl) rfl ?_))))))))))
   refine st (X.ldL rfl hT.blk Tryz.underlying9 rfl rfl) rfl (sc _ Tryz.func85 rfl (by kernel_rfl) rfl rfl ((hRI _ hT.r).mono ?_))
   rintro e_ w14 ⟨rfl, hRP⟩
   refine cR ?_
   skip
   obtain ⟨u1, T1, hT1, hC⟩ := hT.rstep hRP
   replace hcw := hcw.next hC (fun i hi => .inl hi)
   have hz_w14 := hC.size
   clear hT hC hRP
   have hT := hT1
   clear hT1
   refine sm rfl rfl (st (X.ext rfl rfl) rfl (st (X.ext rfl rfl) rfl (sa rfl rfl (sa rfl rfl (Wn (tN (W_seq (W_rs (sm rfl rfl (st (X.eql rfl rfl) rfl ?_))))))))))
   refine Wn (tN (W_if rfl (fun h76 => ?_) (fun h76 => ?_)))
   ·first | replace h76 := of_decide_eq_true h76 | replace h76 := of_decide_eq_false (notT h76) | replace h76 := notT h76 | skip
    refine W_reg (sm rfl rfl (sa rfl rfl (Wn (tN (W_rs (sm rfl rfl (sm rfl rfl (sm rfl rfl (st (X.eql rfl rfl) rfl (sbY rfl (decide_eq_true rfl) rfl ?_))))))))))
    refine gY (g := 82) rfl rfl rfl (sm rfl rfl (gY (g := 82) rfl rfl rfl (sm rfl rfl (gY (g := 82) rfl rfl rfl (st (X.eql rfl rfl) rfl (st (X.pickT rfl rfl) rfl (sa rfl rfl (sa rfl rfl (Wn (tN ?_))))))))))
    refine W_ret (bR (tR ((rTT rfl rfl rfl (hT.leave (la := rid) hst1 hcw (by omega) ?_)).1)))
    rw [decide_eq_true rfl]
   ·first | replace h76 := of_decide_eq_false h76 | replace h76 := of_decide_eq_true (notF h76) | replace h76 := notF h76 | skip
    refine W_skip (tN (W_rs (sm rfl rfl (sm rfl rfl (sm rfl rfl (st (X.eql rfl rfl) rfl (sbY rfl (decide_eq_true rfl) rfl (gY (g := 82) rfl rfl rfl (sm rfl rfl (gY (g := 82) rfl rfl rfl ?_))))))))))
    refine sm rfl rfl (gY (g := 82) rfl rfl rfl (st (X.eql rfl rfl) rfl (st (X.pickT rfl rfl) rfl (sa rfl rfl (sa rfl rfl (Wn (tN (W_ret (bR (tR ((rTT rfl rfl rfl (hT.leave hst1 hcw hla ?_)).1)))))))))))
    rw [decide_eq_true rfl]
  ·first | replace h58 := of_decide_eq_false h58 | replace h58 := of_decide_eq_true (notF h58) | replace h58 := notF h58 | skip
   refine W_rs (st (X.eql rfl rfl) rfl (sa rfl rfl (Wn (tN (W_if rfl (fun h87 => ?_) (fun h87 => ?_))))))
   ·first | replace h87 := of_decide_eq_true h87 | replace h87 := of_decide_eq_false (notT h87) | replace h87 := notT h87 | skip
    refine W_rs (sm rfl rfl (sm rfl rfl (sm rfl rfl (sc _ Tryz.func20 rfl (by kernel_rfl) rfl rfl ((Commit_any B gd gj D ⟨x, false⟩ v S _ hT.j o.id n hg (by omega) (by show x.done.length ≤ _; omega)).mono ?_)))))
    rintro e_ w15 ⟨rfl, hJP⟩
    refine cR ?_
    have hst1 := commit_step (x := x) hg hst hhas o.id
    have hRI := fun W_ : World => fun hr_ : RJAll B W_ gr gx D x u T => RCommit_any B gr gx D x u T W_ o.id n hr_ hg hst hhas (by omega) hid (by omega)
    obtain ⟨⟨re, D1, J1⟩, hr1⟩ : ∃ r, commitJ D ⟨x, false⟩ o.id = r := ⟨_, rfl⟩
    rw [hr1] at hJP hst1 hRI ⊢
    simp only at hJP hst1 hRI ⊢
    obtain ⟨v1, S1, hT1, hC⟩ := hT.jstep hJP
    replace hcw := hcw.next hC (fun i hi => .inl hi)
    have hz_w15 := hC.size
    clear hT hC hJP
    have hT := hT1
    clear hT1
    refine sm rfl rfl (sm rfl rfl (sm rfl rfl (sc _ Tryz.func86 rfl (by kernel_rfl) rfl rfl ((hRI _ hT.r).mono ?_))))
    rintro e_ w16 ⟨rfl, hRP⟩
    refine cR ?_
    skip
    obtain ⟨u1, T1, hT1, hC⟩ := hT.rstep hRP
    replace hcw := hcw.next hC (fun i hi => .inl hi)
    have hz_w16 := hC.size
    clear hT hC hRP
    have hT := hT1
    clear hT1
    refine st (X.eql rfl rfl) rfl (sa rfl rfl (sa rfl rfl (Wn (tN (W_ret (bR (tR ((rTT rfl rfl rfl (hT.leave hst1 hcw hla ?_)).1))))))))
    rw [decide_eq_true rfl]
   ·first | replace h87 := of_decide_eq_false h87 | replace h87 := of_decide_eq_true (notF h87) | replace h87 := notF h87 | skip
    refine W_rs (st (X.eql rfl rfl) rfl (sa rfl rfl (Wn (tN (W_if rfl (fun h98 => ?_) (fun h98 => ?_))))))
    ·first | replace h98 := of_decide_eq_true h98 | replace h98 := of_decide_eq_false (notT h98) | replace h98 := notT h98 | skip
     refine W_rs (sm rfl rfl (sm rfl rfl (sm rfl rfl (sc _ Tryz.func29 rfl (by kernel_rfl) rfl rfl ((jabort_any B gd gj D ⟨x, false⟩ v S _ o.id hT.j).mono ?_)))))
     rintro e_ w17 ⟨rfl, hJP⟩
     refine cR ?_
     have hst1 := abort_step (x := x) hg hst hhas o.id
     have hRI := fun W_ : World => fun hr_ : RJAll B W_ gr gx D x u T => RAbort_any B gr gx D x u T W_ o.id hr_
     obtain ⟨⟨re, J1⟩, hr1⟩ : ∃ r, abortJ ⟨x, false⟩ o.id = r := ⟨_, rfl⟩
     rw [hr1] at hJP hst1 hRI ⊢
     simp only at hJP hst1 hRI ⊢
     obtain ⟨v1, S1, hT1, hC⟩ := hT.jstep hJP
     replace hcw := hcw.next hC (fun i hi => .inl hi)
     have hz_w17 := hC.size
     clear hT hC hJP
     have hT := hT1
     clear hT1
     refine sm rfl rfl (sm rfl rfl (sc _ Tryz.func87 rfl (by kernel_rfl) rfl rfl ((hRI _ hT.r).mono ?_)))
     rintro e_ w18 ⟨rfl, hRP⟩
     refine cR ?_
     skip
     obtain ⟨u1, T1, hT1, hC⟩ := hT.rstep hRP
     replace hcw := hcw.next hC (fun i hi => .inl hi)
     have hz_w18 := hC.size
     clear hT hC hRP
     have hT := hT1
     clear hT1
     refine st (X.eql rfl rfl) rfl (sa rfl rfl (sa rfl rfl (Wn (tN (W_ret (bR (tR ((rTT rfl rfl rfl (hT.leave hst1 hcw hla ?_)).1))))))))
     rw [decide_eq_true rfl]
    ·first | replace h98 := of_decide_eq_false h98 | replace h98 := of_decide_eq_true (notF h98) | replace h98 := notF h98 | skip
     refine W_rs (st (X.eql rfl rfl) rfl (sa rfl rfl (Wn (tN (W_if rfl (fun h108 => ?_) (fun h108 => ?_))))))
     ·first | replace h108 := of_decide_eq_true h108 | replace h108 := of_decide_eq_false (notT h108) | replace h108 := notT h108 | skip
      refine W_drsN (fun W_ => Blk W_ g10 73 #[.int .i64 o.ask, .int .i64 o.id, str o.text, o.vp]) [0, 1, 2, 3, 5, 6, 7, 8, 4, 9, 10, 11, 12] [true, true, true, true, true, true, true, true, false, false, true, true, true] (by kernel_rfl) (by kernel_rfl) ((hT.bel (bdrew (Below.refl _ _))).blk) ?_
      obtain ⟨w19, hw_⟩ : ∃ w19 : World, w19 = World.drew w1 := ⟨_, rfl⟩
      rw [← hw_]
      have hb : Below w1.heap.size w1 w19 := by rw [hw_]; exact bdrew (Below.refl _ _)
      clear hw_
      have hS := hb
      replace hcw := hcw.then_below hb
      replace hT := hT.bel hb
      have hz_w19 := hb.size
      clear hb
      refine oY rfl (fun W_ hW_ => (X.move rfl)) rfl (oY rfl (fun W_ hW_ => (X.move rfl)) rfl (oY rfl (fun W_ hW_ => (X.fa fa73_2 rfl)) rfl (oY rfl (fun W_ hW_ => (X.ldL rfl hW_ Tryz.underlying9 rfl rfl)) rfl (oY rfl (fun W_ hW_ => (X.move rfl)) rfl (oY rfl (fun W_ hW_ => (X.move rfl)) rfl (oY rfl (fun W_ hW_ => (X.fa fa73_2 rfl)) rfl (oY rfl (fun W_ hW_ => (X.ldL rfl hW_ Tryz.underlying9 rfl rfl)) rfl (oL rfl (fun Q_ hQ_ hP_ => (sc _ Tryz.func21 rfl (by kernel_rfl) rfl rfl ((Checkpoint_any B gd gj D ⟨x, false⟩ v S _ hT.j o.text n hg (by omega) (by omega)).mono ?_)))))))))))
      rintro e_ w20 ⟨rfl, hJP⟩
      refine cR ?_
      have hst1 := check_step (x := x) hg hst hhas o.text
      have hRI := fun W_ : World => fun hr_ : RJAll B W_ gr gx D x u T => RCheck_any B gr gx D x u T W_ o.text n hr_ hg hst (by omega) (by have := hg.few; omega) (by omega) (by omega)
      obtain ⟨⟨re, D1, J1⟩, hr1⟩ : ∃ r, checkJ D ⟨x, false⟩ o.text = r := ⟨_, rfl⟩
      rw [hr1] at hJP hst1 hRI ⊢
      simp only at hJP hst1 hRI ⊢
      obtain ⟨v1, S1, hT1, hC⟩ := hT.jstep hJP
      replace hcw := hcw.next hC (fun i hi => .inl hi)
      have hz_w19 := hC.size
      clear hT hC hJP
      have hT := hT1
      clear hT1
      refine Wn (hQ_ _ _ (hT.blk) ?_)
      clear hQ_ hP_ Q_
      refine oL rfl (fun Q_ hQ_ hP_ => (sc _ Tryz.func88 rfl (by kernel_rfl) rfl rfl ((hRI _ hT.r).mono ?_)))
      rintro e_ w21 ⟨rfl, hRP⟩
      refine cR ?_
      obtain ⟨u1, T1, hT1, hC⟩ := hT.rstep hRP
      replace hcw := hcw.next hC (fun i hi => .inl hi)
      have hz_w20 := hC.size
      clear hT hC hRP
      have hT := hT1
      clear hT1
      refine Wn (hQ_ _ _ (hT.blk) ?_)
      clear hQ_ hP_ Q_
      refine oY rfl (fun W_ hW_ => (X.eql rfl rfl)) rfl (oY rfl (fun W_ hW_ => (X.assign rfl)) rfl (oY rfl (fun W_ hW_ => (X.assign rfl)) rfl (oN (nN (W_ret (bR (tR ((rTT rfl rfl rfl (hT.leave hst1 hcw hla ?_)).1))))))))
      rw [decide_eq_true rfl]
     ·first | replace h108 := of_decide_eq_false h108 | replace h108 := of_decide_eq_true (notF h108) | replace h108 := notF h108 | skip
      have hid0 : 0 ≤ o.id := by omega
      have hbt : (UInt8.ofNat (o.id.toNat % 256)).toNat = o.id.toNat % 256 := by simp
      refine W_skip (bN (tN (W_rs (sm rfl rfl (st (X.fa fa73_1 rfl) rfl (st (X.ldL rfl hT.blk Tryz.underlying3 rfl rfl) rfl (st (X.fa fa73_1 rfl) rfl (st (X.ldL rfl hT.blk Tryz.underlying3 rfl rfl) rfl (st (X.rem64 rfl rfl (by omega) (by omega)) rfl (st (X.convI (z := ((UInt8.ofNat (o.id.toNat % 256)).toNat : Int)) rfl Tryz.underlying3 Tryz.underlying5 (by rw [hbt]; refine (IntWalk.u8_in _ (by omega)).trans ?_; omega)) rfl ?_))))))))))
      refine sc _ Tryz.func48 rfl (by kernel_rfl) rfl rfl ((jrot_any B gd gj D ⟨x, false⟩ v S o.id _ _ hT.j hg.ok).mono ?_)
      rintro e_ w22 ⟨rfl, hJP⟩
      refine cR ?_
      have hst1 := rot_step (x := x) hg hst hhas o.id (UInt8.ofNat (o.id.toNat % 256))
      obtain ⟨v1, S1, hT1, hC⟩ := hT.jstep hJP
      replace hcw := hcw.next hC (fun i hi => .inl hi)
      have hz_w22 := hC.size
      clear hT hC hJP
      have hT := hT1
      clear hT1
      refine Wn (tN (W_rs (sm rfl rfl (st (X.fa fa73_1 rfl) rfl (st (X.ldL rfl hT.blk Tryz.underlying3 rfl rfl) rfl (st (X.fa fa73_1 rfl) rfl (st (X.ldL rfl hT.blk Tryz.underlying3 rfl rfl) rfl (st (X.rem64 rfl rfl (by omega) (by omega)) rfl (st (X.convI (z := ((UInt8.ofNat (o.id.toNat % 256)).toNat : Int)) rfl Tryz.underlying3 Tryz.underlying5 (by rw [hbt]; refine (IntWalk.u8_in _ (by omega)).trans ?_; omega)) rfl ?_)))))))))
      refine sc _ Tryz.func56 rfl (by kernel_rfl) rfl rfl ((rrot_any B gr gx D x u T o.id _ _ hT.r hg.ok (hg.bud (by omega))).mono ?_)
      rintro e_ w23 ⟨rfl, hRP⟩
      refine cR ?_
      skip
      obtain ⟨u1, T1, hT1, hC⟩ := hT.rstep hRP
      replace hcw := hcw.next hC (fun i hi => .inl hi)
      have hz_w23 := hC.size
      clear hT hC hRP
      have hT := hT1
      clear hT1
      refine Wn (tN (W_rs (sm rfl rfl (sa rfl rfl (sa rfl rfl (Wn (tN (W_ret ?_))))))))
      exact (rTT rfl rfl rfl (hT.leave hst1 hcw hla rfl)).1
end Go.Proofs.YtnijmegalgoipaaGreatDoor
namespace Go.Proofs.YtnijmegalgoipaaGreatDoor
open Go.RowKit
def fewO16 (o : Op16) : Bool := decide (o.text.length ≤ 300) && decide (o.picks.length ≤ 10)
def fewM16 (l : List Op16) : Bool := decide (l.length ≤ 60) && l.all fewO16
theorem few16_of {l : List Op16} (h : fewM16 l = true) : l.length ≤ 60 ∧ ∀ q ∈ l, q.text.length ≤ 300 ∧ q.picks.length ≤ 10 := by
 unfold fewM16 at h
 simp only [Bool.and_eq_true, decide_eq_true_eq] at h
 refine ⟨h.1, fun q hq => ?_⟩
 have := List.all_eq_true.1 h.2 q hq
 unfold fewO16 at this
 simpa using this
theorem few16_at {l : List Op16} {i : Nat} {o : Op16} (h : l[i]? = some o) (ho : fewO16 o = false) : l.all fewO16 = false := by
 rw [List.all_eq_false]
 exact ⟨o, List.mem_of_getElem? h, by simp [ho]⟩
theorem few16_next {l : List Op16} {i : Nat} {o : Op16} (h : l[i]? = some o) (hp : (l.take i).all fewO16 = true) (ho : fewO16 o = true) : (l.take (i + 1)).all fewO16 = true := by
 rw [take_next' h, List.all_append, hp]
 simp [ho]
theorem op16_cell {w : World} {g o n c : Nat} {ops : List Op16} (h : Reads w 4 (.slice (some ⟨g, o, none⟩) n c) n (ops.flatMap Op16.cells)) (hn : ops.length = n) {i j : Nat} {q : Op16} {v : Value} (hq : ops[i]? = some q) (hv : q.cells[j]? = some v) : w.cell? ⟨g, o + i * 4 + j, none⟩ = some v := by
 subst hn
 exact h.rec_ (f := Op16.cells) (fun a _ => Op16.cells_length a) hq j v hv
theorem Few16_any (v : Value) (l : List Op16) (w : World) (h : Ops16At w v l) : Calls Tryz.prog 31 #[v] w fun e w' => e = .returned (.bool (fewM16 l)) ∧ Below w.heap.size w w' := by
 obtain ⟨a, c, rfl, hc1, hc2⟩ := h.1.shape
 have hR := h.1
 have hnn := hR.nle
 refine W_enter (args := [.slice a l.length c]) 29 Tryz.func31 rfl rfl rfl (W_sub [(0, .slice a l.length c)] ?_ ⟨rfl, trivial⟩)
 have hbw := Below.refl w.heap.size w
 refine W_rs (sa rfl rfl (Wn (tN (W_seq (W_rs (sm rfl rfl (st (X.lenL rfl rfl Tryz.underlying59) rfl (st (X.gtr rfl rfl) rfl (Wn (tN ?_))))))))))
 refine W_if rfl (fun h6 => ?_) (fun h6 => ?_)
 ·first | replace h6 := of_decide_eq_true h6 | replace h6 := of_decide_eq_false (notT h6) | replace h6 := notT h6 | skip
  refine W_rs (sa rfl rfl (Wn (tN (W_ret (tR ((rT rfl rfl ⟨?_, hbw⟩).1))))))
  unfold fewM16
  rw [decide_eq_false (by omega), Bool.false_and]
 ·first | replace h6 := of_decide_eq_false h6 | replace h6 := of_decide_eq_true (notF h6) | replace h6 := notF h6 | skip
  refine W_skip (tN (W_seq (W_rs (sa rfl rfl (Wn (tN (W_block (W_lp (fun nw1_ lw1_ w1 => ∃ i : Nat, nw1_ = l.length - i ∧ lw1_ = ([(0, .slice a l.length c), (3, .int .i64 i)] : Env) ∧ (i ≤ l.length) ∧ (Below w.heap.size w w1) ∧ ((l.take i).all fewO16 = true) ∧ (Reads w1 4 (.slice a l.length c) l.length (l.flatMap Op16.cells))) _ ⟨_, ⟨0, rfl, rfl, Nat.zero_le _, hbw, rfl, hR⟩, ⟨rfl, rfl, trivial⟩⟩ ?_))))))))
  clear hbw hR
  rintro nw1_ lw1_ w1 ⟨i, rfl, rfl, hi, hbw, hp, hR⟩
  have hz_w1 := hbw.size
  refine W_seq (W_rs (sm rfl rfl (sm rfl rfl (st (X.lenL rfl rfl Tryz.underlying59) rfl (st (X.lss rfl rfl) rfl (Wn (tN (W_if rfl (fun h10 => ?_) (fun h10 => ?_)))))))))
  ·first | replace h10 := of_decide_eq_true h10 | replace h10 := of_decide_eq_false (notT h10) | replace h10 := notT h10 | skip
   obtain ⟨q, hq⟩ : ∃ q, l[i]? = some q := ⟨_, List.getElem?_eq_getElem (by omega)⟩
   obtain ⟨g1, o1, c', hv, hg1⟩ := hR.some_ (by omega)
   injection hv with e1 _ e3
   subst e1 e3
   obtain ⟨ap, cp, hvp, hcp, _⟩ := (h.2 q (List.mem_of_getElem? hq)).picks.shape
   refine W_skip (tN (W_seq (W_block (W_rs (sm rfl rfl (sm rfl rfl (st (X.idxA rfl rfl Tryz.underlying59 siz73 rfl (by omega)) rfl (st (X.fa fa73_2 rfl) rfl (st (X.ld rfl Tryz.underlying9 rfl (op16_cell hR rfl hq rfl)) rfl (st (X.lenS rfl rfl Tryz.underlying9) rfl ?_))))))))))
   refine st (X.gtr rfl rfl) rfl (sb rfl rfl (fun h20 => ?_) (fun h20 => ?_))
   ·first | replace h20 := of_decide_eq_true h20 | replace h20 := of_decide_eq_false (notT h20) | replace h20 := notT h20 | skip
    refine gN (g := 20) rfl rfl rfl rfl (gN (g := 20) rfl rfl rfl rfl (gN (g := 20) rfl rfl rfl rfl (gN (g := 20) rfl rfl rfl rfl (gN (g := 20) rfl rfl rfl rfl (gN (g := 20) rfl rfl rfl rfl (gN (g := 20) rfl rfl rfl rfl (st (X.pickT rfl rfl) rfl (Wn (tN (W_yes rfl (rfl) ?_))))))))))
    refine W_rs (sa rfl rfl (Wn (tN (W_ret (bR (tR (tR (bR (tR ((rT rfl rfl ⟨?_, hbw⟩).1))))))))))
    unfold fewM16
    rw [few16_at hq (by unfold fewO16; simp only [Bool.and_eq_false_iff, decide_eq_false_iff_not]; omega), Bool.and_false]
   ·first | replace h20 := of_decide_eq_false h20 | replace h20 := of_decide_eq_true (notF h20) | replace h20 := notF h20 | skip
    refine gY (g := 20) rfl rfl rfl (sm rfl rfl (gY (g := 20) rfl rfl rfl (sm rfl rfl (gY (g := 20) rfl rfl rfl (st (X.idxA rfl rfl Tryz.underlying59 siz73 rfl (by omega)) rfl (gY (g := 20) rfl rfl rfl (st (X.fa fa73_3 rfl) rfl (gY (g := 20) rfl rfl rfl (st (X.ld rfl Tryz.underlying34 rfl (op16_cell hR rfl hq (v := .slice ap q.picks.length cp) (by rw [← hvp]; rfl))) rfl ?_)))))))))
    refine gY (g := 20) rfl rfl rfl (st (X.lenL rfl rfl Tryz.underlying34) rfl (gY (g := 20) rfl rfl rfl (st (X.gtr rfl rfl) rfl (st (X.pickF rfl rfl) rfl (Wn (tN (W_if rfl (fun h28 => ?_) (fun h28 => ?_))))))))
    ·first | replace h28 := of_decide_eq_true h28 | replace h28 := of_decide_eq_false (notT h28) | replace h28 := notT h28 | skip
     refine W_rs (sa rfl rfl (Wn (tN (W_ret (bR (tR (tR (bR (tR ((rT rfl rfl ⟨?_, hbw⟩).1))))))))))
     unfold fewM16
     rw [few16_at hq (by unfold fewO16; simp only [Bool.and_eq_false_iff, decide_eq_false_iff_not]; omega), Bool.and_false]
    ·first | replace h28 := of_decide_eq_false h28 | replace h28 := of_decide_eq_true (notF h28) | replace h28 := notF h28 | skip
     refine W_skip (bN (tN (W_reg (sm rfl rfl (st (X.add64 rfl rfl (by omega)) rfl (sa rfl rfl (Wn (tN ⟨_, _, ?_, ⟨i + 1, rfl, rfl, by omega, hbw, few16_next hq hp (by unfold fewO16; simp only [Bool.and_eq_true, decide_eq_true_eq]; omega), hR⟩, ⟨rfl, rfl, trivial⟩⟩))))))))
     omega
  ·first | replace h10 := of_decide_eq_false h10 | replace h10 := of_decide_eq_true (notF h10) | replace h10 := notF h10 | skip
   obtain rfl : i = l.length := by omega
   refine W_exit (tE (tE (bH (tN (W_rs (sa rfl rfl (Wn (tN (W_ret ((rT rfl rfl ⟨?_, hbw⟩).1))))))))))
   unfold fewM16
   rw [List.take_length] at hp
   rw [hp, decide_eq_true (by omega), Bool.and_self]
end Go.Proofs.YtnijmegalgoipaaGreatDoor
namespace Go.Proofs.YtnijmegalgoipaaGreatDoor
open Go.RowKit
def PSt (B : Nat) (w : World) (gd gr : Nat) (D : DiskD) (jo xo : Option Addr) (i : Nat) : Prop :=
  (jo = none ∧ xo = none ∧ ∃ S T, Own B w gd D S ∧ ROwn B w gr D T ∧ ∀ k, S k → ¬ T k) ∨
  (∃ gj gx x v u S T, jo = some ⟨gj, 0, none⟩ ∧ xo = some ⟨gx, 0, none⟩ ∧ JAll B w gd gj D ⟨x, false⟩ v S ∧ RJAll B w gr gx D x u T ∧ (∀ k, Fp S gj v k → ¬ Fp T gx u k) ∧ x.next ≤ 5000000000 + i ∧ x.done.length ≤ 20000000 + i ∧ (mget D.files jName).isSome = true)
section
variable {B gd gr i n : Nat} {w w1 w' : World} {D : DiskD} {jo xo po : Option Addr} {S T S1 : Nat → Prop}
theorem PSt.bel (h : PSt B w gd gr D jo xo i) (hb : Below w.heap.size w w') : PSt B w' gd gr D jo xo i := by
 rcases h with ⟨h1, h2, S, T, h3, h4, h5⟩ | ⟨gj, gx, x, v, u, S, T, h1, h2, h3, h4, h5⟩
 ·exact .inl ⟨h1, h2, S, T, h3.bel hb, h4.bel hb, h5⟩
 ·exact .inr ⟨gj, gx, x, v, u, S, T, h1, h2, h3.bel hb, h4.bel hb, h5⟩
theorem PSt.up (h : PSt B w gd gr D jo xo i) : PSt B w gd gr D jo xo (i + 1) := by
 rcases h with h | ⟨gj, gx, x, v, u, S, T, h1, h2, h3, h4, h5, h6, h7, h8⟩
 ·exact .inl h
 ·exact .inr ⟨gj, gx, x, v, u, S, T, h1, h2, h3, h4, h5, by omega, by omega, h8⟩
theorem PSt.owns (h : PSt B w gd gr D jo xo i) : ∃ S T, Own B w gd D S ∧ ROwn B w gr D T ∧ ∀ k, S k → ¬ T k := by
 rcases h with ⟨h1, h2, h⟩ | ⟨gj, gx, x, v, u, S, T, h1, h2, h3, h4, h5, _⟩
 ·exact h
 ·exact ⟨S, T, h3.jf.own, h4.rf.own, fun k a b => h5 k (.inl a) (.inl b)⟩
def JO (B : Nat) (w : World) (gd : Nat) (S : Nat → Prop) (D : DiskD) (po : Option Addr) (w' : World) : Prop :=
  ∃ S', Own B w' gd (openR D).2 S' ∧ (∀ k, S' k → S k ∨ w.heap.size ≤ k) ∧ Chg S w w' ∧ match (openR D).1.1 with
    | none => po = none
    | some x => ∃ gj v, po = some ⟨gj, 0, none⟩ ∧ JAll B w' gd gj (openR D).2 (viewJ x) v S' ∧ w.heap.size ≤ gj ∧ ∀ k, v.ownBlock = some k → w.heap.size ≤ k
def RO (B : Nat) (w : World) (gr : Nat) (T : Nat → Prop) (D : DiskD) (xo : Option Addr) (w' : World) : Prop :=
  ∃ T', ROwn B w' gr (openR D).2 T' ∧ (∀ k, T' k → T k ∨ w.heap.size ≤ k) ∧ Chg T w w' ∧ match (openR D).1.1 with
    | none => xo = none
    | some x => ∃ gx v, xo = some ⟨gx, 0, none⟩ ∧ RJAll B w' gr gx (openR D).2 (viewJ x).x v T' ∧ w.heap.size ≤ gx ∧ ∀ k, v.ownBlock = some k → w.heap.size ≤ k
theorem JOpen_u (hd : Own B w gd D S) (hB : B ≤ w.heap.size) (hg : Good n D) (hn : n ≤ 400000) (hst : D.stops = false) :
  Calls Tryz.prog 18 #[.pointer (some ⟨gd, 0, none⟩)] w (fun e w' => ∃ po, e = .returned (.tuple #[.pointer po, .int .i64 (openR D).1.2]) ∧ JO B w gd S D po w') := by
 refine (Open_any B gd D S n w hd hB hg (by omega)).mono ?_
 rintro e w' ⟨S', h1, h2, h3, h4⟩
 obtain ⟨hq, _⟩ := open_all hg hst
 rw [hq] at h1 h4
 unfold JO
 dsimp only at h1 h4
 cases hx : (openR D).1.1 with
 | none =>
  rw [hx] at h4
  exact ⟨none, h4, S', h1, h2, h3, rfl⟩
 | some x =>
  rw [hx] at h4
  obtain ⟨gj, v, rfl, a, b, c⟩ := h4
  exact ⟨_, rfl, S', h1, h2, h3, gj, v, rfl, a, b, c⟩
theorem ROpen_u (hd : ROwn B w gr D T) (hB : B ≤ w.heap.size) (hg : Good n D) (hn : n ≤ 400000) :
  Calls Tryz.prog 35 #[.pointer (some ⟨gr, 0, none⟩)] w (fun e w' => ∃ xo, e = .returned (.tuple #[.pointer xo, .int .i64 (openR D).1.2]) ∧ RO B w gr T D xo w') := by
 refine (ROpen_any B gr D T n w hd hB hg (by omega) (by have := hg.few; omega)).mono ?_
 rintro e w' ⟨T', h1, h2, h3, h4⟩
 unfold RO
 cases hx : (openR D).1.1 with
 | none =>
  rw [hx] at h4
  exact ⟨none, h4, T', h1, h2, h3, rfl⟩
 | some x =>
  rw [hx] at h4
  obtain ⟨gx, v, rfl, a, b, c⟩ := h4
  exact ⟨_, rfl, T', h1, h2, h3, gx, v, rfl, a, b, c⟩
theorem open_bound (hg : Good n D) {x : ScM} (h : (openR D).1.1 = some x) : x.next ≤ 5000000000 ∧ x.done.length ≤ 20000000 := by
 have hs : (readM D jName 0 1073741824).1.length ≤ 16777216 := by
  unfold readM
  split
  ·exact Nat.zero_le _
  ·rename_i f hf
   split
   ·exact Nat.zero_le _
   ·have := (hg.ok.len hf).1
    simp only [List.length_take, List.length_drop]
    omega
 have hx : x = scanM (readM D jName 0 1073741824).1 := by
  unfold openR at h
  dsimp only at h
  split at h
  all_goals (split at h)
  all_goals (try split at h)
  all_goals first | (injection h with h; exact h.symm) | cases h
 have ho := scanM_ok (readM D jName 0 1073741824).1
 rw [← hx] at ho
 have h1 := ho.good
 have h2 := ho.next
 have h3 := ho.done
 omega
theorem PSt.opened (hr : ROwn B w gr D T) (hdis : ∀ k, S k → ¬ T k) (hg : Good n D) (hst : D.stops = false) (hj : JO B w gd S D po w1) (hx : RO B w1 gr T D xo w') : PSt B w' gd gr (openR D).2 po xo i ∧ (openR D).2.stops = false := by
 obtain ⟨S', a1, a2, a3, a4⟩ := hj
 obtain ⟨T', b1, b2, b3, b4⟩ := hx
 obtain ⟨q1, q2, q3, q4⟩ := open_all hg hst
 have hz := a3.size
 have hdis1 : ∀ k, S' k → ¬ T k := fun k h1 h2 => by
  rcases a2 k h1 with e | e
  ·exact hdis k e h2
  ·have := (hr.lo k h2).2; omega
 have hdis2 : ∀ k, S' k → ¬ T' k := fun k h1 h2 => by
  rcases b2 k h2 with e | e
  ·exact hdis1 k h1 e
  ·have := (a1.lo k h1).2; omega
 have hown : Own B w' gd (openR D).2 S' := a1.other b3 (fun k h1 h2 => hdis1 k h2 h1)
 refine ⟨?_, q2⟩
 cases hx : (openR D).1.1 with
 | none =>
  rw [hx] at a4 b4
  exact .inl ⟨a4, b4, S', T', hown, b1, hdis2⟩
 | some x =>
  have hb := open_bound hg hx
  have hh := (q3 (by rw [hx]; rfl)).2
  rw [hx] at a4 b4
  obtain ⟨gj, v, rfl, c1, c2, c3⟩ := a4
  obtain ⟨gx, u, rfl, d1, d2, d3⟩ := b4
  have hf := c1.fp
  have hoff : ∀ k, T k → ¬ Fp S' gj v k := fun k hk e => by
   have := (hr.lo k hk).2
   rcases e with e | e | e
   ·exact hdis1 k e hk
   ·omega
   ·have := c3 k e; omega
  refine .inr ⟨gj, gx, { x with open_ := 0, last := [] }, v, u, S', T', rfl, rfl, c1.off b3 hoff, d1, fun k h1 h2 => ?_, by show x.next ≤ _; omega, by show x.done.length ≤ _; omega, hh⟩
  have := (hf k h1).2
  rcases h2 with e | e | e
  ·rcases b2 k e with e | e
   ·exact hoff k e h1
   ·omega
  ·omega
  ·have := d3 k e; omega
theorem same_all (h : PSt B w gd gr D jo xo i) (hi : i ≤ 1000) : Calls Tryz.prog 36 #[.pointer jo, .pointer xo] w fun e w' => e = .returned (.bool true) ∧ Below w.heap.size w w' := by
 rcases h with ⟨rfl, rfl, _⟩ | ⟨gj, gx, x, v, u, S, T, rfl, rfl, h3, h4, h5, h6, h7, h8⟩
 ·exact same_nil w
 ·exact same_any B gd gr gj gx D x v u S T w h3 h4 (by omega)
theorem does_all (o : Op16) (la : Int) (h : PSt B w gd gr D jo xo i) (hi : i ≤ 1000) (hg : Good n D) (hn : n ≤ 400000) (hst : D.stops = false) (hla : la ≤ 9223372036854775807) (hid : o.id ≤ 9223372036854775807) (htx : o.text.length ≤ 300) (hask : o.ask = 1 ∨ o.ask = 2 ∨ o.ask = 3 ∨ o.ask = 4 ∨ 0 ≤ o.id) (hB : B ≤ w.heap.size) :
  Calls Tryz.prog 38 #[.pointer (some ⟨gd, 0, none⟩), .pointer jo, .pointer (some ⟨gr, 0, none⟩), .pointer xo, .agg #[.int .i64 o.ask, .int .i64 o.id, str o.text, o.vp], .int .i64 la] w (fun e w' => ∃ la' D', e = .returned (.tuple #[.int .i64 la', .bool true]) ∧ la' ≤ 9223372036854775807 ∧ PSt B w' gd gr D' jo xo (i + 1) ∧ D'.stops = false ∧ Good (n + 1000) D' ∧ Below B w w') := by
 rcases h with ⟨rfl, rfl, S, T, h3, h4, h5⟩ | ⟨gj, gx, x, v, u, S, T, rfl, rfl, h3, h4, h5, h6, h7, h8⟩
 ·refine (does16_nil gd gr o la w).mono ?_
  rintro e w' ⟨rfl, hb⟩
  exact ⟨0, D, rfl, by omega, .inl ⟨rfl, rfl, S, T, h3.bel hb, h4.bel hb, h5⟩, hst, hg.mono (by omega), ⟨hb.os, hb.tape, hb.output, hb.size, fun k hk => hb.block k (by omega)⟩⟩
 ·refine (does16_any B gd gr gj gx D x v u S T o la n w h3 h4 h5 hg hn hst h8 (by omega) (by omega) hla hid htx hask).mono ?_
  rintro e w' ⟨la', D', x', v', u', S', T', rfl, a1, a2, a3, a4, a5, a6⟩
  have e1 := a5.next
  have e2 := a5.done
  simp only at e1 e2
  exact ⟨la', D', rfl, a1, .inr ⟨gj, gx, x', v', u', S', T', rfl, rfl, a2, a3, a4, by omega, by omega, a5.has⟩, a5.stops, a5.good, a6.below hB (fun _ h => h)⟩
theorem RUsed_own (h : ROwn B w gr D T) (hg : Good n D) (hn : n ≤ 400000) : Calls Tryz.prog 40 #[.pointer (some ⟨gr, 0, none⟩)] w fun e w' => e = .returned (.int .i64 D.used) ∧ Below w.heap.size w w' := by
 obtain ⟨vF, rs, h1, _⟩ := h.at_
 exact RUsed_any gr D vF rs w h1 hg.ok (hg.bud (by omega))
end
set_option maxRecDepth 10000 in
theorem JournalPlays_walk (w : World) (lim : Int) (vl : Value) (l : List Op16) (hO : Ops16At w vl l) :
  Calls Tryz.prog 8 #[.int .i64 lim, vl] w fun e w' => e = .returned (.bool true) ∧ Below w.heap.size w w' := by
 obtain ⟨a, c, rfl, hc1, hc2⟩ := hO.1.shape
 have hnn := hO.1.nle
 by_cases hlim : 0 ≤ lim ∧ lim ≤ 16777216
 ·have g0 : Good 10 (newM lim) := Good.new hlim
  have hfl := @few16_of l
  refine W_enter (args := [.int .i64 lim, .slice a l.length c]) 145 Tryz.func8 rfl rfl rfl (W_sub [(0, .int .i64 lim), (1, .slice a l.length c)] ?_ ⟨rfl, rfl, trivial⟩)
  have hbw := Below.refl w.heap.size w
  refine W_rs (sa rfl rfl (Wn (tN (W_rs (sm rfl rfl (sc _ Tryz.func9 rfl (by kernel_rfl) rfl rfl ((New_ok lim _ hlim).mono ?_)))))))
  rintro e_ w1 ⟨gd, S0, rfl, h0, hS0, hb⟩
  refine cR ?_
  replace hbw := bthen hbw hb
  have hz_w1 := hb.size
  clear hb
  have hd : Own w.heap.size w1 gd (newM lim) S0 := ⟨h0, fun k hk => by have := hS0 k hk; have := hbw.size; omega⟩
  have hlo := hd.lo
  clear h0 hS0
  refine sm rfl rfl (st (X.ext rfl rfl) rfl (st (X.ext rfl rfl) rfl (sa rfl rfl (sa rfl rfl (Wn (tN (W_rs (sm rfl rfl (sc _ Tryz.func10 rfl (by kernel_rfl) rfl rfl ((RNew_ok lim _ hlim).mono ?_))))))))))
  rintro e_ w2 ⟨gr, T0, rfl, h0, hT0, hb⟩
  refine cR ?_
  replace hbw := bthen hbw hb
  replace hd := hd.bel hb
  have hz_w2 := hb.size
  clear hb
  have hr : ROwn w.heap.size w2 gr (newM lim) T0 := ⟨h0, fun k hk => by have := hT0 k hk; have := hbw.size; omega⟩
  have hdr : ∀ k, S0 k → ¬ T0 k := fun k h1 h2 => by have := hlo k h1; have := hT0 k h2; omega
  clear h0 hT0 hlo
  refine sm rfl rfl (st (X.ext rfl rfl) rfl (st (X.ext rfl rfl) rfl (sa rfl rfl (sa rfl rfl (Wn (tN (W_seq (W_rs (sm rfl rfl (sm rfl rfl ?_))))))))))
  refine st (X.neq rfl rfl) rfl (sbN rfl (rfl) rfl (gY (g := 31) rfl rfl rfl (sm rfl rfl (gY (g := 31) rfl rfl rfl (st (X.neq rfl rfl) rfl (st (X.pickF rfl rfl) rfl (sbN rfl (rfl) rfl (gY (g := 35) rfl rfl rfl (sm rfl rfl (gY (g := 35) rfl rfl rfl ?_))))))))))
  refine sc _ Tryz.func31 rfl (by kernel_rfl) rfl rfl ((Few16_any _ l _ (hO.bel hbw)).mono ?_)
  rintro e_ w3 ⟨rfl, hb⟩
  refine cR ?_
  replace hbw := bthen hbw hb
  replace hd := hd.bel hb
  replace hr := hr.bel hb
  have hz_w3 := hb.size
  clear hb
  refine gY (g := 35) rfl rfl rfl (st (X.not rfl) rfl (st (X.pickF rfl rfl) rfl (Wn (tN (W_if rfl (fun h39 => ?_) (fun h39 => ?_))))))
  ·first | replace h39 := of_decide_eq_true h39 | replace h39 := of_decide_eq_false (notT h39) | replace h39 := notT h39 | skip
   refine W_rs (sm rfl rfl (sm rfl rfl (st (X.eql rfl rfl) rfl (sbY rfl (rfl) rfl (gY (g := 43) rfl rfl rfl (sc _ Tryz.func17 rfl (by kernel_rfl) rfl rfl ((awake16_any _).mono ?_)))))))
   rintro e_ w4 ⟨rfl, hb⟩
   refine cR ?_
   replace hbw := bthen hbw hb
   replace hd := hd.bel hb
   replace hr := hr.bel hb
   have hz_w4 := hb.size
   clear hb
   refine st (X.pickT rfl rfl) rfl (sa rfl rfl (Wn (tN (W_ret (tR ?_)))))
   exact (rT rfl rfl ⟨rfl, hbw⟩).1
  ·first | replace h39 := of_decide_eq_false h39 | replace h39 := of_decide_eq_true (notF h39) | replace h39 := notF h39 | skip
   obtain ⟨hl60, hlf⟩ := hfl h39
   refine W_skip (tN (W_rs (sm rfl rfl (sc _ Tryz.func18 rfl (by kernel_rfl) rfl rfl ((JOpen_u hd hbw.size g0 (by omega) rfl).mono ?_)))))
   rintro e_ w5 ⟨jo, rfl, hJO⟩
   refine cR ?_
   have hX : Chg S0 _ w5 := hJO.choose_spec.2.2.1
   have hrn := hr.other hX hdr
   have hbwn := bchg hbw hX (fun k hk => (hd.lo k hk).1)
   have hz_w5 := hX.size
   have hr0 := hr
   clear hd hr hbw hX
   have hr := hrn
   have hbw := hbwn
   clear hrn hbwn
   refine sm rfl rfl (st (X.ext rfl rfl) rfl (st (X.ext rfl rfl) rfl (sa rfl rfl (sa rfl rfl (Wn (tN (W_rs (sm rfl rfl (sc _ Tryz.func35 rfl (by kernel_rfl) rfl rfl ((ROpen_u hr hbw.size g0 (by omega)).mono ?_))))))))))
   rintro e_ w6 ⟨xo, rfl, hRO⟩
   refine cR ?_
   have hX : Chg T0 _ w6 := hRO.choose_spec.2.2.1
   have hbwn := bchg hbw hX (fun k hk => (hr.lo k hk).1)
   have hz_w6 := hX.size
   obtain ⟨hP, hst⟩ := PSt.opened (i := 0) hr0 hdr g0 rfl hJO hRO
   have hg : Good 20 (openR (newM lim)).2 := by
    have h1 := open_good2 g0 (show (newM lim).stops = false from rfl)
    rw [(open_all g0 (show (newM lim).stops = false from rfl)).1] at h1
    exact h1.mono (by omega)
   clear hr hr0 hJO hRO hdr hbw hX
   have hbw := hbwn
   clear hbwn
   refine sm rfl rfl (st (X.ext rfl rfl) rfl (st (X.ext rfl rfl) rfl (sa rfl rfl (sa rfl rfl (Wn (tN (W_rs (sa rfl rfl (Wn (tN ?_))))))))))
   refine W_seq (W_rs (sm rfl rfl (sm rfl rfl (st (X.neq rfl rfl) rfl (sbN rfl (decide_eq_false (by simp)) rfl ?_)))))
   refine gY (g := 59) rfl rfl rfl (sm rfl rfl (gY (g := 59) rfl rfl rfl (sm rfl rfl (gY (g := 59) rfl rfl rfl (sc _ Tryz.func36 rfl (by kernel_rfl) rfl rfl ((same_all hP (by omega)).mono ?_))))))
   rintro e_ w7 ⟨rfl, hb⟩
   refine cR ?_
   replace hbw := bthen hbw hb
   replace hP := hP.bel hb
   have hz_w7 := hb.size
   clear hb
   refine gY (g := 59) rfl rfl rfl (st (X.not rfl) rfl (st (X.pickF rfl rfl) rfl (Wn (tN (W_no rfl (rfl) (W_skip (tN (W_seq (W_rs (sa rfl rfl ?_))))))))))
   refine Wn (tN (W_block (W_lp (fun nw8_ lw8_ w8 => ∃ i : Nat, ∃ D : DiskD, ∃ jo : Option Addr, ∃ xo : Option Addr, ∃ la : Int, nw8_ = l.length - i ∧ lw8_ = ([(1, .slice a l.length c), (5, .pointer (some ⟨gd, 0, none⟩)), (7, .pointer (some ⟨gr, 0, none⟩)), (9, .pointer jo), (11, .pointer xo), (13, .int .i64 la), (14, .int .i64 i)] : Env) ∧ (PSt w.heap.size w8 gd gr D jo xo i) ∧ (Good (20 + 1000 * i) D) ∧ (D.stops = false) ∧ (i ≤ l.length) ∧ (Below w.heap.size w w8) ∧ (la ≤ 9223372036854775807)) _ ⟨_, ⟨0, _, jo, xo, 0, rfl, rfl, hP, hg, hst, Nat.zero_le _, hbw, by omega⟩, ⟨rfl, rfl, rfl, rfl, rfl, rfl, rfl, trivial⟩⟩ ?_)))
   clear hg hst hbw
   rintro nw8_ lw8_ w8 ⟨i, D, jo, xo, la, rfl, rfl, hQ, hg, hst, hi, hbw, hla⟩
   have hz_w8 := hbw.size
   refine W_seq (W_rs (sm rfl rfl (sm rfl rfl (st (X.lenL rfl rfl Tryz.underlying59) rfl (st (X.lss rfl rfl) rfl (Wn (tN (W_if rfl (fun h68 => ?_) (fun h68 => ?_)))))))))
   ·first | replace h68 := of_decide_eq_true h68 | replace h68 := of_decide_eq_false (notT h68) | replace h68 := notT h68 | skip
    obtain ⟨o, ho⟩ : ∃ o, l[i]? = some o := ⟨_, List.getElem?_eq_getElem (by omega)⟩
    have hom := List.mem_of_getElem? ho
    obtain ⟨g1, o1, c', hv, hg1⟩ := hO.1.some_ (by omega)
    injection hv with e1 _ e3
    subst e1 e3
    obtain ⟨hot, hop⟩ := hlf o hom
    have hok := hO.2 o hom
    obtain ⟨ap, cp, hvp, hcp, _⟩ := hok.picks.shape
    have hcells : o.cells = [.int .i64 o.ask, .int .i64 o.id, str o.text, .slice ap o.picks.length cp] := by unfold Op16.cells; rw [hvp]
    have hKlt : 0 < o.picks.length → ∀ k, (Value.slice ap o.picks.length cp).ownBlock = some k → k < w.heap.size := fun h0 k hk => hok.picks.ownLt h0 (hvp ▸ hk)
    have hgm : Good (20 + 1000 * (i + 1)) D := hg.mono (by omega)
    refine W_skip (tN (W_seq (W_block (W_rs (sm rfl rfl (sm rfl rfl (st (X.idxA rfl rfl Tryz.underlying59 siz73 rfl (by omega)) rfl ?_)))))))
    obtain ⟨S, T, hd, hr, hdr⟩ := hQ.owns
    have hlo9 := hd.lo
    have hlr9 := hr.lo
    refine st (X.ldN (cs := [.int .i64 o.ask, .int .i64 o.id, str o.text, .slice ap o.picks.length cp]) rfl Tryz.underlying73 rfl siz73 (hcells ▸ (hO.1.bel hbw).rec_ (f := Op16.cells) (fun a _ => Op16.cells_length a) ho)) rfl (salA inf73 rfl (fun g15 w9 hB15 hg15 hb hl15 => ?_))
    have hpend := hb
    replace hbw := bthen hbw hb
    have hz_w9 := hb.size
    clear hb
    refine ssBN rfl rfl hB15 siz73 rfl rfl (fun w10 hB_ hc_ => ?_)
    replace hB15 := hB_
    clear hB_
    replace hpend := bset hpend hc_ (by omega)
    replace hbw := bset hbw hc_ (by omega)
    have hz_w10 := hc_.size
    clear hc_
    refine Wn (tN (W_seq (W_rs ?_)))
    replace hQ := hQ.bel hpend
    replace hd := hd.bel hpend
    replace hr := hr.bel hpend
    clear hpend
    have hQ2 := hQ
    refine st (X.fa fa73_0 rfl) rfl (st (X.ldL rfl hB15 Tryz.underlying3 rfl rfl) rfl (st (X.lss rfl rfl) rfl (sb rfl rfl (fun h78 => ?_) (fun h78 => ?_))))
    ·first | replace h78 := of_decide_eq_true h78 | replace h78 := of_decide_eq_false (notT h78) | replace h78 := notT h78 | skip
     have hP' := hQ.up
     have hg' := hgm
     have hst' := hst
     have hla' := hla
     refine gN (g := 78) rfl rfl rfl rfl (gN (g := 78) rfl rfl rfl rfl (gN (g := 78) rfl rfl rfl rfl (st (X.pickT rfl rfl) rfl (sm rfl rfl (gN (g := 83) rfl rfl rfl rfl (gN (g := 83) rfl rfl rfl rfl (gN (g := 83) rfl rfl rfl rfl (gN (g := 83) rfl rfl rfl rfl (gU (g := 87) rfl rfl rfl rfl (gU (g := 87) rfl rfl rfl rfl ?_))))))))))
     refine gU (g := 87) rfl rfl rfl rfl (gN (g := 83) rfl rfl rfl rfl (st (X.pickT rfl rfl) rfl (Wn (tN (W_yes rfl (rfl) (W_exit (tE (bH (tN (W_reg (sm rfl rfl (st (X.add64 rfl rfl (by omega)) rfl ?_))))))))))))
     refine sa rfl rfl (Wn (tN ⟨_, _, ?_, ⟨i + 1, _, _, _, _, rfl, rfl, hP', hg', hst', by omega, hbw, hla'⟩, ⟨rfl, rfl, rfl, rfl, rfl, rfl, rfl, trivial⟩⟩))
     omega
    ·first | replace h78 := of_decide_eq_false h78 | replace h78 := of_decide_eq_true (notF h78) | replace h78 := notF h78 | skip
     refine gY (g := 78) rfl rfl rfl (st (X.fa fa73_0 rfl) rfl (gY (g := 78) rfl rfl rfl (st (X.ldL rfl hB15 Tryz.underlying3 rfl rfl) rfl (gY (g := 78) rfl rfl rfl (st (X.gtr rfl rfl) rfl (st (X.pickF rfl rfl) rfl (sb rfl rfl (fun h83 => ?_) (fun h83 => ?_))))))))
     ·first | replace h83 := of_decide_eq_true h83 | replace h83 := of_decide_eq_false (notT h83) | replace h83 := notT h83 | skip
      have hP' := hQ.up
      have hg' := hgm
      have hst' := hst
      have hla' := hla
      refine gN (g := 83) rfl rfl rfl rfl (gN (g := 83) rfl rfl rfl rfl (gN (g := 83) rfl rfl rfl rfl (gN (g := 83) rfl rfl rfl rfl (gU (g := 87) rfl rfl rfl rfl (gU (g := 87) rfl rfl rfl rfl (gU (g := 87) rfl rfl rfl rfl (gN (g := 83) rfl rfl rfl rfl (st (X.pickT rfl rfl) rfl (Wn (tN ?_))))))))))
      refine W_yes rfl (rfl) (W_exit (tE (bH (tN (W_reg (sm rfl rfl (st (X.add64 rfl rfl (by omega)) rfl (sa rfl rfl (Wn (tN ⟨_, _, ?_, ⟨i + 1, _, _, _, _, rfl, rfl, hP', hg', hst', by omega, hbw, hla'⟩, ⟨rfl, rfl, rfl, rfl, rfl, rfl, rfl, trivial⟩⟩))))))))))
      omega
     ·first | replace h83 := of_decide_eq_false h83 | replace h83 := of_decide_eq_true (notF h83) | replace h83 := notF h83 | skip
      refine gY (g := 83) rfl rfl rfl (st (X.fa fa73_0 rfl) rfl (gY (g := 83) rfl rfl rfl (st (X.ldL rfl hB15 Tryz.underlying3 rfl rfl) rfl (gY (g := 83) rfl rfl rfl (st (X.eql rfl rfl) rfl (gY (g := 83) rfl rfl rfl (sb rfl rfl (fun h87 => ?_) (fun h87 => ?_))))))))
      ·first | replace h87 := of_decide_eq_true h87 | replace h87 := of_decide_eq_false (notT h87) | replace h87 := notT h87 | skip
       refine gY (g := 87) rfl rfl rfl (st (X.fa fa73_1 rfl) rfl (gY (g := 87) rfl rfl rfl (st (X.ldL rfl hB15 Tryz.underlying3 rfl rfl) rfl (gY (g := 87) rfl rfl rfl (st (X.lss rfl rfl) rfl (gY (g := 83) rfl rfl rfl (st (X.pickT rfl rfl) rfl (st (X.pickF rfl rfl) rfl (Wn (tN ?_))))))))))
       refine W_if rfl (fun h92 => ?_) (fun h92 => ?_)
       ·first | replace h92 := of_decide_eq_true h92 | replace h92 := of_decide_eq_false (notT h92) | replace h92 := notT h92 | skip
        have hP' := hQ.up
        have hg' := hgm
        have hst' := hst
        have hla' := hla
        refine W_exit (tE (bH (tN (W_reg (sm rfl rfl (st (X.add64 rfl rfl (by omega)) rfl (sa rfl rfl (Wn (tN ⟨_, _, ?_, ⟨i + 1, _, _, _, _, rfl, rfl, hP', hg', hst', by omega, hbw, hla'⟩, ⟨rfl, rfl, rfl, rfl, rfl, rfl, rfl, trivial⟩⟩)))))))))
        omega
       ·first | replace h92 := of_decide_eq_false h92 | replace h92 := of_decide_eq_true (notF h92) | replace h92 := notF h92 | skip
        refine W_skip (tN (W_seq (W_rs (st (X.fa fa73_0 rfl) rfl (st (X.ldL rfl hB15 Tryz.underlying3 rfl rfl) rfl (st (X.eql rfl rfl) rfl (Wn (tN (W_if rfl (fun h95 => ?_) (fun h95 => ?_))))))))))
        ·first | replace h95 := of_decide_eq_true h95 | replace h95 := of_decide_eq_false (notT h95) | replace h95 := notT h95 | skip
         refine W_rs (sm rfl rfl (sc _ Tryz.func18 rfl (by kernel_rfl) rfl rfl ((JOpen_u hd hbw.size hg (by omega) hst).mono ?_)))
         rintro e_ w11 ⟨po, rfl, hJO⟩
         refine cR ?_
         have hX : Chg S _ w11 := hJO.choose_spec.2.2.1
         have hrn := hr.other hX hdr
         have hbwn := bchg hbw hX (fun k hk => (hd.lo k hk).1)
         have hz_w11 := hX.size
         have hr0 := hr
         clear hd hr hbw hX
         have hr := hrn
         have hbw := hbwn
         clear hrn hbwn
         refine sm rfl rfl (st (X.ext rfl rfl) rfl (st (X.ext rfl rfl) rfl (sa rfl rfl (sa rfl rfl (Wn (tN (W_rs (sm rfl rfl (sc _ Tryz.func35 rfl (by kernel_rfl) rfl rfl ((ROpen_u hr hbw.size hg (by omega)).mono ?_))))))))))
         rintro e_ w12 ⟨yo, rfl, hRO⟩
         refine cR ?_
         have hX : Chg T _ w12 := hRO.choose_spec.2.2.1
         have hbwn := bchg hbw hX (fun k hk => (hr.lo k hk).1)
         have hz_w12 := hX.size
         obtain ⟨hP', hst'⟩ := PSt.opened (i := i + 1) hr0 hdr hg hst hJO hRO
         have hg' : Good (20 + 1000 * (i + 1)) (openR D).2 := by
          have h1 := open_good2 hg hst
          rw [(open_all hg hst).1] at h1
          exact h1.mono (by omega)
         have hla' := hla
         clear hr hr0 hJO hRO hdr hbw hX
         have hbw := hbwn
         clear hbwn
         refine sm rfl rfl (st (X.ext rfl rfl) rfl (st (X.ext rfl rfl) rfl (sa rfl rfl (sa rfl rfl (Wn (tN (W_rs (sm rfl rfl (sm rfl rfl (st (X.neq rfl rfl) rfl ?_))))))))))
         refine Wn (tN (W_no rfl (decide_eq_false (by simp)) ?_))
         refine W_skip (tN (W_rs (sm rfl rfl (sm rfl rfl (sc _ Tryz.func36 rfl (by kernel_rfl) rfl rfl ((same_all hP' (by omega)).mono ?_))))))
         rintro e_ w13 ⟨rfl, hb⟩
         refine cR ?_
         replace hbw := bthen hbw hb
         replace hP' := hP'.bel hb
         have hz_w13 := hb.size
         clear hb
         refine st (X.not rfl) rfl (Wn (tN (W_no rfl (rfl) (W_skip (bN (tN (W_reg (sm rfl rfl (st (X.add64 rfl rfl (by omega)) rfl (sa rfl rfl ?_))))))))))
         refine Wn (tN ⟨_, _, ?_, ⟨i + 1, _, _, _, _, rfl, rfl, hP', hg', hst', by omega, hbw, hla'⟩, ⟨rfl, rfl, rfl, rfl, rfl, rfl, rfl, trivial⟩⟩)
         omega
        ·first | replace h95 := of_decide_eq_false h95 | replace h95 := of_decide_eq_true (notF h95) | replace h95 := notF h95 | skip
         refine W_rs (st (X.fa fa73_0 rfl) rfl (st (X.ldL rfl hB15 Tryz.underlying3 rfl rfl) rfl (st (X.eql rfl rfl) rfl (Wn (tN (W_if rfl (fun h111 => ?_) (fun h111 => ?_)))))))
         ·first | replace h111 := of_decide_eq_true h111 | replace h111 := of_decide_eq_false (notT h111) | replace h111 := notT h111 | skip
          refine W_rs (sm rfl rfl (st (X.fa fa73_3 rfl) rfl (st (X.ldL rfl hB15 Tryz.underlying34 rfl rfl) rfl ?_)))
          have hlo := hd.lo
          have hlr := hr.lo
          have hKv : Reads w10 1 (.slice ap o.picks.length cp) o.picks.length (o.picks.map fun k => .int .i64 k) := hvp ▸ hok.picks.bel hbw
          refine sc _ Tryz.func23 rfl (by kernel_rfl) rfl rfl ((Crash_any gd D S _ o.picks _ hd.at_ hg.ok (hg.bud (by omega)) (by have := hg.few; omega) hKv (fun h0 k hk e => by have := hKlt h0 k hk; have := hlo k e; omega)).mono ?_)
          rintro e_ w14 ⟨rfl, h1, hX⟩
          refine cR ?_
          have hdn := hd.step h1 hX hbw.size
          have hrn := hr.other hX hdr
          have hdrn := hr.ext (w' := w14) hdr
          have hB15n := hB15.chg hX (fun e => by have := (hlo9 _ e).2; omega)
          have hbwn := bchg hbw hX (fun k hk => (hd.lo k hk).1)
          have hz_w14 := hX.size
          have hKv2 : Reads w14 1 (.slice ap o.picks.length cp) o.picks.length (o.picks.map fun k => .int .i64 k) := hvp ▸ hok.picks.bel hbwn
          clear hd hr hdr hbw h1 hX hlo hB15 hKv
          have hd := hdn
          have hr := hrn
          have hdr := hdrn
          have hbw := hbwn
          have hB15 := hB15n
          clear hdn hrn hdrn hbwn hB15n
          refine Wn (tN (W_rs (sm rfl rfl (st (X.fa fa73_3 rfl) rfl (st (X.ldL rfl hB15 Tryz.underlying34 rfl rfl) rfl (sc _ Tryz.func37 rfl (by kernel_rfl) rfl rfl ((RCrash_any gr D T _ hr.at_ _ o.picks hg.ok (hg.bud (by omega)) hKv2 (fun h0 k hk e => by have := hKlt h0 k hk; have := hlr k e; omega)).mono ?_)))))))
          rintro e_ w15 ⟨rfl, h1, hX⟩
          refine cR ?_
          have hrn := hr.step h1 hX hbw.size
          have hdn := hd.other hX (Ext.flip hdr)
          have hdrn : ∀ k, Ext S _ _ k → ¬ Ext T _ _ k := Ext.flip (hd.ext (w' := w15) (Ext.flip hdr))
          have hbwn := bchg hbw hX (fun k hk => (hr.lo k hk).1)
          have hz_w15 := hX.size
          have hP' : PSt w.heap.size w15 gd gr (crashD D o.picks) none none (i + 1) := .inl ⟨rfl, rfl, _, _, hdn, hrn, hdrn⟩
          have hg' := (crash_good hg o.picks).mono (m := 20 + 1000 * (i + 1)) (by omega)
          have hst' : (crashD D o.picks).stops = false := rfl
          have hla' := hla
          clear hd hr hdr hbw h1 hX hdn hrn hdrn
          have hbw := hbwn
          clear hbwn
          refine Wn (tN (W_rs (sa rfl rfl (Wn (tN (W_reg (sa rfl rfl (Wn (tN (W_rs ?_))))))))))
          refine sm rfl rfl (sm rfl rfl (sc _ Tryz.func36 rfl (by kernel_rfl) rfl rfl ((same_all hP' (by omega)).mono ?_)))
          rintro e_ w16 ⟨rfl, hb⟩
          refine cR ?_
          replace hbw := bthen hbw hb
          replace hP' := hP'.bel hb
          have hz_w16 := hb.size
          clear hb
          refine st (X.not rfl) rfl (Wn (tN (W_no rfl (rfl) (W_skip (bN (tN (W_reg (sm rfl rfl (st (X.add64 rfl rfl (by omega)) rfl (sa rfl rfl ?_))))))))))
          refine Wn (tN ⟨_, _, ?_, ⟨i + 1, _, _, _, _, rfl, rfl, hP', hg', hst', by omega, hbw, hla'⟩, ⟨rfl, rfl, rfl, rfl, rfl, rfl, rfl, trivial⟩⟩)
          omega
         ·first | replace h111 := of_decide_eq_false h111 | replace h111 := of_decide_eq_true (notF h111) | replace h111 := notF h111 | skip
          refine W_rs (sm rfl rfl (sm rfl rfl (sm rfl rfl (sm rfl rfl (st (X.ldBN rfl hB15 Tryz.underlying73 rfl siz73) rfl (sm rfl rfl ?_))))))
          have hda := does_all o la hQ (by omega) hg (by omega) hst hla hok.id.2 hot (by omega) hbw.size
          rw [hvp] at hda
          refine sc _ Tryz.func38 rfl (by kernel_rfl) rfl rfl ((hda).mono ?_)
          rintro e_ w17 ⟨la', D', rfl, hla', hP', hst', hg2, hBel⟩
          refine cR ?_
          have hz_w17 := hBel.size
          replace hbw := hbw.trans hBel
          have hg' := hg2.mono (m := 20 + 1000 * (i + 1)) (by omega)
          clear hBel hda
          refine sm rfl rfl (st (X.ext rfl rfl) rfl (st (X.ext rfl rfl) rfl (sa rfl rfl (sa rfl rfl (Wn (tN (W_rs (sm rfl rfl (sa rfl rfl (Wn ?_))))))))))
          refine tN (W_rs (sm rfl rfl (st (X.not rfl) rfl (Wn (tN (W_no rfl (rfl) (W_skip (tN (W_rs (sm rfl rfl ?_))))))))))
          refine sm rfl rfl (sc _ Tryz.func36 rfl (by kernel_rfl) rfl rfl ((same_all hP' (by omega)).mono ?_))
          rintro e_ w18 ⟨rfl, hb⟩
          refine cR ?_
          replace hbw := bthen hbw hb
          replace hP' := hP'.bel hb
          have hz_w18 := hb.size
          clear hb
          refine st (X.not rfl) rfl (Wn (tN (W_no rfl (rfl) (W_skip (bN (tN (W_reg (sm rfl rfl (st (X.add64 rfl rfl (by omega)) rfl (sa rfl rfl ?_))))))))))
          refine Wn (tN ⟨_, _, ?_, ⟨i + 1, _, _, _, _, rfl, rfl, hP', hg', hst', by omega, hbw, hla'⟩, ⟨rfl, rfl, rfl, rfl, rfl, rfl, rfl, trivial⟩⟩)
          omega
      ·first | replace h87 := of_decide_eq_false h87 | replace h87 := of_decide_eq_true (notF h87) | replace h87 := notF h87 | skip
       refine gN (g := 87) rfl rfl rfl rfl (gN (g := 87) rfl rfl rfl rfl (gN (g := 87) rfl rfl rfl rfl (gY (g := 83) rfl rfl rfl (st (X.pickF rfl rfl) rfl (st (X.pickF rfl rfl) rfl (Wn (tN (W_no rfl (rfl) (W_skip (tN ?_))))))))))
       refine W_seq (W_rs (st (X.fa fa73_0 rfl) rfl (st (X.ldL rfl hB15 Tryz.underlying3 rfl rfl) rfl (st (X.eql rfl rfl) rfl (Wn (tN (W_if rfl (fun h95 => ?_) (fun h95 => ?_))))))))
       ·first | replace h95 := of_decide_eq_true h95 | replace h95 := of_decide_eq_false (notT h95) | replace h95 := notT h95 | skip
        refine W_rs (sm rfl rfl (sc _ Tryz.func18 rfl (by kernel_rfl) rfl rfl ((JOpen_u hd hbw.size hg (by omega) hst).mono ?_)))
        rintro e_ w19 ⟨po, rfl, hJO⟩
        refine cR ?_
        have hX : Chg S _ w19 := hJO.choose_spec.2.2.1
        have hrn := hr.other hX hdr
        have hbwn := bchg hbw hX (fun k hk => (hd.lo k hk).1)
        have hz_w19 := hX.size
        have hr0 := hr
        clear hd hr hbw hX
        have hr := hrn
        have hbw := hbwn
        clear hrn hbwn
        refine sm rfl rfl (st (X.ext rfl rfl) rfl (st (X.ext rfl rfl) rfl (sa rfl rfl (sa rfl rfl (Wn (tN (W_rs (sm rfl rfl (sc _ Tryz.func35 rfl (by kernel_rfl) rfl rfl ((ROpen_u hr hbw.size hg (by omega)).mono ?_))))))))))
        rintro e_ w20 ⟨yo, rfl, hRO⟩
        refine cR ?_
        have hX : Chg T _ w20 := hRO.choose_spec.2.2.1
        have hbwn := bchg hbw hX (fun k hk => (hr.lo k hk).1)
        have hz_w20 := hX.size
        obtain ⟨hP', hst'⟩ := PSt.opened (i := i + 1) hr0 hdr hg hst hJO hRO
        have hg' : Good (20 + 1000 * (i + 1)) (openR D).2 := by
         have h1 := open_good2 hg hst
         rw [(open_all hg hst).1] at h1
         exact h1.mono (by omega)
        have hla' := hla
        clear hr hr0 hJO hRO hdr hbw hX
        have hbw := hbwn
        clear hbwn
        refine sm rfl rfl (st (X.ext rfl rfl) rfl (st (X.ext rfl rfl) rfl (sa rfl rfl (sa rfl rfl (Wn (tN (W_rs (sm rfl rfl (sm rfl rfl (st (X.neq rfl rfl) rfl ?_))))))))))
        refine Wn (tN (W_no rfl (decide_eq_false (by simp)) ?_))
        refine W_skip (tN (W_rs (sm rfl rfl (sm rfl rfl (sc _ Tryz.func36 rfl (by kernel_rfl) rfl rfl ((same_all hP' (by omega)).mono ?_))))))
        rintro e_ w21 ⟨rfl, hb⟩
        refine cR ?_
        replace hbw := bthen hbw hb
        replace hP' := hP'.bel hb
        have hz_w21 := hb.size
        clear hb
        refine st (X.not rfl) rfl (Wn (tN (W_no rfl (rfl) (W_skip (bN (tN (W_reg (sm rfl rfl (st (X.add64 rfl rfl (by omega)) rfl (sa rfl rfl ?_))))))))))
        refine Wn (tN ⟨_, _, ?_, ⟨i + 1, _, _, _, _, rfl, rfl, hP', hg', hst', by omega, hbw, hla'⟩, ⟨rfl, rfl, rfl, rfl, rfl, rfl, rfl, trivial⟩⟩)
        omega
       ·first | replace h95 := of_decide_eq_false h95 | replace h95 := of_decide_eq_true (notF h95) | replace h95 := notF h95 | skip
        refine W_rs (st (X.fa fa73_0 rfl) rfl (st (X.ldL rfl hB15 Tryz.underlying3 rfl rfl) rfl (st (X.eql rfl rfl) rfl (Wn (tN (W_if rfl (fun h111 => ?_) (fun h111 => ?_)))))))
        ·first | replace h111 := of_decide_eq_true h111 | replace h111 := of_decide_eq_false (notT h111) | replace h111 := notT h111 | skip
         refine W_rs (sm rfl rfl (st (X.fa fa73_3 rfl) rfl (st (X.ldL rfl hB15 Tryz.underlying34 rfl rfl) rfl ?_)))
         have hlo := hd.lo
         have hlr := hr.lo
         have hKv : Reads w10 1 (.slice ap o.picks.length cp) o.picks.length (o.picks.map fun k => .int .i64 k) := hvp ▸ hok.picks.bel hbw
         refine sc _ Tryz.func23 rfl (by kernel_rfl) rfl rfl ((Crash_any gd D S _ o.picks _ hd.at_ hg.ok (hg.bud (by omega)) (by have := hg.few; omega) hKv (fun h0 k hk e => by have := hKlt h0 k hk; have := hlo k e; omega)).mono ?_)
         rintro e_ w22 ⟨rfl, h1, hX⟩
         refine cR ?_
         have hdn := hd.step h1 hX hbw.size
         have hrn := hr.other hX hdr
         have hdrn := hr.ext (w' := w22) hdr
         have hB15n := hB15.chg hX (fun e => by have := (hlo9 _ e).2; omega)
         have hbwn := bchg hbw hX (fun k hk => (hd.lo k hk).1)
         have hz_w22 := hX.size
         have hKv2 : Reads w22 1 (.slice ap o.picks.length cp) o.picks.length (o.picks.map fun k => .int .i64 k) := hvp ▸ hok.picks.bel hbwn
         clear hd hr hdr hbw h1 hX hlo hB15 hKv
         have hd := hdn
         have hr := hrn
         have hdr := hdrn
         have hbw := hbwn
         have hB15 := hB15n
         clear hdn hrn hdrn hbwn hB15n
         refine Wn (tN (W_rs (sm rfl rfl (st (X.fa fa73_3 rfl) rfl (st (X.ldL rfl hB15 Tryz.underlying34 rfl rfl) rfl (sc _ Tryz.func37 rfl (by kernel_rfl) rfl rfl ((RCrash_any gr D T _ hr.at_ _ o.picks hg.ok (hg.bud (by omega)) hKv2 (fun h0 k hk e => by have := hKlt h0 k hk; have := hlr k e; omega)).mono ?_)))))))
         rintro e_ w23 ⟨rfl, h1, hX⟩
         refine cR ?_
         have hrn := hr.step h1 hX hbw.size
         have hdn := hd.other hX (Ext.flip hdr)
         have hdrn : ∀ k, Ext S _ _ k → ¬ Ext T _ _ k := Ext.flip (hd.ext (w' := w23) (Ext.flip hdr))
         have hbwn := bchg hbw hX (fun k hk => (hr.lo k hk).1)
         have hz_w23 := hX.size
         have hP' : PSt w.heap.size w23 gd gr (crashD D o.picks) none none (i + 1) := .inl ⟨rfl, rfl, _, _, hdn, hrn, hdrn⟩
         have hg' := (crash_good hg o.picks).mono (m := 20 + 1000 * (i + 1)) (by omega)
         have hst' : (crashD D o.picks).stops = false := rfl
         have hla' := hla
         clear hd hr hdr hbw h1 hX hdn hrn hdrn
         have hbw := hbwn
         clear hbwn
         refine Wn (tN (W_rs (sa rfl rfl (Wn (tN (W_reg (sa rfl rfl (Wn (tN (W_rs ?_))))))))))
         refine sm rfl rfl (sm rfl rfl (sc _ Tryz.func36 rfl (by kernel_rfl) rfl rfl ((same_all hP' (by omega)).mono ?_)))
         rintro e_ w24 ⟨rfl, hb⟩
         refine cR ?_
         replace hbw := bthen hbw hb
         replace hP' := hP'.bel hb
         have hz_w24 := hb.size
         clear hb
         refine st (X.not rfl) rfl (Wn (tN (W_no rfl (rfl) (W_skip (bN (tN (W_reg (sm rfl rfl (st (X.add64 rfl rfl (by omega)) rfl (sa rfl rfl ?_))))))))))
         refine Wn (tN ⟨_, _, ?_, ⟨i + 1, _, _, _, _, rfl, rfl, hP', hg', hst', by omega, hbw, hla'⟩, ⟨rfl, rfl, rfl, rfl, rfl, rfl, rfl, trivial⟩⟩)
         omega
        ·first | replace h111 := of_decide_eq_false h111 | replace h111 := of_decide_eq_true (notF h111) | replace h111 := notF h111 | skip
         refine W_rs (sm rfl rfl (sm rfl rfl (sm rfl rfl (sm rfl rfl (st (X.ldBN rfl hB15 Tryz.underlying73 rfl siz73) rfl (sm rfl rfl ?_))))))
         have hda := does_all o la hQ (by omega) hg (by omega) hst hla hok.id.2 hot (by omega) hbw.size
         rw [hvp] at hda
         refine sc _ Tryz.func38 rfl (by kernel_rfl) rfl rfl ((hda).mono ?_)
         rintro e_ w25 ⟨la', D', rfl, hla', hP', hst', hg2, hBel⟩
         refine cR ?_
         have hz_w25 := hBel.size
         replace hbw := hbw.trans hBel
         have hg' := hg2.mono (m := 20 + 1000 * (i + 1)) (by omega)
         clear hBel hda
         refine sm rfl rfl (st (X.ext rfl rfl) rfl (st (X.ext rfl rfl) rfl (sa rfl rfl (sa rfl rfl (Wn (tN (W_rs (sm rfl rfl (sa rfl rfl (Wn ?_))))))))))
         refine tN (W_rs (sm rfl rfl (st (X.not rfl) rfl (Wn (tN (W_no rfl (rfl) (W_skip (tN (W_rs (sm rfl rfl ?_))))))))))
         refine sm rfl rfl (sc _ Tryz.func36 rfl (by kernel_rfl) rfl rfl ((same_all hP' (by omega)).mono ?_))
         rintro e_ w26 ⟨rfl, hb⟩
         refine cR ?_
         replace hbw := bthen hbw hb
         replace hP' := hP'.bel hb
         have hz_w26 := hb.size
         clear hb
         refine st (X.not rfl) rfl (Wn (tN (W_no rfl (rfl) (W_skip (bN (tN (W_reg (sm rfl rfl (st (X.add64 rfl rfl (by omega)) rfl (sa rfl rfl ?_))))))))))
         refine Wn (tN ⟨_, _, ?_, ⟨i + 1, _, _, _, _, rfl, rfl, hP', hg', hst', by omega, hbw, hla'⟩, ⟨rfl, rfl, rfl, rfl, rfl, rfl, rfl, trivial⟩⟩)
         omega
   ·first | replace h68 := of_decide_eq_false h68 | replace h68 := of_decide_eq_true (notF h68) | replace h68 := notF h68 | skip
    obtain ⟨S, T, hd, hr, hdr⟩ := hQ.owns
    refine W_exit (tE (tE (bH (tN (W_rs (sm rfl rfl (sc _ Tryz.func39 rfl (by kernel_rfl) rfl rfl ((Used_any gd D S _ hd.at_).mono ?_))))))))
    rintro e_ w27 ⟨rfl, hb⟩
    refine cR ?_
    have hpend := hb
    replace hbw := bthen hbw hb
    replace hd := hd.bel hb
    replace hr := hr.bel hb
    have hz_w27 := hb.size
    clear hb
    refine sm rfl rfl (sc _ Tryz.func40 rfl (by kernel_rfl) rfl rfl ((RUsed_own hr hg (by omega)).mono ?_))
    rintro e_ w28 ⟨rfl, hb⟩
    refine cR ?_
    replace hpend := bthen hpend hb
    replace hbw := bthen hbw hb
    replace hd := hd.bel hb
    replace hr := hr.bel hb
    have hz_w28 := hb.size
    clear hb
    refine st (X.eql rfl rfl) rfl (sbY rfl (decide_eq_true rfl) rfl (gY (g := 142) rfl rfl rfl (sc _ Tryz.func17 rfl (by kernel_rfl) rfl rfl ((awake16_any _).mono ?_))))
    rintro e_ w29 ⟨rfl, hb⟩
    refine cR ?_
    replace hpend := bthen hpend hb
    replace hbw := bthen hbw hb
    replace hd := hd.bel hb
    replace hr := hr.bel hb
    have hz_w29 := hb.size
    clear hb
    refine st (X.pickT rfl rfl) rfl (sa rfl rfl (Wn (tN ?_)))
    replace hQ := hQ.bel hpend
    clear hpend
    refine W_ret ?_
    exact (rT rfl rfl ⟨rfl, hbw⟩).1
 ·skip
  refine W_enter (args := [.int .i64 lim, .slice a l.length c]) 145 Tryz.func8 rfl rfl rfl (W_sub [(0, .int .i64 lim), (1, .slice a l.length c)] ?_ ⟨rfl, rfl, trivial⟩)
  have hbw := Below.refl w.heap.size w
  refine W_rs (sa rfl rfl (Wn (tN (W_rs (sm rfl rfl (sc _ Tryz.func9 rfl (by kernel_rfl) rfl rfl ((New_bad lim _ hlim).mono ?_)))))))
  rintro e_ w1 ⟨rfl, hb⟩
  refine cR ?_
  replace hbw := bthen hbw hb
  have hz_w1 := hb.size
  clear hb
  refine sm rfl rfl (st (X.ext rfl rfl) rfl (st (X.ext rfl rfl) rfl (sa rfl rfl (sa rfl rfl (Wn (tN (W_rs (sm rfl rfl (sc _ Tryz.func10 rfl (by kernel_rfl) rfl rfl ((RNew_bad lim _ hlim).mono ?_))))))))))
  rintro e_ w2 ⟨rfl, hb⟩
  refine cR ?_
  replace hbw := bthen hbw hb
  have hz_w2 := hb.size
  clear hb
  refine sm rfl rfl (st (X.ext rfl rfl) rfl (st (X.ext rfl rfl) rfl (sa rfl rfl (sa rfl rfl (Wn (tN (W_seq (W_rs (sm rfl rfl (sm rfl rfl ?_))))))))))
  refine st (X.neq rfl rfl) rfl (sbN rfl (rfl) rfl (gY (g := 31) rfl rfl rfl (sm rfl rfl (gY (g := 31) rfl rfl rfl (st (X.neq rfl rfl) rfl (st (X.pickF rfl rfl) rfl (sbY rfl (rfl) rfl (gN (g := 35) rfl rfl rfl rfl (gN (g := 35) rfl rfl rfl rfl (gN (g := 35) rfl rfl rfl rfl ?_))))))))))
  refine st (X.pickT rfl rfl) rfl (Wn (tN (W_yes rfl (rfl) (W_rs (sm rfl rfl (sm rfl rfl (st (X.eql rfl rfl) rfl (sbY rfl (rfl) rfl (gY (g := 43) rfl rfl rfl (sc _ Tryz.func17 rfl (by kernel_rfl) rfl rfl ((awake16_any _).mono ?_)))))))))))
  rintro e_ w3 ⟨rfl, hb⟩
  refine cR ?_
  replace hbw := bthen hbw hb
  have hz_w3 := hb.size
  clear hb
  refine st (X.pickT rfl rfl) rfl (sa rfl rfl (Wn (tN (W_ret (tR ?_)))))
  exact (rT rfl rfl ⟨rfl, hbw⟩).1
end Go.Proofs.YtnijmegalgoipaaGreatDoor
namespace Go.Proofs.YtnijmegalgoipaaGreatDoor
open Go.ChangeShapes Go.WideShapes Go.ChangeAt Go.RowKit Go.Shelf
noncomputable def laidWorld (os : Os) : World :=
  { World.holding Tryz.prog os ⟨#[], #[], []⟩ with heap := ((World.holding Tryz.prog os ⟨#[], #[], []⟩).heap.modify 0 (laying (Lib.firstTab.map fun z => Value.int .u8 z).toArray)).modify 1 (laying ((List.range 16).flatMap fun i => [Value.int .u8 (Lib.accLo i), Value.int .u8 (Lib.accHi i)]).toArray) }
end Go.Proofs.YtnijmegalgoipaaGreatDoor
