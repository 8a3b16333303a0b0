/- What PackRots needs, part 3. -/
import Derived.Lib.SlBytesConst
import Derived.OrdersIn
import Derived.Test.YtnlabkogebnioaaGreatDoorPackRotsP2
namespace Go.Proofs.YtnlabkogebnioaaGreatDoor
open Go.RowKit
theorem NaN_any (b : UInt8) (w : World) : Calls Tryz.prog 223 #[bv b] w fun e w' => e = .returned (.bool false) ∧ w' = w := by
 refine W_enter (args := [.int .u8 (b.toNat : Int)]) 6 Tryz.func223 rfl rfl rfl (W_sub [(0, .int .u8 (b.toNat : Int))] ?_ ⟨rfl, trivial⟩)
 have hbw := Below.refl w.heap.size w
 refine W_rs (sa rfl rfl (Wn (tN (W_rs (sm rfl rfl (sm rfl rfl (st (X.neq rfl rfl) rfl (sa rfl rfl (Wn (tN ?_))))))))))
 refine W_ret ?_
 exact (rT rfl rfl ⟨by simp, rfl⟩).1
def cmpU (a b : UInt8) : Int := if a < b then -1 else if b < a then 1 else 0
theorem CmpU_any (a b : UInt8) (w : World) : Calls Tryz.prog 199 #[bv a, bv b] w fun e w' => e = .returned (.int .i64 (cmpU a b)) ∧ w' = w := by
 refine W_enter (args := [.int .u8 (a.toNat : Int), .int .u8 (b.toNat : Int)]) 20 Tryz.func199 rfl rfl rfl (W_sub [(0, .int .u8 (a.toNat : Int)), (1, .int .u8 (b.toNat : Int))] ?_ ⟨rfl, rfl, trivial⟩)
 have hbw := Below.refl w.heap.size w
 refine W_rs (sa rfl rfl (Wn (tN (W_rs (sm rfl rfl (sc _ Tryz.func223 rfl (by kernel_rfl) rfl rfl ((NaN_any a _).mono ?_)))))))
 rintro e_ w_ ⟨rfl, rfl⟩
 refine cR (sa rfl rfl (Wn (tN (W_rs (sm rfl rfl (sc _ Tryz.func223 rfl (by kernel_rfl) rfl rfl ((NaN_any b _).mono ?_)))))))
 rintro e_ w_ ⟨rfl, rfl⟩
 refine cR (sa rfl rfl (Wn (tN (W_seq (W_rs (sm rfl rfl (Wn (tN (W_no rfl (rfl) (W_skip ?_))))))))))
 refine tN (W_seq (W_rs (sm rfl rfl (Wn (tN (W_no rfl (rfl) (W_skip (tN (W_seq (W_rs ?_))))))))))
 refine sm rfl rfl (sm rfl rfl (st (X.lss rfl rfl) rfl (Wn (tN (W_if rfl (fun h16 => ?_) (fun h16 => ?_))))))
 ·first | replace h16 := of_decide_eq_true h16 | replace h16 := of_decide_eq_false (notT h16) | replace h16 := notT h16 | skip
  refine W_rs (sa rfl rfl (Wn (tN (W_ret (tR ((rT rfl rfl ⟨?_, rfl⟩).1))))))
  rw [show cmpU a b = -1 from if_pos (UInt8.lt_iff_toNat_lt.2 (by omega))]
 ·first | replace h16 := of_decide_eq_false h16 | replace h16 := of_decide_eq_true (notF h16) | replace h16 := notF h16 | skip
  refine W_skip (tN (W_seq (W_rs (sm rfl rfl (sm rfl rfl (st (X.gtr rfl rfl) rfl (Wn (tN (W_if rfl (fun h19 => ?_) (fun h19 => ?_))))))))))
  ·first | replace h19 := of_decide_eq_true h19 | replace h19 := of_decide_eq_false (notT h19) | replace h19 := notT h19 | skip
   refine W_rs (sa rfl rfl (Wn (tN (W_ret (tR ((rT rfl rfl ⟨?_, rfl⟩).1))))))
   rw [show cmpU a b = 1 by unfold cmpU; rw [if_neg (fun h => by have := UInt8.lt_iff_toNat_lt.1 h; omega), if_pos (UInt8.lt_iff_toNat_lt.2 (by omega))]]
  ·first | replace h19 := of_decide_eq_false h19 | replace h19 := of_decide_eq_true (notF h19) | replace h19 := notF h19 | skip
   refine W_skip (tN (W_rs (sa rfl rfl (Wn (tN (W_ret ((rT rfl rfl ⟨?_, rfl⟩).1)))))))
   rw [show cmpU a b = 0 by unfold cmpU; rw [if_neg (fun h => by have := UInt8.lt_iff_toNat_lt.1 h; omega), if_neg (fun h => by have := UInt8.lt_iff_toNat_lt.1 h; omega)]]
theorem cmpB_step {l1 l2 : List UInt8} {j : Nat} {x y : UInt8} (hx : l1[j]? = some x) (hy : l2[j]? = some y) : Lib.compareBytes (l1.drop j) (l2.drop j) = if cmpU x y ≠ 0 then cmpU x y else Lib.compareBytes (l1.drop (j + 1)) (l2.drop (j + 1)) := by
 obtain ⟨h1, rfl⟩ := List.getElem?_eq_some_iff.1 hx
 obtain ⟨h2, rfl⟩ := List.getElem?_eq_some_iff.1 hy
 rw [List.drop_eq_getElem_cons h1, List.drop_eq_getElem_cons h2]
 simp only [Lib.compareBytes, cmpU]
 split
 ·simp
 ·split <;> simp
theorem SCmp_any (g1 o1 c1 g2 o2 c2 : Nat) (l1 l2 : List UInt8) (w : World) (hl : l1.length = l2.length) (hn : l1.length ≤ 1000000) (h1 : ∀ j (hj : j < l1.length), w.cell? ⟨g1, o1 + j, none⟩ = some (.int .u8 (l1[j].toNat : Int))) (h2 : ∀ j (hj : j < l2.length), w.cell? ⟨g2, o2 + j, none⟩ = some (.int .u8 (l2[j].toNat : Int))) :
  Calls Tryz.prog 170 #[.slice (some ⟨g1, o1, none⟩) l1.length c1, .slice (some ⟨g2, o2, none⟩) l2.length c2] w fun e w' => e = .returned (.int .i64 (Lib.compareBytes l1 l2)) ∧ w' = w := by
 refine W_enter (args := [.slice (some ⟨g1, o1, none⟩) l1.length c1, .slice (some ⟨g2, o2, none⟩) l2.length c2]) 36 Tryz.func170 rfl rfl rfl (W_sub [(0, .slice (some ⟨g1, o1, none⟩) l1.length c1), (1, .slice (some ⟨g2, o2, none⟩) l2.length c2)] ?_ ⟨rfl, rfl, trivial⟩)
 have hbw := Below.refl w.heap.size w
 refine W_rs (sa rfl rfl (Wn (tN (W_seq (W_rs (sm rfl rfl (st (X.lenL rfl rfl Tryz.underlying123) rfl (sm rfl rfl (Wn (tN ?_))))))))))
 refine W_block (W_lp (fun nw1_ lw1_ w1 => ∃ j : Nat, nw1_ = l1.length - j ∧ lw1_ = ([(0, .slice (some ⟨g1, o1, none⟩) l1.length c1), (1, .slice (some ⟨g2, o2, none⟩) l2.length c2), (9, .slice (some ⟨g1, o1, none⟩) l1.length c1), (10, .int .i64 l1.length), (11, .int .i64 j)] : Env) ∧ (j ≤ l1.length) ∧ (Lib.compareBytes l1 l2 = Lib.compareBytes (l1.drop j) (l2.drop j)) ∧ (w1 = w) ∧ (Below w.heap.size w w1)) _ ⟨_, ⟨0, rfl, rfl, by omega, rfl, rfl, hbw⟩, ⟨rfl, rfl, rfl, rfl, rfl, trivial⟩⟩ ?_)
 clear hbw
 rintro nw1_ lw1_ w1 ⟨j, rfl, rfl, hj, hq, hw, hbw⟩
 have hz_w1 := hbw.size
 refine W_rs (st (X.lss rfl rfl) rfl (Wn (tN (W_seq (W_if rfl (fun h12 => ?_) (fun h12 => ?_))))))
 ·first | replace h12 := of_decide_eq_true h12 | replace h12 := of_decide_eq_false (notT h12) | replace h12 := notT h12 | skip
  obtain ⟨x, hx⟩ : ∃ x, l1[j]? = some x := ⟨_, List.getElem?_eq_getElem (by omega)⟩
  obtain ⟨y, hy⟩ : ∃ y, l2[j]? = some y := ⟨_, List.getElem?_eq_getElem (by omega)⟩
  have hst := cmpB_step hx hy
  have hcx : w.cell? ⟨g1, o1 + j, none⟩ = some (bv x) := by rw [h1 j (by omega), (List.getElem?_eq_some_iff.1 hx).2]; rfl
  have hcy : w.cell? ⟨g2, o2 + j, none⟩ = some (bv y) := by rw [h2 j (by omega), (List.getElem?_eq_some_iff.1 hy).2]; rfl
  refine W_skip (tN (W_seq (W_block (W_rs (sm rfl rfl (st (X.idxA rfl rfl Tryz.underlying123 siz5 rfl (by omega)) rfl (st (X.ld rfl Tryz.underlying5 rfl (by rw [hw, Nat.mul_one]; exact hcx)) rfl ?_)))))))
  refine sa rfl rfl (sa rfl rfl (Wn (tN (W_seq (W_rs (sm rfl rfl (sm rfl rfl (st (X.lenL rfl rfl Tryz.underlying123) rfl (st (X.geq rfl rfl) rfl (Wn ?_))))))))))
  refine tN (W_if rfl (fun h19 => ?_) (fun h19 => ?_))
  ·first | replace h19 := of_decide_eq_true h19 | replace h19 := of_decide_eq_false (notT h19) | replace h19 := notT h19 | skip
   omega
  ·first | replace h19 := of_decide_eq_false h19 | replace h19 := of_decide_eq_true (notF h19) | replace h19 := notF h19 | skip
   refine W_skip (tN (W_rs (sm rfl rfl (sm rfl rfl (st (X.idxA rfl rfl Tryz.underlying123 siz5 rfl (by omega)) rfl (st (X.ld rfl Tryz.underlying5 rfl (by rw [hw, Nat.mul_one]; exact hcy)) rfl ?_))))))
   refine sa rfl rfl (Wn (tN (W_rs (sm rfl rfl (sm rfl rfl (sc _ Tryz.func199 rfl (by kernel_rfl) rfl rfl ((CmpU_any x y _).mono ?_)))))))
   rintro e_ w_ ⟨rfl, rfl⟩
   refine cR (sa rfl rfl (Wn (tN (W_rs (sm rfl rfl (st (X.neq rfl rfl) rfl (Wn (tN (W_if rfl (fun h28 => ?_) (fun h28 => ?_))))))))))
   ·first | replace h28 := of_decide_eq_true h28 | replace h28 := of_decide_eq_false (notT h28) | replace h28 := notT h28 | skip
    refine W_rs (sm rfl rfl (sa rfl rfl (Wn (tN (W_ret (bR (tR (tR (bR (tR ((rT rfl rfl ⟨?_, hw⟩).1)))))))))))
    rw [hq, hst, if_pos h28]
   ·first | replace h28 := of_decide_eq_false h28 | replace h28 := of_decide_eq_true (notF h28) | replace h28 := notF h28 | skip
    refine W_skip (bN (tN (W_reg (st (X.add64 rfl rfl (by omega)) rfl (sm rfl rfl (Wn (tN ⟨_, _, ?_, ⟨j + 1, rfl, rfl, by omega, by rw [hq, hst, if_neg h28], hw, hbw⟩, ⟨rfl, rfl, rfl, rfl, rfl, trivial⟩⟩)))))))
    omega
 ·first | replace h12 := of_decide_eq_false h12 | replace h12 := of_decide_eq_true (notF h12) | replace h12 := notF h12 | skip
  refine W_exit (tE (tE (bH (tN (W_seq (W_rs (sm rfl rfl (st (X.lenL rfl rfl Tryz.underlying123) rfl (sm rfl rfl (st (X.lenL rfl rfl Tryz.underlying123) rfl (st (X.lss rfl rfl) rfl (Wn (tN ?_)))))))))))))
  refine W_if rfl (fun h35 => ?_) (fun h35 => ?_)
  ·first | replace h35 := of_decide_eq_true h35 | replace h35 := of_decide_eq_false (notT h35) | replace h35 := notT h35 | skip
   omega
  ·first | replace h35 := of_decide_eq_false h35 | replace h35 := of_decide_eq_true (notF h35) | replace h35 := notF h35 | skip
   refine W_skip (tN (W_rs (sa rfl rfl (Wn (tN (W_ret ?_))))))
   obtain rfl : j = l1.length := by omega
   refine (rT rfl rfl ⟨?_, hw⟩).1
   rw [hq, List.drop_length, List.drop_of_length_le (by omega)]
   rfl
set_option maxRecDepth 10000 in
theorem Compare_fan (a b : List UInt8) (ha : a.length = 32) (hb : b.length = 32) (w : World) :
  Calls Tryz.prog 137 #[.agg (a.map bv).toArray, .agg (b.map bv).toArray] w (CmpIs w (cmpSum a b)) := by
 have k0 : Blk ((w.alloc (.cells (a.map bv).toArray 60)).alloc (.cells (b.map bv).toArray 60)) w.heap.size 60 (a.map bv).toArray := (Blk.new w _ _).alloc _
 have k1 : Blk ((w.alloc (.cells (a.map bv).toArray 60)).alloc (.cells (b.map bv).toArray 60)) (w.alloc (.cells (a.map bv).toArray 60)).heap.size 60 (b.map bv).toArray := Blk.new _ _ _
 have hG : Grows w ((w.alloc (.cells (a.map bv).toArray 60)).alloc (.cells (b.map bv).toArray 60)) := ((Grows.refl w).alloc _).alloc _
 refine W_enter (args := [.agg (a.map bv).toArray, .agg (b.map bv).toArray]) 8 Tryz.func137 rfl rfl rfl (W_sub [(0, .agg (a.map bv).toArray), (1, .agg (b.map bv).toArray)] ?_ ⟨rfl, rfl, trivial⟩)
 refine W_rs (st (X.boxA rfl) rfl (st (X.boxA rfl) rfl (sa rfl rfl (Wn (tN ?_)))))
 generalize (w.alloc (.cells (a.map bv).toArray 60)).heap.size = g2 at k1 ⊢
 generalize (w.alloc (.cells (a.map bv).toArray 60)).alloc (.cells (b.map bv).toArray 60) = w2 at k0 k1 hG ⊢
 refine W_drsN (fun _ => True) [0, 1, 2, 3] [true, true, false, true] (by kernel_rfl) (by kernel_rfl) trivial (oY rfl (fun W_ hW_ => X.slArr rfl Tryz.underlying60 siz5) rfl (oY rfl (fun W_ hW_ => X.slArr rfl Tryz.underlying60 siz5) rfl (oL rfl (fun Q_ hQ_ hP_ => ?_))))
 have hc := SCmp_any w.heap.size 0 32 g2 0 32 a b w2.drew (by rw [ha, hb]) (by omega) (blk_bytes k0.drew) (blk_bytes k1.drew)
 rw [ha, hb] at hc
 refine sc _ Tryz.func170 rfl (by kernel_rfl) rfl rfl (hc.mono ?_)
 rintro e_ w_ ⟨rfl, rfl⟩
 refine cR (Wn (hQ_ _ _ trivial (oY rfl (fun W_ hW_ => X.assign rfl) rfl (oN (nN (W_ret ?_))))))
 exact (rT rfl rfl ⟨rfl, hG.drew⟩).1
set_option maxRecDepth 10000 in
theorem MakeCmp_any (x y : Ent) (hx : x.sum.length = 32) (hy : y.sum.length = 32) (w : World) :
  Calls Tryz.prog 136 #[.agg x.cells.toArray, .agg y.cells.toArray] w (CmpIs w (cmpSum x.sum y.sum)) := by
 have k0 : Blk ((w.alloc (.cells x.cells.toArray 66)).alloc (.cells y.cells.toArray 66)) w.heap.size 66 x.cells.toArray := (Blk.new w _ _).alloc _
 have k1 : Blk ((w.alloc (.cells x.cells.toArray 66)).alloc (.cells y.cells.toArray 66)) (w.alloc (.cells x.cells.toArray 66)).heap.size 66 y.cells.toArray := Blk.new _ _ _
 have hG : Grows w ((w.alloc (.cells x.cells.toArray 66)).alloc (.cells y.cells.toArray 66)) := ((Grows.refl w).alloc _).alloc _
 refine W_enter (args := [.agg x.cells.toArray, .agg y.cells.toArray]) 10 Tryz.func136 rfl rfl rfl (W_sub [(0, .agg x.cells.toArray), (1, .agg y.cells.toArray)] ?_ ⟨rfl, rfl, trivial⟩)
 refine W_rs (st (X.boxA rfl) rfl (st (X.boxA rfl) rfl (sa rfl rfl (Wn (tN ?_)))))
 generalize (w.alloc (.cells x.cells.toArray 66)).heap.size = g2 at k1 ⊢
 generalize (w.alloc (.cells x.cells.toArray 66)).alloc (.cells y.cells.toArray 66) = w2 at k0 k1 hG ⊢
 refine W_rs (st (X.fa fa66_0 rfl) rfl (st (X.ldN (cs := x.sum.map bv) rfl Tryz.underlying60 rfl (by rw [List.length_map, hx]; exact siz60) (entSum k0)) rfl ?_))
 refine st (X.fa fa66_0 rfl) rfl (st (X.ldN (cs := y.sum.map bv) rfl Tryz.underlying60 rfl (by rw [List.length_map, hy]; exact siz60) (entSum k1)) rfl ?_)
 refine sc _ Tryz.func137 rfl (by kernel_rfl) rfl rfl ((Compare_fan x.sum y.sum hx hy _).mono ?_)
 rintro e_ w3 ⟨rfl, hG2⟩
 refine cR (sa rfl rfl (Wn (tN (W_ret ?_))))
 exact (rT rfl rfl ⟨rfl, hG.trans hG2⟩).1
end Go.Proofs.YtnlabkogebnioaaGreatDoor
namespace Go.Proofs.YtnlabkogebnioaaGreatDoor
open Go.RowKit Go.Shelf
def sortRenEnt : Ren :=
  { f := fun x => match x with | 6 => 135 | 15 => 169 | 14 => 168 | 28 => 197 | 29 => 198 | 20 => 189 | 21 => 190 | 22 => 191 | 23 => 192 | 24 => 193 | 25 => 194 | 26 => 195 | 27 => 196 | 46 => 218 | 47 => 219 | 48 => 220 | 49 => 221 | 50 => 222 | 57 => 235 | n => n
    t := fun x => match x with | 22 => 23 | 24 => 66 | 25 => 212 | 3 => 3 | 39 => 173 | 0 => 0 | 53 => 145 | 55 => 165 | 4 => 4 | 46 => 258 | 45 => 257 | 50 => 128 | 5 => 5 | 9 => 9 | 66 => 280 | 70 => 283 | 76 => 291 | 77 => 292 | n => n
    g := fun x => x }
set_option maxRecDepth 100000 in
theorem sortLaysEnt : SlLaysF0.n6 Tryz.prog sortRenEnt := by
 constructor
 all_goals first | exact bears_of3 (by kernel_rfl) (by kernel_rfl) | kernel_rfl | exact fun _ => by kernel_rfl
abbrev Ent32 := { e : Ent // e.sum.length = 32 }
def cmpE (x y : Ent32) : Int := cmpSum x.1.sum y.1.sum
theorem ltOf_cmpE (x y : Ent32) : ltOf cmpE x y = decide (x.1.sum < y.1.sum) := by
 unfold ltOf cmpE cmpSum
 rw [decide_eq_decide]
 exact cmp_lt x.1.sum y.1.sum
theorem swoEnt : Sort.SWO (ltOf cmpE) where
 irrefl x := by rw [ltOf_cmpE]; exact decide_eq_false (klt_irrefl _)
 trans x y z h1 h2 := by rw [ltOf_cmpE] at *; exact decide_eq_true (klt_trans (of_decide_eq_true h1) (of_decide_eq_true h2))
 ntrans x y z h1 h2 := by
  rw [ltOf_cmpE] at *
  refine decide_eq_false fun h => ?_
  have h1 := of_decide_eq_false h1
  have h2 := of_decide_eq_false h2
  rcases klt_tri x.1.sum y.1.sum with k | k | k
  ·exact h1 k
  ·exact h2 (k ▸ h)
  ·exact h2 (klt_trans k h)
instance : Inhabited Ent32 := ⟨⟨⟨List.replicate 32 0, 0, 0, 0⟩, by simp⟩⟩
def encE (k : Ent32) : List Value := k.1.cells
theorem encE_len (k : Ent32) : (encE k).length = 35 := Ent.cells_length k.2
theorem encE_one (k : Ent32) : ∀ v ∈ encE k, v.oneCell' = true := by
 intro v hv
 simp only [encE, Ent.cells, List.mem_append, List.mem_map, List.mem_cons, List.not_mem_nil, or_false] at hv
 rcases hv with ⟨u, _, rfl⟩ | rfl | rfl | rfl <;> rfl
set_option maxRecDepth 10000 in
theorem SortEnts_any (v : Value) (l : List Ent32) (w : World) (hR : Row w 66 35 v l.length (l.flatMap encE)) (hl : l.length ≤ 1000000) :
  Calls Tryz.prog 135 #[v, .func (.func 136) #[] #[]] w fun e w' => ∃ xs : List Ent32, e = .returned (.tuple #[]) ∧ xs.Perm l ∧ xs.Pairwise (fun x y => ¬ y.1.sum < x.1.sum) ∧ Row w' 66 35 v xs.length (xs.flatMap encE) ∧ Chg (fun k => v.ownBlock = some k) w w' := by
 rcases Nat.eq_zero_or_pos l.length with h0 | h0
 ·obtain rfl : l = [] := List.eq_nil_of_length_eq_zero h0
  obtain ⟨a, c, rfl, _, _⟩ := hR.shape
  refine (AnyF.slices_SortFunc_none sortLaysEnt a c _ w).mono ?_
  rintro e w' ⟨rfl, rfl⟩
  exact ⟨[], rfl, .refl _, .nil, hR, Chg.refl _ _⟩
 ·obtain ⟨g, o, c, rfl, hg⟩ := hR.reads.some_ h0
  have hcmp : CmpLays Tryz.prog 136 #[] encE 35 cmpE g o l.toArray.size w := fun m os dk hdk x y => by
   refine (MakeCmp_any x.1 y.1 x.2 y.2 _).mono ?_
   rintro e w' ⟨rfl, hG⟩
   exact ⟨rfl, hG⟩
  have hsz : l.toArray.size = l.length := by simp
  refine (AnyQ.slices_SortFunc (α := Ent32) sortLaysEnt 35 (fun _ => by kernel_rfl) (fun _ => by kernel_rfl) encE encE_len encE_one cmpE swoEnt 136 #[] g o c l.toArray w (enters_of Tryz.func136 (by kernel_rfl) rfl) hcmp (row_holds encE_len hR rfl) hg (by rw [hsz]; omega)).mono ?_
  rintro e w' ⟨rfl, d', n', os, hp, hs, hw⟩
  have hdz : d'.size = l.length := by rw [hp.1]; exact hsz
  have hperm : d'.toList.Perm l := by
   have h3 := hp.2.2
   rw [hsz] at h3
   have e1 : (d'.extract 0 l.length).toList = d'.toList := by simp [← hdz]
   have e2 : (l.toArray.extract 0 l.length).toList = l := by simp [List.extract_eq_take_drop]
   rw [e1, e2] at h3
   exact h3
  obtain ⟨hRow, hC⟩ := sort_row encE_len hR rfl hdz hw
  refine ⟨d'.toList, rfl, hperm, ?_, ?_, hC.mono (fun k _ hk => by subst hk; rfl)⟩
  ·rw [List.pairwise_iff_getElem]
   intro i j hi hj hij
   have hi' : i < d'.size := by simpa using hi
   have hj' : j < d'.size := by simpa using hj
   have h4 := hs i j (Nat.zero_le _) hij (by rw [hsz, ← hdz]; exact hj')
   rw [ltOf_cmpE, getElem!_pos d' j hj', getElem!_pos d' i hi'] at h4
   have h5 := of_decide_eq_false h4
   simpa only [Array.getElem_toList] using h5
  ·have e3 : d'.toList.length = l.length := by simpa using hdz
   rw [e3]
   exact hRow
end Go.Proofs.YtnlabkogebnioaaGreatDoor
namespace Go.Proofs.YtnlabkogebnioaaGreatDoor
open Go.RowKit
theorem all_at {p : Int → Bool} {l : List Int} {j : Nat} {x : Int} (h : l[j]? = some x) : (l.drop j).all p = (p x && (l.drop (j + 1)).all p) := by
 obtain ⟨hj, rfl⟩ := List.getElem?_eq_some_iff.1 h
 rw [List.drop_eq_getElem_cons hj, List.all_cons]
theorem May_any (v : Value) (ns : List Int) (w : World) (h : Reads w 1 v ns.length (ns.map (Value.int .i64))) : Calls Tryz.prog 134 #[v] w fun e w' => e = .returned (.bool (ns.all fitN)) ∧ Below w.heap.size w w' := by
 obtain ⟨a, cp, rfl, hn, hcp⟩ := h.shape
 refine W_enter (args := [.slice a ns.length cp]) 18 Tryz.func134 rfl rfl rfl (W_sub [(0, .slice a ns.length cp)] ?_ ⟨rfl, trivial⟩)
 have hbw := Below.refl w.heap.size w
 refine W_rs (sa rfl rfl (Wn (tN (W_seq (W_rs (sm rfl rfl (st (X.lenL rfl rfl Tryz.underlying39) rfl (sm rfl rfl (Wn (tN ?_))))))))))
 refine W_block (W_lp (fun nw1_ lw1_ w1 => ∃ j : Nat, nw1_ = ns.length - j ∧ lw1_ = ([(5, .slice a ns.length cp), (6, .int .i64 ns.length), (7, .int .i64 j)] : Env) ∧ (j ≤ ns.length) ∧ (ns.all fitN = (ns.drop j).all fitN) ∧ (Below w.heap.size w w1)) _ ⟨_, ⟨0, rfl, rfl, by omega, rfl, hbw⟩, ⟨rfl, rfl, rfl, trivial⟩⟩ ?_)
 clear hbw
 rintro nw1_ lw1_ w1 ⟨j, rfl, rfl, hj, hq, hbw⟩
 have hz_w1 := hbw.size
 refine W_rs (st (X.lss rfl rfl) rfl (Wn (tN (W_seq (W_if rfl (fun h8 => ?_) (fun h8 => ?_))))))
 ·first | replace h8 := of_decide_eq_true h8 | replace h8 := of_decide_eq_false (notT h8) | replace h8 := notT h8 | skip
  obtain ⟨x, hx⟩ : ∃ x, ns[j]? = some x := ⟨_, List.getElem?_eq_getElem (by omega)⟩
  have hxv : (ns.map (Value.int .i64))[j]? = some (.int .i64 x) := by rw [List.getElem?_map, hx]; rfl
  obtain ⟨g1, o1, c', hv, hg1⟩ := (h.bel hbw).some_ (by omega)
  injection hv with e1 _ e3
  subst e1 e3
  refine W_skip (tN (W_seq (W_block (W_rs (st (X.idxA rfl rfl Tryz.underlying39 siz3 rfl (by omega)) rfl (st (X.ld rfl Tryz.underlying3 rfl (by rw [Nat.mul_one]; exact (h.bel hbw).cellAt (by omega) hxv)) rfl ?_))))))
  refine sa rfl rfl (Wn (tN (W_rs (sm rfl rfl (st (X.lss rfl rfl) rfl (sb rfl rfl (fun h13 => ?_) (fun h13 => ?_)))))))
  ·first | replace h13 := of_decide_eq_true h13 | replace h13 := of_decide_eq_false (notT h13) | replace h13 := notT h13 | skip
   refine gN (g := 13) rfl rfl rfl rfl (gN (g := 13) rfl rfl rfl rfl (st (X.pickT rfl rfl) rfl (Wn (tN (W_yes rfl (rfl) (W_rs (sa rfl rfl (Wn (tN (W_ret (bR (tR (tR (bR (tR ?_)))))))))))))))
   refine (rT rfl rfl ⟨?_, hbw⟩).1
   rw [hq, all_at hx, show fitN x = false from decide_eq_false (by omega)]
   rfl
  ·first | replace h13 := of_decide_eq_false h13 | replace h13 := of_decide_eq_true (notF h13) | replace h13 := notF h13 | skip
   refine gY (g := 13) rfl rfl rfl (sm rfl rfl (gY (g := 13) rfl rfl rfl (st (X.gtr rfl rfl) rfl (st (X.pickF rfl rfl) rfl (Wn (tN (W_if rfl (fun h16 => ?_) (fun h16 => ?_))))))))
   ·first | replace h16 := of_decide_eq_true h16 | replace h16 := of_decide_eq_false (notT h16) | replace h16 := notT h16 | skip
    refine W_rs (sa rfl rfl (Wn (tN (W_ret (bR (tR (tR (bR (tR ((rT rfl rfl ⟨?_, hbw⟩).1))))))))))
    rw [hq, all_at hx, show fitN x = false from decide_eq_false (by omega)]
    rfl
   ·first | replace h16 := of_decide_eq_false h16 | replace h16 := of_decide_eq_true (notF h16) | replace h16 := notF h16 | skip
    refine W_skip (bN (tN (W_reg (st (X.add64 rfl rfl (by omega)) rfl (sm rfl rfl (Wn (tN ⟨_, _, ?_, ⟨j + 1, rfl, rfl, by omega, by rw [hq, all_at hx, show fitN x = true from decide_eq_true (by omega)]; rfl, hbw⟩, ⟨rfl, rfl, rfl, trivial⟩⟩)))))))
    omega
 ·first | replace h8 := of_decide_eq_false h8 | replace h8 := of_decide_eq_true (notF h8) | replace h8 := notF h8 | skip
  refine W_exit (tE (tE (bH (tN (W_rs (sa rfl rfl (Wn (tN (W_ret ?_)))))))))
  obtain rfl : j = ns.length := by omega
  refine (rT rfl rfl ⟨?_, hbw⟩).1
  rw [hq, List.drop_length]
  rfl
theorem eqSlNil (w : World) (a : Addr) (n c : Nat) : (binOp .eql 23 (.slice (some a) n c) (.slice none 0 0)).run Tryz.prog w = .ok (.bool false) w := by kernel_rfl
theorem eqSlNil0 (w : World) (n c : Nat) : (binOp .eql 23 (.slice none n c) (.slice none 0 0)).run Tryz.prog w = .ok (.bool true) w := by kernel_rfl
theorem X.slNilF {l : Env} {x : Operand} {w : World} {t' ty : TypeId} {a : Addr} {n c : Nat} (hx : ev l x = some (.slice (some a) n c)) : X Tryz.prog l (.binOp .eql 23 x (.const (.slice none 0 0)) t') ty w (.bool false) w :=
 X.bin hx rfl (fun _ _ => by unfold eqGuard; simp) (eqSlNil w a n c)
theorem X.slNil0 {l : Env} {x : Operand} {w : World} {t' ty : TypeId} {n c : Nat} (hx : ev l x = some (.slice none n c)) : X Tryz.prog l (.binOp .eql 23 x (.const (.slice none 0 0)) t') ty w (.bool true) w :=
 X.bin hx rfl (fun _ _ => by unfold eqGuard; simp) (eqSlNil0 w n c)
theorem bsl0 (w : World) : (Instr.buildSlice 23 0 #[]).run Tryz.prog w = .ok (.slice (some ⟨w.heap.size, 0, none⟩) 0 0) (w.alloc (.cells #[] 66)) := by kernel_rfl
theorem EntClone_any (v : Value) (l : List Ent) (w : World) (h : Reads w 35 v l.length (l.flatMap Ent.cells)) (h32 : ∀ e ∈ l, e.sum.length = 32) (hl : l.length ≤ 1000000) : Calls Tryz.prog 49 #[v] w fun e w' => ∃ v', e = .returned v' ∧ Row w' 66 35 v' l.length (l.flatMap Ent.cells) ∧ (∀ k, v'.ownBlock = some k → w.heap.size ≤ k) ∧ Below w.heap.size w w' := by
 obtain ⟨a, cp, rfl, hn, hcp⟩ := h.shape
 have hone : ∀ u ∈ l.flatMap Ent.cells, u.oneCell' = true := fun u hu => by
  obtain ⟨e, he, hu⟩ := List.mem_flatMap.1 hu
  exact encE_one ⟨e, h32 e he⟩ u hu
 rcases a with _ | a
 ·have h0 : l = [] := by
   refine List.eq_nil_of_length_eq_zero (Nat.eq_zero_of_not_pos fun hp => ?_)
   obtain ⟨g1, o1, c', hv, _⟩ := h.some_ hp
   injection hv with e1
   cases e1
  subst h0
  refine W_enter (args := [.slice none 0 cp]) 8 Tryz.func49 rfl rfl rfl (W_sub [(0, .slice none 0 cp)] ?_ ⟨rfl, trivial⟩)
  have hbw := Below.refl w.heap.size w
  refine W_rs (sa rfl rfl (Wn (tN (W_seq (W_rs (sm rfl rfl (st (X.slNil0 rfl) rfl (Wn (tN (W_yes rfl (rfl) ?_))))))))))
  refine W_rs (sa rfl rfl (Wn (tN (W_ret (tR ?_)))))
  exact (rT rfl rfl ⟨_, rfl, Row.nil _ _ _, fun k hk => by simp [Value.ownBlock] at hk, hbw⟩).1
 ·skip
  refine W_enter (args := [.slice (some a) l.length cp]) 8 Tryz.func49 rfl rfl rfl (W_sub [(0, .slice (some a) l.length cp)] ?_ ⟨rfl, trivial⟩)
  have hbw := Below.refl w.heap.size w
  refine W_rs (sa rfl rfl (Wn (tN (W_seq (W_rs (sm rfl rfl (st (X.slNilF rfl) rfl (Wn (tN (W_no rfl (rfl) ?_))))))))))
  refine W_skip (tN (W_rs (sbs (ps := []) 35 rfl (bsl0 _) (by simp [maxLen]) rfl rfl (fun g5 w1 hR5 hg5 hb => ?_))))
  replace hbw := bthen hbw hb
  have hz30 := hb.size
  clear hb
  refine sm rfl rfl (sapp rfl rfl Tryz.underlying23 inf66 rfl (by decide) hR5 ((h.bel hbw).src Tryz.underlying23 hone) (by simp only [maxLen]; omega) (by omega) rfl (fun v' w2 hR' hCc hv' => ?_))
  replace hbw := bapp hbw hCc (fun k hk => by simp [Value.ownBlock] at hk; omega)
  have hO' := own_next hv' (B := w.heap.size) (fun k hk => by simp [Value.ownBlock] at hk; omega) (by omega)
  clear hCc hv'
  refine sa rfl rfl (Wn (tN (W_ret ?_)))
  exact (rT rfl rfl ⟨v', rfl, by simpa using hR', hO', hbw⟩).1
end Go.Proofs.YtnlabkogebnioaaGreatDoor
namespace Go.Proofs.YtnlabkogebnioaaGreatDoor
open Go.RowKit
theorem Ent.cells_one (e : Ent) : e.cells.toArray.toList.all (·.oneCell') = true := by
 simp [Ent.cells, Value.oneCell', bv]
abbrev EntsAt (w : World) (v : Value) (l : List Ent) : Prop := Reads w 35 v l.length (l.flatMap Ent.cells)
theorem EntsAt.range {w : World} {g o c : Nat} {l : List Ent} (h : EntsAt w (.slice (some ⟨g, o, none⟩) l.length c) l) (h32 : S32 l) {j : Nat} {x : Ent} (hx : l[j]? = some x) : w.rangeAt g (o + j * 35) x.cells := h.rec_ (fun a ha => Ent.cells_length (h32 a ha)) hx
theorem EntsAt.sum {w : World} {g o c : Nat} {l : List Ent} (h : EntsAt w (.slice (some ⟨g, o, none⟩) l.length c) l) (h32 : S32 l) {j : Nat} {x : Ent} (hx : l[j]? = some x) : w.rangeAt g (o + j * 35 + 0) (x.sum.map bv) := fun i v hv => by
 have hi := (List.getElem?_eq_some_iff.1 hv).1
 refine h.range h32 hx i v ?_
 unfold Ent.cells
 rw [List.getElem?_append_left hi, hv]
end Go.Proofs.YtnlabkogebnioaaGreatDoor
namespace Go.Proofs.YtnlabkogebnioaaGreatDoor
open Go.RowKit
theorem up32 : ∀ (l : List Ent), S32 l → ∃ L : List Ent32, L.map (·.1) = l
 | [], _ => ⟨[], rfl⟩
 | e :: l, h => by
  obtain ⟨L, hL⟩ := up32 l (fun x hx => h x (by simp [hx]))
  exact ⟨⟨e, h e (by simp)⟩ :: L, by rw [List.map_cons, hL]⟩
theorem SortE_any (v : Value) (l : List Ent) (w : World) (hR : Row w 66 35 v l.length (l.flatMap Ent.cells)) (h32 : S32 l) (hl : l.length ≤ 1000000) :
  Calls Tryz.prog 135 #[v, .func (.func 136) #[] #[]] w fun e w' => ∃ xs : List Ent, e = .returned (.tuple #[]) ∧ xs.Perm l ∧ xs.Pairwise (fun x y => ¬ y.sum < x.sum) ∧ Row w' 66 35 v xs.length (xs.flatMap Ent.cells) ∧ Chg (fun k => v.ownBlock = some k) w w' := by
 obtain ⟨L, hL⟩ := up32 l h32
 have hlen : L.length = l.length := by rw [← hL, List.length_map]
 have hfl : ∀ K : List Ent32, K.flatMap encE = (K.map (·.1)).flatMap Ent.cells := fun K => by rw [List.flatMap_map]; rfl
 refine (SortEnts_any v L w (by rw [hlen, hfl, hL]; exact hR) (by omega)).mono ?_
 rintro e w' ⟨xs, rfl, hp, hs, hR', hC⟩
 refine ⟨xs.map (·.1), rfl, ?_, ?_, ?_, hC⟩
 ·rw [← hL]; exact hp.map _
 ·rw [List.pairwise_map]; exact hs
 ·rw [List.length_map, ← hfl]; exact hR'
theorem X.eqSumF {l : Env} {x y : Operand} {w : World} {t' ty : TypeId} {a b : List UInt8} (ha : a.length = 32) (hb : b.length = 32) (hx : ev l x = some (.agg (a.map bv).toArray)) (hy : ev l y = some (.agg (b.map bv).toArray)) : X Tryz.prog l (.binOp .eql 60 x y t') ty w (.bool (a == b)) w :=
 X.bin hx hy (fun c d => run_eqGuard_agg w .eql _ c d _ _ (by kernel_rfl)) (run_eql_sum a b ha hb w)
theorem make_of_up {l xs : List Ent} (hp : xs.Perm l) (hu : Up xs) (h1 : l.length ≤ 65536) (h2 : l.all fitE = true) : makeM l = (xs, 0) := by
 have hi : IsIdx xs l := ⟨hp, hu⟩
 unfold makeM
 rw [if_neg (by omega), if_neg (by rw [h2]; simp), if_pos hi.nodup, ← hi.eq]
theorem make_of_dup {l xs : List Ent} (hp : xs.Perm l) {i : Nat} {x y : Ent} (hy : xs[i]? = some y) (hx : xs[i + 1]? = some x) (he : x.sum = y.sum) (h1 : l.length ≤ 65536) (h2 : l.all fitE = true) : makeM l = ([], 16) := by
 unfold makeM
 rw [if_neg (by omega), if_neg (by rw [h2]; simp), if_neg]
 intro hn
 have hn' := ((hp.map (·.sum)).nodup_iff).2 hn
 rw [List.Nodup, List.pairwise_map, List.pairwise_iff_getElem] at hn'
 obtain ⟨q1, e1⟩ := List.getElem?_eq_some_iff.1 hy
 obtain ⟨q2, e2⟩ := List.getElem?_eq_some_iff.1 hx
 refine hn' i (i + 1) q1 q2 (by omega) ?_
 rw [e1, e2, he]
theorem make_31 {l : List Ent} (h : 65536 < l.length) : makeM l = ([], 31) := by unfold makeM; rw [if_pos h]
theorem make_1 {l : List Ent} (h : l.length ≤ 65536) (h2 : l.all fitE = false) : makeM l = ([], 1) := by unfold makeM; rw [if_neg (by omega), if_pos h2]
theorem all_atG {α : Type} {p : α → Bool} {l : List α} {j : Nat} {x : α} (h : l[j]? = some x) : (l.drop j).all p = (p x && (l.drop (j + 1)).all p) := by
 obtain ⟨hj, rfl⟩ := List.getElem?_eq_some_iff.1 h
 rw [List.drop_eq_getElem_cons hj, List.all_cons]
theorem EntsAt.nil (w : World) : EntsAt w (.slice none 0 0) [] := (Row.nil w 66 35).reads
def IdxPostO (w : World) (r : List Ent × Int) (e : Ending) (w' : World) : Prop := ∃ v, e = .returned (.tuple #[.agg #[v], .int .i64 r.2]) ∧ EntsAt w' v r.1 ∧ (∀ k, v.ownBlock = some k → w.heap.size ≤ k) ∧ Below w.heap.size w w'
theorem idx_errO {w w' : World} {r : List Ent × Int} {k : Int} (h : r = ([], k)) (hb : Below w.heap.size w w') : IdxPostO w r (.returned (.tuple #[.agg #[.slice none 0 0], .int .i64 k])) w' := by
 subst h
 exact ⟨_, rfl, EntsAt.nil _, fun k hk => by simp [Value.ownBlock] at hk, hb⟩
theorem bidx (a : Option Addr) (n c : Nat) (w : World) : (Instr.build 25 #[(0, .slice a n c)]).run Tryz.prog w = .ok (.agg #[.slice a n c]) w := by kernel_rfl
theorem bidx0 (w : World) : (Instr.build 25 #[]).run Tryz.prog w = .ok (.agg #[.slice none 0 0]) w := by kernel_rfl
theorem bs3 (a b c : Int) (w : World) : (Instr.buildSlice 39 3 #[(0, .int .i64 a), (1, .int .i64 b), (2, .int .i64 c)]).run Tryz.prog w = .ok (.slice (some ⟨w.heap.size, 0, none⟩) 3 3) (w.alloc (.cells #[.int .i64 a, .int .i64 b, .int .i64 c] 3)) := by kernel_rfl
theorem fitE_all (x : Ent) : [x.pack, x.pos, x.len].all fitN = fitE x := by simp [fitE, Bool.and_assoc]
theorem Ent.cell_ {e : Ent} (h : e.sum.length = 32) (i : Nat) (v : Value) (hv : [Value.int .i64 e.pack, .int .i64 e.pos, .int .i64 e.len][i]? = some v) : e.cells.toArray[32 + i]? = some v := by
 rw [List.getElem?_toArray, Ent.cells, List.getElem?_append_right (by simp [h]), ← hv]
 simp [h]
theorem Make_own (v : Value) (l : List Ent) (w : World) (h : EntsAt w v l) (h32 : S32 l) (hl : l.length ≤ 1000000) : Calls Tryz.prog 89 #[v] w (IdxPostO w (makeM l)) := by
 obtain ⟨a, cp, rfl, hn, hcp⟩ := h.shape
 refine W_enter (args := [.slice a l.length cp]) 58 Tryz.func89 rfl rfl rfl (W_sub [(0, .slice a l.length cp)] ?_ ⟨rfl, trivial⟩)
 have hbw := Below.refl w.heap.size w
 refine W_rs (salA inf25 rfl (fun g2 w1 hB2 hg2 hb hl2 => ?_))
 replace hbw := bthen hbw hb
 have hz_w1 := hb.size
 clear hb
 refine sa rfl rfl (Wn (tN (W_seq (W_rs (sm rfl rfl (st (X.lenL rfl rfl Tryz.underlying23) rfl (st (X.gtr rfl rfl) rfl (Wn (tN (W_if rfl (fun h10 => ?_) (fun h10 => ?_)))))))))))
 ·first | replace h10 := of_decide_eq_true h10 | replace h10 := of_decide_eq_false (notT h10) | replace h10 := notT h10 | skip
  refine W_rs (st (X.bld rfl (bidx0 _)) rfl (ssBN rfl rfl hB2 siz25 rfl rfl (fun w2 hB_ hc_ => ?_)))
  replace hB2 := hB_
  clear hB_
  replace hbw := bset hbw hc_ (by omega)
  have hz_w2 := hc_.size
  clear hc_
  refine sa rfl rfl (Wn (tN (W_ret (tR ?_))))
  exact (rCT rfl rfl hB2 Tryz.underlying25 rfl siz25 rfl (idx_errO (make_31 (by omega)) hbw)).1
 ·first | replace h10 := of_decide_eq_false h10 | replace h10 := of_decide_eq_true (notF h10) | replace h10 := notF h10 | skip
  refine W_skip (tN (W_seq (W_rs (sm rfl rfl (st (X.lenL rfl rfl Tryz.underlying23) rfl (sm rfl rfl (Wn (tN (W_block (W_lp (fun nw3_ lw3_ w3 => ∃ j : Nat, nw3_ = l.length - j ∧ lw3_ = ([(0, .slice a l.length cp), (2, .pointer (some ⟨g2, 0, none⟩)), (12, .slice a l.length cp), (13, .int .i64 l.length), (14, .int .i64 j)] : Env) ∧ (j ≤ l.length) ∧ (l.all fitE = (l.drop j).all fitE) ∧ (Blk w3 g2 25 #[.slice none 0 0]) ∧ (Below w.heap.size w w3)) _ ⟨_, ⟨0, rfl, rfl, by omega, rfl, hB2, hbw⟩, ⟨rfl, rfl, rfl, rfl, rfl, trivial⟩⟩ ?_))))))))))
  clear hB2 hbw
  rintro nw3_ lw3_ w3 ⟨j, rfl, rfl, hj, hq, hB2, hbw⟩
  have hz_w3 := hbw.size
  have hlt_hB2_w3 := hB2.lt
  refine W_rs (st (X.lss rfl rfl) rfl (Wn (tN (W_seq (W_if rfl (fun h15 => ?_) (fun h15 => ?_))))))
  ·first | replace h15 := of_decide_eq_true h15 | replace h15 := of_decide_eq_false (notT h15) | replace h15 := notT h15 | skip
   obtain ⟨x, hx⟩ : ∃ x, l[j]? = some x := ⟨_, List.getElem?_eq_getElem (by omega)⟩
   obtain ⟨g1, o1, c', hv, hg1⟩ := (h.bel hbw).some_ (by omega)
   injection hv with e1 _ e3
   subst e1 e3
   have hxs := h32 x (List.mem_of_getElem? hx)
   refine W_skip (tN (W_seq (W_block (W_rs (st (X.idxA rfl rfl Tryz.underlying23 siz66 rfl (by omega)) rfl (st (X.ldN (cs := x.cells) rfl Tryz.underlying66 rfl (by rw [Ent.cells_length hxs]; exact siz66) (EntsAt.range (h.bel hbw) h32 hx)) rfl ?_))))))
   refine salA inf66 rfl (fun g5 w4 hB5 hg5 hb hl5 => ?_)
   replace hbw := bthen hbw hb
   replace hB2 := hB2.bel hb
   have hz_w4 := hb.size
   clear hb
   refine ssBN rfl rfl hB5 (by rw [Ent.size hxs]; exact siz66) (by rw [Ent.size hxs]; rfl) (Ent.cells_one x) (fun w5 hB_ hc_ => ?_)
   replace hB5 := hB_
   clear hB_
   replace hB2 := hB2.chg hc_ (by first | (show ¬ _ = _; omega) | (intro k_ hk_; simp [Value.ownBlock] at hk_; subst hk_; show ¬ _ = _; omega) | assumption | trivial)
   replace hbw := bset hbw hc_ (by omega)
   have hz_w5 := hc_.size
   clear hc_
   refine Wn (tN (W_rs (st (X.fa fa66_1 rfl) rfl (st (X.ldB rfl hB5 Tryz.underlying3 rfl (Ent.cell_ hxs 0 _ rfl)) rfl (st (X.fa fa66_2 rfl) rfl (st (X.ldB rfl hB5 Tryz.underlying3 rfl (Ent.cell_ hxs 1 _ rfl)) rfl (st (X.fa fa66_3 rfl) rfl (st (X.ldB rfl hB5 Tryz.underlying3 rfl (Ent.cell_ hxs 2 _ rfl)) rfl (sbs (ps := [(0, .tmp 19), (1, .tmp 21), (2, .tmp 23)]) 1 rfl (bs3 _ _ _ _) (by simp [maxLen]) rfl rfl (fun g24 w6 hR24 hg24 hb => ?_))))))))))
   replace hB2 := hB2.belowAll hb
   replace hB5 := hB5.belowAll hb
   replace hbw := bthen hbw hb
   clear hb
   refine sc _ Tryz.func134 rfl (by kernel_rfl) rfl rfl ((May_any _ [x.pack, x.pos, x.len] _ hR24.reads).mono ?_)
   rintro e_ w7 ⟨rfl, hb⟩
   refine cR ?_
   replace hbw := bthen hbw hb
   replace hB2 := hB2.bel hb
   replace hB5 := hB5.bel hb
   have hz_w7 := hb.size
   clear hb
   refine st (X.not rfl) rfl (Wn (tN (W_if rfl (fun h26 => ?_) (fun h26 => ?_))))
   ·first | replace h26 := of_decide_eq_true h26 | replace h26 := of_decide_eq_false (notT h26) | replace h26 := notT h26 | skip
    refine W_rs (st (X.bld rfl (bidx0 _)) rfl (ssBN rfl rfl hB2 siz25 rfl rfl (fun w8 hB_ hc_ => ?_)))
    replace hB2 := hB_
    clear hB_
    replace hB5 := hB5.chg hc_ (by first | (show ¬ _ = _; omega) | (intro k_ hk_; simp [Value.ownBlock] at hk_; subst hk_; show ¬ _ = _; omega) | assumption | trivial)
    replace hbw := bset hbw hc_ (by omega)
    have hz_w8 := hc_.size
    clear hc_
    refine sa rfl rfl (Wn (tN (W_ret (bR (tR (tR (bR (tR ?_))))))))
    have hfx : fitE x = false := by rw [← fitE_all]; exact h26
    exact (rCT rfl rfl hB2 Tryz.underlying25 rfl siz25 rfl (idx_errO (make_1 (by omega) (by rw [hq, all_atG hx, hfx]; rfl)) hbw)).1
   ·first | replace h26 := of_decide_eq_false h26 | replace h26 := of_decide_eq_true (notF h26) | replace h26 := notF h26 | skip
    have hfx : fitE x = true := by rw [← fitE_all]; exact h26
    refine W_skip (bN (tN (W_reg (st (X.add64 rfl rfl (by omega)) rfl (sm rfl rfl (Wn (tN ⟨_, _, ?_, ⟨j + 1, rfl, rfl, by omega, by rw [hq, all_atG hx, hfx]; rfl, hB2, hbw⟩, ⟨rfl, rfl, rfl, rfl, rfl, trivial⟩⟩)))))))
    omega
  ·first | replace h15 := of_decide_eq_false h15 | replace h15 := of_decide_eq_true (notF h15) | replace h15 := notF h15 | skip
   obtain rfl : j = l.length := by omega
   rw [List.drop_length] at hq
   refine W_exit (tE (tE (bH (tN (W_rs (sm rfl rfl (sc _ Tryz.func49 rfl (by kernel_rfl) rfl rfl ((EntClone_any _ l _ (h.bel hbw) h32 hl).mono ?_))))))))
   rintro e_ w9 ⟨v1, rfl, hR1, hO1, hb⟩
   refine cR ?_
   replace hbw := bthen hbw hb
   replace hB2 := hB2.bel hb
   have hz_w9 := hb.size
   clear hb
   refine sa rfl rfl (Wn (tN (W_rs (sm rfl rfl (sc _ Tryz.func135 rfl (by kernel_rfl) rfl rfl ((SortE_any v1 l _ hR1 h32 hl).mono ?_))))))
   rintro e_ w10 ⟨xs, rfl, hp, hs, hR, hC⟩
   refine cR ?_
   replace hB2 := hB2.chg hC (fun hk => by have := hO1 _ hk; have := hB2.lt; omega)
   replace hbw := bapp hbw hC (fun k hk => by have := hO1 _ hk; omega)
   clear hC hR1
   have hxl : xs.length = l.length := hp.length_eq
   have hx32 : S32 xs := fun e he => h32 e (hp.mem_iff.1 he)
   obtain ⟨a2, c2, rfl, hn2, hcp2⟩ := hR.shape
   refine Wn (tN (W_seq (W_rs (sm rfl rfl (st (X.lenL rfl rfl Tryz.underlying23) rfl (sm rfl rfl (Wn (tN (W_block (W_lp (fun nw11_ lw11_ w11 => ∃ j : Nat, nw11_ = xs.length - j ∧ lw11_ = ([(2, .pointer (some ⟨g2, 0, none⟩)), (6, .slice a2 xs.length c2), (34, .int .i64 xs.length), (35, .int .i64 j)] : Env) ∧ (j ≤ xs.length) ∧ (upB (xs.take j) = true) ∧ (Row w11 66 35 (.slice a2 xs.length c2) xs.length (xs.flatMap Ent.cells)) ∧ (Blk w11 g2 25 #[.slice none 0 0]) ∧ (Below w.heap.size w w11)) _ ⟨_, ⟨0, rfl, rfl, by omega, rfl, hR, hB2, hbw⟩, ⟨rfl, rfl, rfl, rfl, trivial⟩⟩ ?_))))))))))
   clear hR hB2 hbw
   rintro nw11_ lw11_ w11 ⟨j, rfl, rfl, hj, hu, hR, hB2, hbw⟩
   have hz_w11 := hbw.size
   have hlt_hB2_w11 := hB2.lt
   refine W_rs (st (X.lss rfl rfl) rfl (Wn (tN (W_seq (W_if rfl (fun h36 => ?_) (fun h36 => ?_))))))
   ·first | replace h36 := of_decide_eq_true h36 | replace h36 := of_decide_eq_false (notT h36) | replace h36 := notT h36 | skip
    obtain ⟨x, hx⟩ : ∃ x, xs[j]? = some x := ⟨_, List.getElem?_eq_getElem (by omega)⟩
    obtain ⟨g1, o1, c', hv, hg1⟩ := hR.reads.some_ (by omega)
    injection hv with e1 _ e3
    subst e1 e3
    have hxs := hx32 x (List.mem_of_getElem? hx)
    refine W_skip (tN (W_seq (W_block (W_rs (sm rfl rfl (sa rfl rfl (Wn (tN ?_))))))))
    by_cases hsp_ : 0 < j
    ·obtain ⟨y, hy⟩ : ∃ y, xs[j - 1]? = some y := ⟨_, List.getElem?_eq_getElem (by omega)⟩
     have hy' : xs[j - 1 + 1]? = some x := by rw [show j - 1 + 1 = j by omega]; exact hx
     have hys := hx32 y (List.mem_of_getElem? hy)
     refine W_drsN (fun W_ => W_.rangeAt g1 (o1 + j * 35 + 0) (x.sum.map bv) ∧ W_.rangeAt g1 (o1 + (j - 1) * 35 + 0) (y.sum.map bv)) [0, 1, 2, 3, 4, 5, 6, 7, 8, 9, 10, 11, 12, 13, 14, 15] [true, true, true, true, true, true, true, true, true, true, true, true, true, true, true, true] (by kernel_rfl) (by kernel_rfl) (⟨(EntsAt.sum hR.reads hx32 hx), (EntsAt.sum hR.reads hx32 hy)⟩) ?_
     obtain ⟨w12, hw_⟩ : ∃ w12 : World, w12 = World.drew w11 := ⟨_, rfl⟩
     rw [← hw_]
     have hb : Below w11.heap.size w11 w12 := by rw [hw_]; exact bdrew (Below.refl _ _)
     clear hw_
     have hS := hb
     replace hbw := bthen hbw hb
     replace hB2 := hB2.bel hb
     replace hR := hR.bel hb
     have hz_w12 := hb.size
     clear hb
     refine oY rfl (fun W_ hW_ => (X.move rfl)) rfl (oY rfl (fun W_ hW_ => (X.gtr rfl rfl)) rfl (oY rfl (fun W_ hW_ => (X.mvB (c := true) rfl (decide_eq_true (by omega)))) rfl (oYg (g := 40) rfl rfl rfl rfl (fun W_ hW_ => (X.move rfl)) rfl (oYg (g := 40) rfl rfl rfl rfl (fun W_ hW_ => (X.move rfl)) rfl (oYg (g := 40) rfl rfl rfl rfl (fun W_ hW_ => (X.idxA rfl rfl Tryz.underlying23 siz66 rfl (by omega))) rfl (oYg (g := 40) rfl rfl rfl rfl (fun W_ hW_ => (X.fa fa66_0 rfl)) rfl (oYg (g := 40) rfl rfl rfl rfl (fun W_ hW_ => (X.ldN (cs := x.sum.map bv) rfl Tryz.underlying60 rfl (by rw [List.length_map, hxs]; exact siz60) hW_.1)) rfl ?_)))))))
     refine oYg (g := 40) rfl rfl rfl rfl (fun W_ hW_ => (X.move rfl)) rfl (oYg (g := 40) rfl rfl rfl rfl (fun W_ hW_ => (X.move rfl)) rfl (oYg (g := 40) rfl rfl rfl rfl (fun W_ hW_ => (X.sub rfl rfl (show IntKind.i64.wrap ((j : Int) - 1) = ((j - 1 : Nat) : Int) by rw [w64 (by omega)]; omega))) rfl ?_))
     refine oYg (g := 40) rfl rfl rfl rfl (fun W_ hW_ => (X.idxA rfl rfl Tryz.underlying23 siz66 rfl (by omega))) rfl (oYg (g := 40) rfl rfl rfl rfl (fun W_ hW_ => (X.fa fa66_0 rfl)) rfl (oYg (g := 40) rfl rfl rfl rfl (fun W_ hW_ => (X.ldN (cs := y.sum.map bv) rfl Tryz.underlying60 rfl (by rw [List.length_map, hys]; exact siz60) hW_.2)) rfl ?_))
     refine oYg (g := 40) rfl rfl rfl rfl (fun W_ hW_ => (X.eqSumF hxs hys rfl rfl)) rfl (oY rfl (fun W_ hW_ => (X.pickT rfl rfl)) rfl (oN (nN (W_if rfl (fun h53 => ?_) (fun h53 => ?_)))))
     ·first | replace h53 := of_decide_eq_true h53 | replace h53 := of_decide_eq_false (notT h53) | replace h53 := notT h53 | skip
      refine W_rs (st (X.bld rfl (bidx0 _)) rfl (ssBN rfl rfl hB2 siz25 rfl rfl (fun w13 hB_ hc_ => ?_)))
      replace hB2 := hB_
      clear hB_
      replace hbw := bset hbw hc_ (by omega)
      have hz_w13 := hc_.size
      clear hc_
      refine sa rfl rfl (Wn (tN (W_ret (bR (tR (tR (bR (tR ?_))))))))
      exact (rCT rfl rfl hB2 Tryz.underlying25 rfl siz25 rfl (idx_errO (make_of_dup hp hy hy' (eq_of_beq h53) (by omega) (hq.trans rfl)) hbw)).1
     ·first | replace h53 := of_decide_eq_false h53 | replace h53 := of_decide_eq_true (notF h53) | replace h53 := notF h53 | skip
      refine W_skip (bN (tN (W_reg ?_)))
      have hne : x.sum ≠ y.sum := fun e => by rw [e] at h53; simp at h53
      have hlt : y.sum < x.sum := by
       obtain ⟨q1, e1⟩ := List.getElem?_eq_some_iff.1 hy
       obtain ⟨q2, e2⟩ := List.getElem?_eq_some_iff.1 hx
       have h3 := List.pairwise_iff_getElem.1 hs (j - 1) j q1 q2 (by omega)
       rw [e1, e2] at h3
       rcases klt_tri x.sum y.sum with k | k | k
       ·exact absurd k h3
       ·exact absurd k hne
       ·exact k
      have hu' : upB (xs.take (j + 1)) = true := by
       have := upB_take (i := j - 1) (by rw [show j - 1 + 1 = j by omega]; exact hu) hy hy' hlt
       rwa [show j - 1 + 2 = j + 1 by omega] at this
      refine st (X.add64 rfl rfl (by omega)) rfl (sm rfl rfl (Wn (tN ⟨_, _, ?_, ⟨j + 1, rfl, rfl, by omega, hu', hR, hB2, hbw⟩, ⟨rfl, rfl, rfl, rfl, trivial⟩⟩)))
      omega
    ·refine W_drsN (fun _ => True) [0, 1, 2, 3, 4, 5, 6, 7, 8, 9, 10, 11, 12, 13, 14, 15] [true, true, true, true, true, true, true, true, true, true, true, true, true, true, true, true] (by kernel_rfl) (by kernel_rfl) (trivial) ?_
     obtain ⟨w14, hw_⟩ : ∃ w14 : World, w14 = World.drew w11 := ⟨_, rfl⟩
     rw [← hw_]
     have hb : Below w11.heap.size w11 w14 := by rw [hw_]; exact bdrew (Below.refl _ _)
     clear hw_
     have hS : True := trivial
     replace hbw := bthen hbw hb
     replace hB2 := hB2.bel hb
     replace hR := hR.bel hb
     have hz_w14 := hb.size
     clear hb
     refine oY rfl (fun W_ hW_ => (X.move rfl)) rfl (oY rfl (fun W_ hW_ => (X.gtr rfl rfl)) rfl (oY rfl (fun W_ hW_ => (X.mvB (c := false) rfl (decide_eq_false (by omega)))) rfl (oNg (g := 40) rfl rfl rfl rfl hS rfl (oNg (g := 40) rfl rfl rfl rfl hS rfl (oNg (g := 40) rfl rfl rfl rfl hS rfl (oNg (g := 40) rfl rfl rfl rfl hS rfl (oNg (g := 40) rfl rfl rfl rfl hS rfl (oNg (g := 40) rfl rfl rfl rfl hS rfl (oNg (g := 40) rfl rfl rfl rfl hS rfl (oNg (g := 40) rfl rfl rfl rfl hS rfl ?_))))))))))
     refine oNg (g := 40) rfl rfl rfl rfl hS rfl (oNg (g := 40) rfl rfl rfl rfl hS rfl (oNg (g := 40) rfl rfl rfl rfl hS rfl (oNg (g := 40) rfl rfl rfl rfl hS rfl (oY rfl (fun W_ hW_ => (X.pickF rfl rfl)) rfl (oN (nN (W_no rfl (rfl) (W_skip (bN (tN ?_))))))))))
     refine W_reg ?_
     have hu' : upB (xs.take (j + 1)) = true := by
      obtain rfl : j = 0 := by omega
      cases xs with
      | nil => rfl
      | cons c xs => rfl
     refine st (X.add64 rfl rfl (by omega)) rfl (sm rfl rfl (Wn (tN ⟨_, _, ?_, ⟨j + 1, rfl, rfl, by omega, hu', hR, hB2, hbw⟩, ⟨rfl, rfl, rfl, rfl, trivial⟩⟩)))
     omega
   ·first | replace h36 := of_decide_eq_false h36 | replace h36 := of_decide_eq_true (notF h36) | replace h36 := notF h36 | skip
    obtain rfl : j = xs.length := by omega
    rw [List.take_length] at hu
    have hm := make_of_up hp ((upB_iff _).1 hu) (by omega) (hq.trans rfl)
    refine W_exit (tE (tE (bH (tN (W_rs (sm rfl rfl (st (X.bld rfl (bidx _ _ _ _)) rfl (ssBN rfl rfl hB2 siz25 rfl rfl (fun w15 hB_ hc_ => ?_)))))))))
    replace hR := hR.chg hc_ (fun k hk e => hR.ne_ hB2 (by decide) (by rw [hk, e]))
    replace hB2 := hB_
    replace hbw := bset hbw hc_ (by omega)
    clear hB_ hc_
    refine sa rfl rfl (Wn (tN (W_ret ((rCT rfl rfl hB2 Tryz.underlying25 rfl siz25 rfl ?_).1))))
    rw [hm]
    exact ⟨_, rfl, hR.reads, fun k hk => by have := hO1 k hk; omega, hbw⟩
end Go.Proofs.YtnlabkogebnioaaGreatDoor
namespace Go.Proofs.YtnlabkogebnioaaGreatDoor
open Go.RowKit
def eZ : Ent := ⟨List.replicate 32 0, 0, 0, 0⟩
theorem benZ (w : World) : (Instr.build 66 #[]).run Tryz.prog w = .ok (.agg eZ.cells.toArray) w := by kernel_rfl
theorem X.neSumF {l : Env} {x y : Operand} {w : World} {t' ty : TypeId} {a b : List UInt8} (ha : a.length = 32) (hb : b.length = 32) (hx : ev l x = some (.agg (a.map bv).toArray)) (hy : ev l y = some (.agg (b.map bv).toArray)) : X Tryz.prog l (.binOp .neq 60 x y t') ty w (.bool (!(a == b))) w :=
 X.bin hx hy (fun c d => run_eqGuard_agg w .neq _ c d _ _ (by kernel_rfl)) (run_neq_sum a b ha hb w)
end Go.Proofs.YtnlabkogebnioaaGreatDoor
namespace Go.Proofs.YtnlabkogebnioaaGreatDoor
open Go.RowKit Sha
theorem Of_list (s : List UInt8) (w : World) (hT : ShaTabs w) (hs : s.length ≤ 4294960000) : Calls Tryz.prog 24 #[str s] w fun e w' => e = .returned (.agg ((sha s).map bv).toArray) ∧ Below w.heap.size w w' := by
 have := ShaOf_any ⟨s.toArray⟩ w hT (by show s.toArray.size ≤ _; simpa using hs)
 exact this
theorem sumReads {w : World} {g : Nat} {t : TypeId} {l : List UInt8} (hB : Blk w g t (l.map bv).toArray) (hl : l.length = 32) : Reads w 1 (.slice (some ⟨g, 0, none⟩) 32 32) 32 (l.map bv) := by
 refine ⟨by simp [hl], _, 32, rfl, Nat.le_refl _, by simp [maxLen], fun _ => ⟨g, 0, rfl, hB.lt, fun j u hj => ?_⟩⟩
 rw [hB.cell, List.getElem?_toArray, Nat.zero_add]
 exact hj
theorem sumSize {l : List UInt8} (hl : l.length = 32) : (l.map bv).toArray.size = 32 := by simp [hl]
theorem sumOne (l : List UInt8) : (l.map bv).toArray.toList.all (·.oneCell') = true := by simp [bv, Value.oneCell']
theorem sealed_any (s : List UInt8) (w : World) (hT : ShaTabs w) (hs : s.length ≤ 1000000) : Calls Tryz.prog 68 #[str s] w fun e w' => e = .returned (str (sealM 2 (sha s ++ s))) ∧ Below w.heap.size w w' := by
 have h32 : (sha s).length = 32 := sha_length s
 refine W_enter (args := [str s]) 11 Tryz.func68 rfl rfl rfl (W_sub [(0, str s)] ?_ ⟨rfl, trivial⟩)
 have hbw := Below.refl w.heap.size w
 refine W_rs (sa rfl rfl (Wn (tN (W_rs (sm rfl rfl (sc _ Tryz.func24 rfl (by kernel_rfl) rfl rfl ((Of_list s _ hT (by omega)).mono ?_)))))))
 rintro e_ w1 ⟨rfl, hb⟩
 refine cR ?_
 replace hbw := bthen hbw hb
 have hz_w1 := hb.size
 clear hb
 refine salA inf60 rfl (fun g3 w2 hB3 hg3 hb hl3 => ?_)
 replace hbw := bthen hbw hb
 have hz_w2 := hb.size
 clear hb
 refine ssBN rfl rfl hB3 (by rw [sumSize h32]; exact siz60) (by rw [sumSize h32]; rfl) (sumOne _) (fun w3 hB_ hc_ => ?_)
 replace hB3 := hB_
 replace hbw := bset hbw hc_ (by omega)
 have hz_w3 := hc_.size
 clear hB_ hc_
 refine Wn (tN (W_rs (st (X.slArr rfl Tryz.underlying60 siz5) rfl (st (X.strOf (s := sha s) rfl Tryz.underlying123 Tryz.underlying5 Tryz.underlying9 (sumReads hB3 h32)) rfl (sm rfl rfl (st (X.cat rfl rfl (by omega)) rfl (sc _ Tryz.func52 rfl (by kernel_rfl) rfl rfl ((Seal_any 2 (sha s ++ s) _ (by simp; omega)).mono ?_))))))))
 rintro e_ w3 ⟨rfl, hb⟩
 refine cR ?_
 replace hbw := bthen hbw hb
 replace hB3 := hB3.bel hb
 have hz_w3 := hb.size
 clear hb
 refine sa rfl rfl (Wn (tN (W_ret ?_)))
 exact (rT rfl rfl ⟨rfl, hbw⟩).1
theorem rCTT {P : Program} {fn : Func} {R : Ending → World → Prop} {l : Env} {w : World} {ty : TypeId} {p g t2 t3 : Nat} {v2 v3 : Value} {bt : TypeId} {cs : Array Value} {d : TypeDesc} (hf : fn.results = #[.cell p ty, .tmp t2, .tmp t3]) (hx : lk l p = some (.pointer (some ⟨g, 0, none⟩))) (hB : Blk w g bt cs) (hu : P.underlying ty = some d) (hd : (match d with | .struct _ | .array _ _ => true | _ => false) = true) (hi : (P.info? ty).map (·.size) = some cs.size) (hy : lk l t2 = some v2) (hz : lk l t3 = some v3)
  (hR : R (.returned (.tuple #[.agg cs, v2, v3])) w) : fnPost P fn R .ret l w ∧ fnPost P fn R .normal l w := r3 hf (resCell hx hB hu hd hi) hy hz hR
def z32L : List UInt8 := List.replicate 32 0
def OpenedIs (s : List UInt8) (w : World) (e : Ending) (w' : World) : Prop :=
  ∃ a d ok, e = .returned (.tuple #[.agg (a.map bv).toArray, str d, .bool ok]) ∧ a.length = 32 ∧ ok = openB s ∧ (ok = true → a = s.take 32 ∧ d = s.drop 32) ∧ Below w.heap.size w w'
set_option maxRecDepth 10000 in
theorem opened_any (s : List UInt8) (w : World) (hT : ShaTabs w) (hs : s.length ≤ 1099511627776) : Calls Tryz.prog 62 #[str s] w (OpenedIs s w) := by
 refine W_enter (args := [str s]) 27 Tryz.func62 rfl rfl rfl (W_sub [(0, str s)] ?_ ⟨rfl, trivial⟩)
 have hbw := Below.refl w.heap.size w
 refine W_rs (salA inf60 rfl (fun g2 w1 hB2 hg2 hb hl2 => ?_))
 replace hbw := bthen hbw hb
 have hz_w1 := hb.size
 clear hb
 refine sa rfl rfl (sa rfl rfl (Wn (tN (W_rs (salA inf60 rfl (fun g5 w2 hB5 hg5 hb hl5 => ?_))))))
 replace hbw := bthen hbw hb
 replace hB2 := hB2.bel hb
 have hz_w2 := hb.size
 clear hb
 refine Wn (tN (W_seq (W_rs (sm rfl rfl (st (X.lenS rfl rfl Tryz.underlying9) rfl (st (X.leq rfl rfl) rfl (sb rfl rfl (fun h10 => ?_) (fun h10 => ?_))))))))
 ·first | replace h10 := of_decide_eq_true h10 | replace h10 := of_decide_eq_false (notT h10) | replace h10 := notT h10 | skip
  refine gN (g := 10) rfl rfl rfl rfl (gN (g := 10) rfl rfl rfl rfl (gN (g := 10) rfl rfl rfl rfl (st (X.pickT rfl rfl) rfl (Wn (tN (W_yes rfl (rfl) (W_rs (st (X.ldBN rfl hB5 Tryz.underlying60 rfl siz60) rfl (ssBN rfl rfl hB2 siz60 rfl rfl (fun w3 hB_ hc_ => ?_))))))))))
  replace hB2 := hB_
  clear hB_
  replace hB5 := hB5.chg hc_ (by first | (show ¬ _ = _; omega) | (intro k_ hk_; simp [Value.ownBlock] at hk_; subst hk_; show ¬ _ = _; omega) | assumption | trivial)
  replace hbw := bset hbw hc_ (by omega)
  have hz_w3 := hc_.size
  clear hc_
  refine sa rfl rfl (sa rfl rfl (Wn (tN (W_ret (tR ((rCTT rfl rfl hB2 Tryz.underlying60 rfl siz60 rfl rfl ⟨z32L, [], false, rfl, rfl, ?_, (fun h => by cases h), hbw⟩).1))))))
  unfold openB
  rw [decide_eq_false (by omega)]
 ·first | replace h10 := of_decide_eq_false h10 | replace h10 := of_decide_eq_true (notF h10) | replace h10 := notF h10 | skip
  refine gY (g := 10) rfl rfl rfl (sm rfl rfl (gY (g := 10) rfl rfl rfl (st (X.lenS rfl rfl Tryz.underlying9) rfl (gY (g := 10) rfl rfl rfl (st (X.gtr rfl rfl) rfl (st (X.pickF rfl rfl) rfl (Wn (tN (W_if rfl (fun h14 => ?_) (fun h14 => ?_))))))))))
  ·first | replace h14 := of_decide_eq_true h14 | replace h14 := of_decide_eq_false (notT h14) | replace h14 := notT h14 | skip
   refine W_rs (st (X.ldBN rfl hB5 Tryz.underlying60 rfl siz60) rfl (ssBN rfl rfl hB2 siz60 rfl rfl (fun w4 hB_ hc_ => ?_)))
   replace hB2 := hB_
   clear hB_
   replace hB5 := hB5.chg hc_ (by first | (show ¬ _ = _; omega) | (intro k_ hk_; simp [Value.ownBlock] at hk_; subst hk_; show ¬ _ = _; omega) | assumption | trivial)
   replace hbw := bset hbw hc_ (by omega)
   have hz_w4 := hc_.size
   clear hc_
   refine sa rfl rfl (sa rfl rfl (Wn (tN (W_ret (tR ((rCTT rfl rfl hB2 Tryz.underlying60 rfl siz60 rfl rfl ⟨z32L, [], false, rfl, rfl, ?_, (fun h => by cases h), hbw⟩).1))))))
   unfold openB
   rw [decide_eq_false (by omega)]
  ·first | replace h14 := of_decide_eq_false h14 | replace h14 := of_decide_eq_true (notF h14) | replace h14 := notF h14 | skip
   have h33 : 33 ≤ s.length := by omega
   have h56 : s.length ≤ 1056 := by omega
   refine W_skip (tN (W_rs (st (X.slArr rfl Tryz.underlying60 siz5) rfl (sm rfl rfl (scpT (n := 32) rfl rfl Tryz.underlying123 siz5 hB5 (by omega) (by show 0 + 32 ≤ (List.replicate 32 _).toArray.size; rw [List.size_toArray, List.length_replicate]; omega) rfl (fun w5 hB_ hc_ => ?_))))))
   have hB5' : Blk w5 g5 60 ((s.take 32).map bv).toArray := by simpa using hB_
   replace hB5 := hB5'
   replace hB2 := hB2.chg hc_ (by omega)
   replace hbw := bset hbw hc_ (by omega)
   clear hB_ hB5' hc_
   refine Wn (tN (W_rs (sm rfl rfl (st (X.fromS (i := 32) rfl rfl Tryz.underlying9 rfl (by omega)) rfl (sa rfl rfl (Wn (tN ?_)))))))
   have hB0 := hB5
   have h32 : (s.take 32).length = 32 := by rw [List.length_take]; omega
   refine W_drsN (fun W_ => Blk W_ g5 60 ((s.take 32).map bv).toArray) [0, 1, 2, 4, 3, 5, 6, 7, 8] [true, true, true, true, false, true, false, true, true] (by kernel_rfl) (by kernel_rfl) (hB5.drew) ?_
   obtain ⟨w6, hw_⟩ : ∃ w6 : World, w6 = World.drew w5 := ⟨_, rfl⟩
   rw [← hw_]
   have hb : Below w5.heap.size w5 w6 := by rw [hw_]; exact bdrew (Below.refl _ _)
   clear hw_
   have hS := hb
   replace hbw := bthen hbw hb
   replace hB2 := hB2.bel hb
   replace hB5 := hB5.bel hb
   have hz_w6 := hb.size
   clear hb
   refine oY rfl (fun W_ hW_ => (X.ldBN rfl hW_ Tryz.underlying60 rfl (by rw [sumSize h32]; exact siz60))) rfl ?_
   refine oY rfl (fun W_ hW_ => (X.move rfl)) rfl (oY rfl (fun W_ hW_ => (X.move rfl)) rfl (oY rfl (fun W_ hW_ => (X.ldBN rfl hW_ Tryz.underlying60 rfl (by rw [sumSize h32]; exact siz60))) rfl ?_))
   refine oL rfl (fun Q_ hQ_ hP_ => (sc _ Tryz.func24 rfl (by kernel_rfl) rfl rfl ((Of_list _ _ (hT.belowAll hbw) (by simp; omega)).mono ?_)))
   rintro e_ w7 ⟨rfl, hb⟩
   refine cR ?_
   replace hbw := bthen hbw hb
   replace hB2 := hB2.bel hb
   replace hB5 := hB5.bel hb
   have hz_w7 := hb.size
   clear hb
   refine Wn (hQ_ _ _ (hB5) ?_)
   clear hQ_ hP_ Q_
   refine oY rfl (fun W_ hW_ => (X.eqSumF (sha_length _) h32 rfl rfl)) rfl (oL rfl (fun Q_ hQ_ hP_ => (ssBN rfl rfl hB2 (by rw [sumSize h32]; exact siz60) (by rw [sumSize h32]; rfl) (sumOne _) (fun w8 hB_ hc_ => ?_))))
   replace hB2 := hB_
   replace hB5 := hB5.chg hc_ (by show ¬ g5 = g2; omega)
   replace hbw := bset hbw hc_ (by omega)
   clear hB_ hc_
   refine Wn (hQ_ _ _ (hB5) ?_)
   clear hQ_ hP_ Q_
   refine oY rfl (fun W_ hW_ => (X.assign rfl)) rfl (oY rfl (fun W_ hW_ => (X.assign rfl)) rfl (oN (nN (W_ret ((rCTT rfl rfl hB2 Tryz.underlying60 rfl (by rw [sumSize h32]; exact siz60) rfl rfl ⟨s.take 32, s.drop 32, _, rfl, h32, ?_, (fun _ => ⟨rfl, rfl⟩), hbw⟩).1)))))
   unfold openB
   rw [Bool.eq_iff_iff]
   simp only [beq_iff_eq, decide_eq_true_eq]
   exact ⟨fun h => ⟨h33, h56, h⟩, fun h => h.2.2⟩
end Go.Proofs.YtnlabkogebnioaaGreatDoor
namespace Go.Proofs.YtnlabkogebnioaaGreatDoor
open Go.RowKit
section
variable {F : Fence} {n : Nat} {P : Program} {N : Nat} {ds : List Deferred} {Q : Post} {l : Env} {w : World} {ops : Array Oper} {rest : List Oper} {op : Op} {ty : TypeId} {pos : String} {aft : Array Edge}
theorem gYI {dst : Option Nat} {j g : Nat} {b : Bool} (hj : (ops[j]?).bind (·.dst) = some g) (hg : lk l g = some (.bool b)) (hN : Nat.blt g N = true) (h : WLI F n P N ds ops Q (⟨dst, op, ty, pos, aft, none⟩ :: rest) l w) :
  WLI F n P N ds ops Q (⟨dst, op, ty, pos, aft, some (j, b)⟩ :: rest) l w := by
 intro a ha
 have h := h a ha
 have hs : g < a.tmps.size := by rw [ha.size]; exact of_decide_eq_true (by simpa [Nat.blt_eq] using hN)
 have hv := ha.val g _ hg
 have hy : yielded ops a.tmps j = some b := by
  unfold yielded
  rw [hj]
  simp only [Option.bind_some]
  rw [Array.getElem?_eq_getElem hs]
  simp only [Array.getD_eq_getD_getElem?, Array.getElem?_eq_getElem hs, Option.getD_some] at hv
  rw [hv]
 unfold wpListIn at h ⊢
 rw [if_pos (by simp [Region.wanted])] at h
 rw [if_pos (by simp [Region.wanted, hy])]
 exact h
end
def WI (lp n : Nat) (P : Program) (N : Nat) (Q : Post) (c : Code) (l : Env) (w : World) : Prop := ∀ a, Rep N [] l a → c.wpIn (Fence.wide.inRound lp) n P (lift N [] Q) a w
section
variable {lp n : Nat} {P : Program} {N : Nat} {Q : Post} {l : Env} {w : World} {id i : Nat}
theorem WI_skip (h : Q .normal l w) : WI lp n P N Q .skip l w := fun _ ha => wpIn_skip ⟨_, ha, h⟩
theorem WI_exit (h : Q (.exit i) l w) : WI lp n P N Q (.exit i) l w := fun _ ha => wpIn_exit ⟨_, ha, h⟩
theorem WI_seq {x y : Code} (h : WI lp n P N (thenQ (WI lp n P N Q y) Q) x l w) : WI lp n P N Q (.seq x y) l w := by
 intro a ha
 refine wpIn_seq (wpIn_mono (h a ha) (fun e a w hq => ?_))
 obtain ⟨l', hr, hq⟩ := hq
 cases e with
 | normal => exact hq a hr
 | _ => exact ⟨l', hr, hq⟩
theorem WI_if {x y : Code} {c : Operand} {b : Bool} (hc : ev l c = some (.bool b)) (h1 : b = true → WI lp n P N Q x l w) (h0 : b = false → WI lp n P N Q y l w) : WI lp n P N Q (.cond c x y) l w :=
 fun a ha => wpIn_cond_split (ha.knows _ _ hc) (fun h => h1 h a ha) (fun h => h0 h a ha)
theorem WI_yes {x y : Code} {c : Operand} {b : Bool} (hc : ev l c = some (.bool b)) (hb : b = true) (h : WI lp n P N Q x l w) : WI lp n P N Q (.cond c x y) l w :=
 WI_if hc (fun _ => h) (fun h0 => by rw [hb] at h0; cases h0)
theorem WI_block {c : Code} (h : WI lp n P N (inB id Q) c l w) : WI lp n P N Q (.block id c) l w := by
 intro a ha
 refine wpIn_block (wpIn_mono (h a ha) (fun e a w hq => ?_))
 obtain ⟨l', hr, hq⟩ := hq
 cases e with
 | exit i =>
  replace hq : (bif Nat.beq i id then Q .normal l' w else Q (.exit i) l' w) := hq
  show (if i = id then lift N [] Q .normal a w else lift N [] Q (.exit i) a w)
  by_cases hi : i = id
  ·subst hi
   rw [show Nat.beq i i = true from Nat.beq_refl i] at hq
   rw [if_pos rfl]
   exact ⟨l', hr, hq⟩
  ·rw [show Nat.beq i id = false from by
    cases hb : Nat.beq i id with
    | false => rfl
    | true => exact absurd (Nat.eq_of_beq_eq_true hb) hi] at hq
   rw [if_neg hi]
   exact ⟨l', hr, hq⟩
 | _ => exact ⟨l', hr, hq⟩
theorem WI_reg {os : List Oper} (hn : noDefer os = true) (hQ : ∀ l w, ¬ Q .outgrown l w) (h : WL P N [] os.toArray Q os l w) : WI lp n P N Q (.region id os.toArray false) l w :=
 fun a ha => wpIn_region_lit (WLI_of hn hQ h a ha)
theorem WI_out {c : Code} {Q' : Exit → Act → World → Prop} {a : Act} (h : WI lp n P N Q c l w) (ha : Rep N [] l a) (hq : ∀ e l a w, Rep N [] l a → Q e l w → Q' e a w) : c.wpIn (Fence.wide.inRound lp) n P Q' a w :=
 wpIn_mono (h a ha) fun e a w hx => by obtain ⟨l, hr, hx⟩ := hx; exact hq e l a w hr hx
end
end Go.Proofs.YtnlabkogebnioaaGreatDoor
namespace Go.Proofs.YtnlabkogebnioaaGreatDoor
open Go.RowKit
def encPc (p : Pc) : Value := .agg #[.int .u8 p.kind.toNat, str p.body, .int .i64 p.pos, .int .i64 p.next]
def KeepB (b : Nat) (w w' : World) : Prop := w'.heap[b]? = w.heap[b]?
abbrev PcS := { p : Pc // p.body.length ≤ 1099511627776 }
theorem framesN_step {s : List UInt8} {k a : Nat} (hk : 0 < k) (he : (nextM (s.drop a)).2.2.2 = 0) : framesN s k a = pcAt s a :: framesN s (k - 1) (a + (nextM (s.drop a)).2.2.1) := by
 obtain ⟨m, rfl⟩ : ∃ m, k = m + 1 := ⟨k - 1, by omega⟩
 rw [framesN, if_neg (by omega)]
 rfl
theorem framesN_stop {s : List UInt8} {k a : Nat} (he : (nextM (s.drop a)).2.2.2 ≠ 0) : framesN s k a = [] := by
 cases k with
 | zero => rfl
 | succ k => rw [framesN, if_pos he]
theorem bpc (k : UInt8) (b : List UInt8) (i j : Int) (w : World) : (Instr.build 159 #[(0, .int .u8 k.toNat), (1, str b), (2, .int .i64 i), (3, .int .i64 j)]).run Tryz.prog w = .ok (.agg #[.int .u8 k.toNat, str b, .int .i64 i, .int .i64 j]) w := by kernel_rfl
set_option maxRecDepth 10000 in
theorem frames_stops (n : Nat) (w : World) (gB : Nat) (s : List UInt8) (hB : Blk w gB 9 #[str s]) (hs : s.length ≤ 1099511627776) :
  SeqStopsK Fence.wide n Tryz.prog 133 #[.pointer (some ⟨gB, 0, none⟩)] (fun p : PcS => #[encPc p.1]) (KeepB gB) (fun xs => xs.map (·.1) = framesM s) (fun pre => pre.map (·.1) <+: framesM s) (s.length + 1) w := by
 intro lp J Jx W hW hJ hJx hY h0
 replace hB : Blk W gB 9 #[str s] := hB.bel hW
 refine callsIn_wide.2 (W_enter (args := [.func (.yield lp) #[] #[], .pointer (some ⟨gB, 0, none⟩)]) 34 Tryz.func133 rfl rfl rfl (W_sub [(0, .func (.yield lp) #[] #[]), (1, .pointer (some ⟨gB, 0, none⟩))] ?_ ⟨rfl, rfl, trivial⟩))
 refine W_rs (sa rfl rfl (Wn (tN (W_block (W_lp (fun n' l' w' => ∃ (pre : List PcS) (a k : Nat), n' = s.length - a ∧ l' = ([(0, .func (.yield lp) #[] #[]), (1, .pointer (some ⟨gB, 0, none⟩)), (3, .int .i64 a)] : Env) ∧ framesM s = pre.map (·.1) ++ framesN s k a ∧ a ≤ s.length ∧ s.length + 1 ≤ a + k ∧ pre.length ≤ a ∧ Blk w' gB 9 #[str s] ∧ J pre w') _ ⟨_, ⟨[], 0, s.length + 1, rfl, rfl, rfl, by omega, by omega, by simp, hB, h0⟩, ⟨rfl, rfl, rfl, trivial⟩⟩ ?_)))))
 clear hB h0
 rintro n' l' w1 ⟨pre, a, k, rfl, rfl, hfr, ha, hk, hp, hB, hJ1⟩
 refine W_block (W_rs (st (X.ldL rfl hB Tryz.underlying9 rfl rfl) rfl (sm rfl rfl (st (X.fromS (i := a) rfl rfl Tryz.underlying9 rfl ha) rfl (sc _ Tryz.func61 rfl (by kernel_rfl) rfl rfl ((Next_any (s.drop a) _ (by rw [List.length_drop]; omega)).mono ?_))))))
 rintro e_ w2 ⟨rfl, hb⟩
 refine cR (sm rfl rfl (st (X.ext rfl rfl) rfl (st (X.ext rfl rfl) rfl (st (X.ext rfl rfl) rfl (st (X.ext rfl rfl) rfl (sa rfl rfl (sa rfl rfl (sa rfl rfl (sa rfl rfl (Wn (tN ?_)))))))))))
 have hJ2 : J pre w2 := hJ pre w1 w2 none hJ1 (grown_of_bel hb) (fun r e => by cases e)
 replace hB := hB.bel hb
 clear hb hJ1
 by_cases he : (nextM (s.drop a)).2.2.2 = 0
 ·have hl := nextM_len he
  rw [List.length_drop] at hl
  refine W_seq (W_seq (W_regI (n := n) (stI wideT3 (fun c h => by cases h) (X.move rfl) rfl ?_)))
  refine stI wideT3 (fun c h => by cases h) (X.neq rfl rfl) rfl ?_
  refine stI wideT3 (fun c h => by cases h) (X.mvB rfl (c := false) (by rw [he]; rfl)) rfl ?_
  refine gYI (g := 19) rfl rfl rfl (stI wideT3 (fun c h => by cases h) (X.move rfl) rfl ?_)
  refine gYI (g := 19) rfl rfl rfl (stI wideT3 (fun c h => by cases h) (X.move rfl) rfl ?_)
  refine gYI (g := 19) rfl rfl rfl (stI wideT3 (fun c h => by cases h) (X.move rfl) rfl ?_)
  refine gYI (g := 19) rfl rfl rfl (stI wideT3 (fun c h => by cases h) (X.move rfl) rfl ?_)
  refine gYI (g := 19) rfl rfl rfl (stI wideT3 (fun c h => by cases h) (X.move rfl) rfl ?_)
  refine gYI (g := 19) rfl rfl rfl (stI wideT3 (fun c h => by cases h) (X.move rfl) rfl ?_)
  refine gYI (g := 19) rfl rfl rfl (stI wideT3 (fun c h => by cases h) (X.add64 rfl rfl (by omega)) rfl ?_)
  refine gYI (g := 19) rfl rfl rfl (stI wideT3 (fun c h => by cases h) (X.bld rfl (bpc _ _ _ _ _)) rfl ?_)
  refine gYI (g := 19) rfl rfl rfl ?_
  have hbd : (pcAt s a).body.length ≤ 1099511627776 := by
   have := nextM_body (s.drop a)
   rw [List.length_drop] at this
   show (nextM (s.drop a)).2.1.length ≤ _
   omega
  refine syield [encPc (pcAt s a)] wideT3 rfl rfl rfl rfl ?_
  have hstep := framesN_step (k := k) (by omega) he
  obtain ⟨fn, tmps, assign, body, hy, hR⟩ := hY pre ⟨pcAt s a, hbd⟩ w2 hJ2 (by omega)
  refine ⟨fn, tmps, assign, body, hy, RoundIn.mono hR (fun e w5 h => ?_)⟩
  rcases h with ⟨rfl, hJ5, hk5⟩ | ⟨rfl, hJx5⟩
  ·refine gYI (g := 19) rfl rfl rfl (stI wideT3 (fun c h => by cases h) (X.not rfl) rfl ?_)
   refine stI wideT3 (fun c h => by cases h) (X.pickF rfl rfl) rfl ?_
   refine WIn (tN (W_no rfl rfl (W_skip (tN (W_reg (sm rfl rfl (sm rfl rfl (st (X.add64 rfl rfl (by omega)) rfl (sa rfl rfl (Wn (bN (tN ⟨_, _, ?_, ⟨pre ++ [⟨pcAt s a, hbd⟩], a + (nextM (s.drop a)).2.2.1, k - 1, rfl, rfl, ?_, by omega, by omega, by simp; omega, ?_, hJ5⟩, ⟨rfl, rfl, rfl, trivial⟩⟩))))))))))))
   ·omega
   ·rw [hfr, hstep, List.map_append, List.append_assoc]; rfl
   ·exact hk5.trans hB
  ·refine gYI (g := 19) rfl rfl rfl (stI wideT3 (fun c h => by cases h) (X.not rfl) rfl ?_)
   refine stI wideT3 (fun c h => by cases h) (X.pickF rfl rfl) rfl ?_
   refine WIn (tN (W_yes rfl rfl (W_ret (tR (bR (tR (bR ?_)))))))
   exact (r0 rfl ⟨⟨_, rfl⟩, .inr ⟨_, ⟨framesN s (k - 1) (a + (nextM (s.drop a)).2.2.1), by rw [hfr, hstep, List.map_append, List.append_assoc]; rfl⟩, hJx5⟩⟩).1
 ·refine W_seq (W_seq (W_reg (sm rfl rfl (st (X.neq rfl rfl) rfl (sbY rfl (decide_eq_true he) rfl (gN (g := 19) rfl rfl rfl rfl (gN (g := 19) rfl rfl rfl rfl (gN (g := 19) rfl rfl rfl rfl (gN (g := 19) rfl rfl rfl rfl (gN (g := 19) rfl rfl rfl rfl ?_))))))))))
  refine gN (g := 19) rfl rfl rfl rfl (gN (g := 19) rfl rfl rfl rfl (gN (g := 19) rfl rfl rfl rfl (gN (g := 19) rfl rfl rfl rfl (gN (g := 19) rfl rfl rfl rfl (st (X.pickT rfl rfl) rfl (Wn (tN (W_yes rfl rfl (W_ret (tR (bR (tR (bR ?_)))))))))))))
  rw [framesN_stop he, List.append_nil] at hfr
  exact (r0 rfl ⟨⟨_, rfl⟩, .inl ⟨pre, hfr.symm, hJ2⟩⟩).1
end Go.Proofs.YtnlabkogebnioaaGreatDoor
namespace Go.Proofs.YtnlabkogebnioaaGreatDoor
open Go.RowKit Sha
def hasOf (l : List Ent) : List (List UInt8 × Int) := l.zipIdx.map fun p => (p.1.sum, (p.2 : Int))
theorem hasOf_snoc (l : List Ent) (e : Ent) : hasOf (l ++ [e]) = hasOf l ++ [(e.sum, (l.length : Int))] := by
 simp [hasOf, List.zipIdx_append]
structure ScnAt (w : World) (gx gm : Nat) (v : Value) (x : Scn) : Prop where
  blk : Blk w gx 97 #[v, .map (some gm), .int .i64 x.good, .bool x.whole]
  row : Row w 66 35 v x.l.length (x.l.flatMap Ent.cells)
  map : ∃ m : List (Sum32 × Int), MapAt w gm encSum encInt m ∧ m.map (fun p => (p.1.1, p.2)) = hasOf x.l
  s32 : S32 x.l
theorem ScnAt.bel {w w' : World} {gx gm : Nat} {v : Value} {x : Scn} (h : ScnAt w gx gm v x) (hb : Below w.heap.size w w') : ScnAt w' gx gm v x :=
 ⟨h.blk.bel hb, h.row.bel hb, by obtain ⟨m, h1, h2⟩ := h.map; exact ⟨m, h1.bel hb, h2⟩, h.s32⟩
theorem has_mem {m : List (Sum32 × Int)} {l : List Ent} (h : m.map (fun p => (p.1.1, p.2)) = hasOf l) (k : Sum32) : k ∈ m.map (·.1) ↔ hadM l k.1 = true := by
 have e1 : (m.map (fun p => (p.1.1, p.2))).map (·.1) = (m.map (·.1)).map (·.1) := by simp [List.map_map, Function.comp_def]
 have e2 : (hasOf l).map (·.1) = l.map (·.sum) := by
  unfold hasOf
  rw [List.map_map]
  have : ((fun x => x.1) ∘ fun p : Ent × Nat => (p.1.sum, (p.2 : Int))) = (fun e : Ent => e.sum) ∘ Prod.fst := rfl
  rw [this, ← List.map_map, List.zipIdx_map_fst]
 rw [h, e2] at e1
 unfold hadM
 rw [List.any_eq_true]
 constructor
 ·intro hk
  have : k.1 ∈ (m.map (·.1)).map (·.1) := List.mem_map.2 ⟨k, hk, rfl⟩
  rw [← e1] at this
  obtain ⟨e, he, hes⟩ := List.mem_map.1 this
  exact ⟨e, he, by simpa using hes⟩
 ·rintro ⟨e, he, hes⟩
  have : k.1 ∈ l.map (·.sum) := List.mem_map.2 ⟨e, he, by simpa using hes⟩
  rw [e1] at this
  obtain ⟨q, hq, hqe⟩ := List.mem_map.1 this
  exact (Subtype.ext hqe : q = k) ▸ hq
theorem bent (a : List UInt8) (n i j : Int) (ha : a.length = 32) (w : World) : (Instr.build 66 #[(0, .agg (a.map bv).toArray), (1, .int .i64 n), (2, .int .i64 i), (3, .int .i64 j)]).run Tryz.prog w = .ok (.agg (Ent.mk a n i j).cells.toArray) w := by
 match a, ha with
 | [a0, a1, a2, a3, a4, a5, a6, a7, a8, a9, b0, b1, b2, b3, b4, b5, b6, b7, b8, b9, c0, c1, c2, c3, c4, c5, c6, c7, c8, c9, d0, d1], _ => show _ = _; kernel_rfl
theorem Blk.neM {κ ν : Type} [DecidableEq κ] {enc : κ → Value} {encv : ν → Value} {w : World} {g b : Nat} {t : TypeId} {cs : Array Value} {m : List (κ × ν)} (hB : Blk w g t cs) (hM : MapAt w b enc encv m) : g ≠ b := by
 rintro rfl
 obtain ⟨ts, clock, _, _, _, h4⟩ := hM.obj
 have h : w.heap[g]? = some (.cells cs t) := hB
 rw [h4] at h
 cases h
theorem Row.neM {κ ν : Type} [DecidableEq κ] {enc : κ → Value} {encv : ν → Value} {w : World} {b n size : Nat} {e : TypeId} {v : Value} {xs : List Value} {m : List (κ × ν)} (hR : Row w e size v n xs) (hM : MapAt w b enc encv m) : ∀ k, v.ownBlock = some k → k ≠ b := fun k hk => by
 rintro rfl
 obtain ⟨ts, clock, _, _, _, h4⟩ := hM.obj
 have := hR.onCells k _ hk h4
 cases this
theorem entOne (e : Ent) : e.cells.toArray.toList.all (·.oneCell') = true := by
 simp [Ent.cells, bv, Value.oneCell']
theorem rowLt {w : World} {e : TypeId} {size n : Nat} {v : Value} {xs : List Value} (h : Row w e size v n xs) : ∀ k, v.ownBlock = some k → k < w.heap.size := fun k hk => by
 rcases h.2 with ⟨rfl, _⟩ | ⟨g, off, cap, cur, fz, rfl, hg, _⟩
 ·simp [Value.ownBlock] at hk
 ·simp [Value.ownBlock] at hk
  subst hk
  exact (Array.getElem?_eq_some_iff.1 hg).1
def AddPost (w : World) (gx gm : Nat) (v : Value) (x : Scn) (E : Ent) (e : Ending) (w' : World) : Prop :=
  ∃ v', e = .returned (.agg E.cells.toArray) ∧ ScnAt w' gx gm v' { x with l := x.l ++ [E] } ∧ (∀ k, v'.ownBlock = some k → v.ownBlock = some k ∨ w.heap.size ≤ k) ∧ Chg (fun k => k = gx ∨ k = gm ∨ v.ownBlock = some k) w w'
set_option maxRecDepth 10000 in
theorem add_any (gx gm : Nat) (v : Value) (x : Scn) (n pos : Int) (a d : List UInt8) (w : World) (h : ScnAt w gx gm v x) (ha : a.length = 32) (hn : hadM x.l a = false) (hl : x.l.length ≤ 20000000) :
  Calls Tryz.prog 69 #[.pointer (some ⟨gx, 0, none⟩), .int .i64 n, .int .i64 pos, .agg (a.map bv).toArray, str d] w (AddPost w gx gm v x ⟨a, n, pos, d.length⟩) := by
 have hB : Blk w gx 97 #[v, .map (some gm), .int .i64 x.good, .bool x.whole] := h.blk
 have hR := h.row
 obtain ⟨m, hM, hm⟩ := h.map
 have hgm := hB.neM hM
 have hlt := hB.lt
 have hlm := hM.lt
 have hrm := hR.neM hM
 have hvl := rowLt hR
 obtain ⟨q, cq, rfl, hq1, hq2⟩ := hR.shape
 refine W_enter (args := [.pointer (some ⟨gx, 0, none⟩), .int .i64 n, .int .i64 pos, .agg (a.map bv).toArray, str d]) 39 Tryz.func69 rfl rfl rfl (W_sub [(0, .pointer (some ⟨gx, 0, none⟩)), (1, .int .i64 n), (2, .int .i64 pos), (3, .agg (a.map bv).toArray), (4, str d)] ?_ ⟨rfl, rfl, rfl, rfl, rfl, trivial⟩)
 have hcw := Chg.refl (fun k => k = gx ∨ k = gm ∨ (Value.slice q x.l.length cq).ownBlock = some k) w
 refine W_rs (sboxA rfl rfl (fun g8 w1 hB8 hg8 hb hl8 => ?_))
 replace hcw := hcw.then_below hb
 replace hB := hB.bel hb
 replace hR := hR.bel hb
 replace hM := hM.bel hb
 have hz_w1 := hb.size
 clear hb
 refine salA inf66 rfl (fun g10 w2 hB10 hg10 hb hl10 => ?_)
 replace hcw := hcw.then_below hb
 replace hB := hB.bel hb
 replace hR := hR.bel hb
 replace hM := hM.bel hb
 replace hB8 := hB8.bel hb
 have hz_w2 := hb.size
 clear hb
 refine Wn (tN (W_rs (st (X.ldBN rfl hB8 Tryz.underlying60 rfl (by rw [sumSize ha]; exact siz60)) rfl ?_)))
 refine sm rfl rfl (sm rfl rfl (sm rfl rfl (st (X.lenS rfl rfl Tryz.underlying9) rfl (st (X.bld rfl (bent a n pos d.length ha _)) rfl (salA inf66 rfl (fun g11 w3 hB11 hg11 hb hl11 => ?_))))))
 replace hcw := hcw.then_below hb
 replace hB := hB.bel hb
 replace hR := hR.bel hb
 replace hM := hM.bel hb
 replace hB8 := hB8.bel hb
 replace hB10 := hB10.bel hb
 have hz_w3 := hb.size
 clear hb
 refine ssBN rfl rfl hB11 (by rw [Ent.size (e := ⟨a, n, pos, d.length⟩) ha]; exact siz66) (by rw [Ent.size (e := ⟨a, n, pos, d.length⟩) ha]; rfl) (entOne _) (fun w4 hB_ hc_ => ?_)
 replace hB11 := hB_
 replace hB := hB.chg hc_ (by show ¬ gx = g11; omega)
 replace hR := hR.chg hc_ (fun k hk e => by have := hvl k hk; omega)
 replace hM := hM.chg hc_ (by show ¬ gm = g11; omega)
 replace hB8 := hB8.chg hc_ (by show ¬ g8 = g11; omega)
 replace hB10 := hB10.chg hc_ (by show ¬ g10 = g11; omega)
 replace hcw := hcw.next hc_ (fun i hi => .inr (by omega))
 have hz_w4 := hc_.size
 clear hB_ hc_
 refine Wn (tN (W_still_s 10 (by kernel_rfl) (by kernel_rfl) ?_))
 obtain ⟨w5, hw_⟩ : ∃ w5 : World, w5 = World.drew w4 := ⟨_, rfl⟩
 rw [← hw_]
 have hb : Below w4.heap.size w4 w5 := by rw [hw_]; exact bdrew (Below.refl _ _)
 clear hw_
 replace hcw := hcw.then_below hb
 replace hB := hB.bel hb
 replace hR := hR.bel hb
 replace hM := hM.bel hb
 replace hB8 := hB8.bel hb
 replace hB10 := hB10.bel hb
 replace hB11 := hB11.bel hb
 have hz_w5 := hb.size
 clear hb
 refine hY (X.move rfl) rfl (hY (X.nilChk rfl) rfl (hY (X.fa fa97_1 rfl) rfl (hY (X.ldL rfl hB Tryz.underlying95 rfl rfl) rfl (hY (X.ldBN rfl hB8 Tryz.underlying60 rfl (by rw [sumSize ha]; exact siz60)) rfl ?_))))
 refine hY (X.move rfl) rfl (hY (X.nilChk rfl) rfl (hY (X.fa fa97_0 rfl) rfl (hY (X.ldL rfl hB Tryz.underlying23 rfl rfl) rfl (hY (X.lenL rfl rfl Tryz.underlying23) rfl (hN (smu keySum rfl ⟨a, ha⟩ (x.l.length : Int) rfl rfl Tryz.underlying95 hM (fun w6 hM_ hc_ => ?_)))))))
 replace hB := hB.chg hc_ hgm
 replace hR := hR.chg hc_ (fun k hk e => hrm k hk e)
 replace hB8 := hB8.chg hc_ (by show ¬ g8 = gm; omega)
 replace hB10 := hB10.chg hc_ (by show ¬ g10 = gm; omega)
 replace hB11 := hB11.chg hc_ (by show ¬ g11 = gm; omega)
 replace hcw := hcw.next hc_ (fun i hi => .inl (.inr (.inl hi)))
 replace hM := hM_
 have hz_w6 := hc_.size
 clear hM_ hc_
 refine Wn (tN ?_)
 have hB0 := hB
 have hB110 := hB11
 refine W_phase_s (fun W_ => Below w6.heap.size w6 W_) 7 [true, true, true, true, true, true, false] (by kernel_rfl) (by kernel_rfl) (bdrew (Below.refl _ _)) ?_
 obtain ⟨w7, hw_⟩ : ∃ w7 : World, w7 = World.drew w6 := ⟨_, rfl⟩
 rw [← hw_]
 have hb : Below w6.heap.size w6 w7 := by rw [hw_]; exact bdrew (Below.refl _ _)
 clear hw_
 have hS := hb
 replace hcw := hcw.then_below hb
 replace hB := hB.bel hb
 replace hR := hR.bel hb
 replace hM := hM.bel hb
 replace hB8 := hB8.bel hb
 replace hB10 := hB10.bel hb
 replace hB11 := hB11.bel hb
 have hz_w7 := hb.size
 clear hb
 refine pY (fun W_ hW_ => (X.move rfl)) rfl (pY (fun W_ hW_ => (X.move rfl)) rfl (pY (fun W_ hW_ => (X.nilChk rfl)) rfl (pY (fun W_ hW_ => (X.fa fa97_0 rfl)) rfl (pY (fun W_ hW_ => (X.ldL rfl (hB0.bel hW_) Tryz.underlying23 rfl rfl)) rfl (pY (fun W_ hW_ => (X.ldBN rfl (hB110.bel hW_) Tryz.underlying66 rfl (by rw [Ent.size (e := ⟨a, n, pos, d.length⟩) ha]; exact siz66))) rfl ?_)))))
 refine pL (fun Q_ hQ_ hP_ => (sbs1 rfl Tryz.underlying23 inf66 (Ent.size (e := ⟨a, n, pos, d.length⟩) ha) rfl (by decide) (by decide) rfl (fun g34 w8 hR34 hg34 hb => ?_)))
 replace hS := bthen hS hb
 replace hcw := hcw.then_below hb
 replace hB := hB.bel hb
 replace hR := hR.bel hb
 replace hM := hM.bel hb
 replace hB10 := hB10.bel hb
 replace hB11 := hB11.bel hb
 have hz_w8 := hb.size
 clear hb
 have hl34 := hR34.blt (by decide)
 refine Wn (hQ_ _ _ hS ?_)
 clear hQ_ hP_ Q_
 refine pN (sapp rfl rfl Tryz.underlying23 inf66 rfl (by decide) hR (hR34.src Tryz.underlying23 (by intro u hu; have := List.all_eq_true.1 (entOne ⟨a, n, pos, d.length⟩) u (by simpa [Value.cells] using hu); exact this)) (by simp only [maxLen]; omega) (by omega) rfl (fun v' w9 hR2 hC2 hv => ?_))
 obtain ⟨a', c', rfl, _, _⟩ := hR2.shape
 have hz_w9 := hC2.size
 have hlt9 := hB.lt
 have hne1 := hR.ne2 hB (by decide)
 replace hB := hB.chg hC2 (fun hk => hne1 _ hk rfl)
 replace hM := hM.chg hC2 (fun hk => hR.neM hM _ hk rfl)
 have hne := hR2.ne2 hB (by decide)
 replace hB10 := hB10.chg hC2 (fun hk => by have := hvl _ hk; omega)
 replace hB11 := hB11.chg hC2 (fun hk => by have := hvl _ hk; omega)
 replace hcw := hcw.next hC2 (fun i hi => .inl (.inr (.inr hi)))
 have hvn : ∀ k, (Value.slice a' (x.l.length + 1) c').ownBlock = some k → (Value.slice q x.l.length cq).ownBlock = some k ∨ w.heap.size ≤ k := fun k hk => by
  rcases hv with hv | hv
  ·exact .inl (hv ▸ hk)
  ·rw [hv] at hk
   injection hk with hk
   right; omega
 have hrm2 := hR2.neM hM
 have hn10 : ¬ (Value.slice a' (x.l.length + 1) c').ownBlock = some g10 := fun hk => by
  rcases hv with hv | hv
  ·rw [hv] at hk; have := hvl _ hk; omega
  ·rw [hv] at hk; injection hk with hk; omega
 replace hR := hR2
 clear hC2 hR2 hB8
 refine st (X.nilChk rfl) rfl (st (X.fa fa97_0 rfl) rfl (ssB rfl rfl hB siz23 hR.one (by simp) (fun w10 hB_ hc_ => ?_)))
 replace hB := hB_
 replace hR := hR.chg hc_ (fun k hk e => hne _ hk e)
 replace hM := hM.chg hc_ (by show ¬ gm = gx; omega)
 replace hB10 := hB10.chg hc_ (by show ¬ g10 = gx; omega)
 replace hB11 := hB11.chg hc_ (by show ¬ g11 = gx; omega)
 replace hcw := hcw.next hc_ (fun i hi => .inl (.inl hi))
 have hz_w10 := hc_.size
 clear hB_ hc_
 refine Wn (nN (W_rs (st (X.ldBN rfl hB11 Tryz.underlying66 rfl (by rw [Ent.size (e := ⟨a, n, pos, d.length⟩) ha]; exact siz66)) rfl ?_)))
 refine ssBN rfl rfl hB10 (by rw [Ent.size (e := ⟨a, n, pos, d.length⟩) ha]; exact siz66) (by rw [Ent.size (e := ⟨a, n, pos, d.length⟩) ha]; rfl) (entOne _) (fun w11 hB_ hc_ => ?_)
 replace hB10 := hB_
 replace hB := hB.chg hc_ (by show ¬ gx = g10; omega)
 replace hR := hR.chg hc_ (fun k hk e => by have h1 := hvn k hk; have h2 := rowLt hR k hk; rcases h1 with h1 | h1; have := hvl k h1; omega; exact hn10 (e ▸ hk))
 replace hM := hM.chg hc_ (by show ¬ gm = g10; omega)
 replace hcw := hcw.next hc_ (fun i hi => .inr (by omega))
 clear hB_ hc_
 refine Wn (tN (W_ret ((rC rfl rfl hB10 Tryz.underlying66 rfl (by rw [Ent.size (e := ⟨a, n, pos, d.length⟩) ha]; exact siz66) ⟨_, rfl, ⟨hB, ?_, ⟨_, hM, ?_⟩, ?_⟩, hvn, hcw⟩).1)))
 ·rw [List.length_append, List.flatMap_append, List.flatMap_singleton]
  exact hR
 ·rw [mput_new _ _ _ (by rw [List.findIdx?_eq_none_iff]; intro p hp; rw [decide_eq_false_iff_not]; intro e; have := (has_mem hm ⟨a, ha⟩).1 (e ▸ List.mem_map.2 ⟨p, hp, rfl⟩); rw [hn] at this; cases this), List.map_append, hm, hasOf_snoc]
  rfl
 ·intro e he
  rcases List.mem_append.1 he with he | he
  ·exact h.s32 e he
  ·rw [List.mem_singleton.1 he]; exact ha
end Go.Proofs.YtnlabkogebnioaaGreatDoor
namespace Go.Proofs.YtnlabkogebnioaaGreatDoor
open Go.RowKit
theorem EntsAt.chgI {w w' : World} {v : Value} {l : List Ent} {k n0 c0 : Nat} {t : TypeId} {a0 : Option Addr} (h : EntsAt w v l) (h32 : S32 l) (hB : Blk w k t #[.slice a0 n0 c0]) (hc : Chg (fun q => q = k) w w') : EntsAt w' v l := by
 obtain ⟨h1, a, cap, rfl, h3, h4, h5⟩ := h
 refine ⟨h1, a, cap, rfl, h3, h4, fun h0 => ?_⟩
 obtain ⟨g, off, rfl, hg, hcl⟩ := h5 h0
 have hne : g ≠ k := by
  rintro rfl
  obtain ⟨x, hx⟩ : ∃ x, l[0]? = some x := ⟨_, List.getElem?_eq_getElem h0⟩
  have hxs := h32 x (List.mem_of_getElem? hx)
  have hf : (l.flatMap Ent.cells)[0]? = some (bv (x.sum.headD 0)) := by
   cases l with
   | nil => simp at hx
   | cons y l =>
    simp at hx
    subst hx
    rw [List.flatMap_cons]
    cases hs : y.sum with
    | nil => simp [hs] at hxs
    | cons b s => simp [Ent.cells, hs]
  have := hcl 0 _ hf
  rw [hB.cell] at this
  match off with
  | 0 => simp [bv] at this
  | q + 1 => simp at this
 have := hc.size
 exact ⟨g, off, rfl, by omega, fun j u hu => (hc.cell (p := ⟨g, off + j, none⟩) hg hne).trans (hcl j u hu)⟩
end Go.Proofs.YtnlabkogebnioaaGreatDoor
namespace Go.Proofs.YtnlabkogebnioaaGreatDoor
open Go.RowKit Sha
theorem index_any (gx gm : Nat) (v : Value) (x : Scn) (w : World) (h : ScnAt w gx gm v x) (hl : x.l.length ≤ 1000000) :
  Calls Tryz.prog 43 #[.pointer (some ⟨gx, 0, none⟩)] w fun e w' => ∃ u, e = .returned (.agg #[u]) ∧ EntsAt w' u (makeM x.l).1 ∧ (∀ k, u.ownBlock = some k → w.heap.size ≤ k) ∧ Below w.heap.size w w' := by
 have hB : Blk w gx 97 #[v, .map (some gm), .int .i64 x.good, .bool x.whole] := h.blk
 have hR := h.row.reads
 refine W_enter (args := [.pointer (some ⟨gx, 0, none⟩)]) 14 Tryz.func43 rfl rfl rfl (W_sub [(0, .pointer (some ⟨gx, 0, none⟩))] ?_ ⟨rfl, trivial⟩)
 have hbw := Below.refl w.heap.size w
 refine W_rs (salA inf25 rfl (fun g2 w1 hB2 hg2 hb hl2 => ?_))
 replace hbw := bthen hbw hb
 replace hB := hB.bel hb
 replace hR := hR.bel hb
 have hz_w1 := hb.size
 clear hb
 refine Wn (tN (W_rs (sm rfl rfl (st (X.nilChk rfl) rfl (st (X.fa fa97_0 rfl) rfl (st (X.ldL rfl hB Tryz.underlying23 rfl rfl) rfl (sc _ Tryz.func89 rfl (by kernel_rfl) rfl rfl ((Make_own v x.l _ hR h.s32 hl).mono ?_))))))))
 rintro e_ w2 ⟨u, rfl, hE, hO, hb⟩
 refine cR ?_
 replace hbw := bthen hbw hb
 replace hB := hB.bel hb
 replace hR := hR.bel hb
 replace hB2 := hB2.bel hb
 have hz_w2 := hb.size
 clear hb
 obtain ⟨am, cm, rfl⟩ : ∃ am cm, u = .slice am (makeM x.l).1.length cm := by obtain ⟨_, am, cm, e, _⟩ := hE; exact ⟨am, cm, e⟩
 refine sm rfl rfl (st (X.ext rfl rfl) rfl (st (X.ext rfl rfl) rfl (salA inf25 rfl (fun g3 w3 hB3 hg3 hb hl3 => ?_))))
 replace hbw := bthen hbw hb
 replace hB := hB.bel hb
 replace hR := hR.bel hb
 replace hB2 := hB2.bel hb
 replace hE := hE.bel hb
 have hz_w3 := hb.size
 clear hb
 refine ssBN rfl rfl hB3 siz25 rfl (by simp [Value.oneCell']) (fun w4 hB_ hc_ => ?_)
 replace hE := EntsAt.chgI hE (make_S32 h.s32) hB3 hc_
 replace hB2 := hB2.chg hc_ (by show ¬ g2 = g3; omega)
 replace hbw := bset hbw hc_ (by omega)
 replace hB3 := hB_
 clear hB_ hc_ hB hR
 refine sa rfl rfl (Wn (tN (W_rs (st (X.ldBN rfl hB3 Tryz.underlying25 rfl siz25) rfl (ssBN rfl rfl hB2 siz25 rfl (by simp [Value.oneCell']) (fun w5 hB_ hc_ => ?_))))))
 replace hE := EntsAt.chgI hE (make_S32 h.s32) hB2 hc_
 replace hbw := bset hbw hc_ (by omega)
 replace hB2 := hB_
 clear hB_ hc_
 refine Wn (tN (W_ret ?_))
 exact (rC rfl rfl hB2 Tryz.underlying25 rfl siz25 ⟨_, rfl, hE, fun k hk => by have := hO k hk; omega, hbw⟩).1
end Go.Proofs.YtnlabkogebnioaaGreatDoor
namespace Go.Proofs.YtnlabkogebnioaaGreatDoor
open Go.RowKit Sha
theorem ScnAt.chg {w w' : World} {gx gm : Nat} {v : Value} {x : Scn} {S : Nat → Prop} (h : ScnAt w gx gm v x) (hc : Chg S w w') (h1 : ¬ S gx) (h2 : ¬ S gm) (h3 : ∀ k, v.ownBlock = some k → ¬ S k) : ScnAt w' gx gm v x :=
 ⟨h.blk.chg hc h1, h.row.chg hc h3, by obtain ⟨m, a, b⟩ := h.map; exact ⟨m, a.chg hc h2, b⟩, h.s32⟩
def TakePost (w : World) (gx gm : Nat) (v : Value) (x : Scn) (r : Option Scn) (e : Ending) (w' : World) : Prop :=
  ∃ v', e = .returned (.bool r.isSome) ∧ ScnAt w' gx gm v' (r.getD x) ∧ (∀ k, v'.ownBlock = some k → v.ownBlock = some k ∨ w.heap.size ≤ k) ∧ Chg (fun k => k = gx ∨ k = gm ∨ v.ownBlock = some k) w w'
set_option maxRecDepth 10000 in
theorem ptake_any (gx gm : Nat) (v : Value) (x : Scn) (p : Pc) (n : Int) (w : World) (h : ScnAt w gx gm v x) (hT : ShaTabs w) (hN : NoTab (fun k => k = gx ∨ k = gm ∨ v.ownBlock = some k)) (hl : x.l.length ≤ 20000000) (hp : p.body.length ≤ 1099511627776) :
  Calls Tryz.prog 88 #[.pointer (some ⟨gx, 0, none⟩), encPc p, .int .i64 n] w (TakePost w gx gm v x (takeF n x p)) := by
 have hB : Blk w gx 97 #[v, .map (some gm), .int .i64 x.good, .bool x.whole] := h.blk
 obtain ⟨m, hM, hm⟩ := h.map
 have hgm := hB.neM hM
 have hlt := hB.lt
 have hlm := hM.lt
 have hvl := rowLt h.row
 obtain ⟨q, cq, rfl, hq1, hq2⟩ := h.row.shape
 have hR := h.row
 have hrx := hR.ne2 hB (by decide)
 have h32 := h.s32
 clear h
 refine W_enter (args := [.pointer (some ⟨gx, 0, none⟩), .agg #[.int .u8 p.kind.toNat, str p.body, .int .i64 p.pos, .int .i64 p.next], .int .i64 n]) 63 Tryz.func88 rfl rfl rfl (W_sub [(0, .pointer (some ⟨gx, 0, none⟩)), (1, .agg #[.int .u8 p.kind.toNat, str p.body, .int .i64 p.pos, .int .i64 p.next]), (2, .int .i64 n)] ?_ ⟨rfl, rfl, rfl, trivial⟩)
 have hcw := Chg.refl (fun k => k = gx ∨ k = gm ∨ (Value.slice q x.l.length cq).ownBlock = some k) w
 refine W_rs (sboxA rfl rfl (fun g4 w1 hB4 hg4 hb hl4 => ?_))
 replace hcw := hcw.then_below hb
 replace hB := hB.bel hb
 replace hM := hM.bel hb
 replace hR := hR.bel hb
 have hz_w1 := hb.size
 clear hb
 refine sa rfl rfl (Wn (tN (W_seq (W_rs (st (X.fa fa159_0 rfl) rfl (st (X.ldL rfl hB4 Tryz.underlying5 rfl rfl) rfl (Wn (tN (W_block (W_rs ?_))))))))))
 refine st (X.eql rfl rfl) rfl (sa rfl rfl (Wn (tN (W_if rfl (fun h14 => ?_) (fun h14 => ?_)))))
 ·first | replace h14 := of_decide_eq_true h14 | replace h14 := of_decide_eq_false (notT h14) | replace h14 := notT h14 | skip
  refine W_rs (st (X.fa fa159_1 rfl) rfl (st (X.ldL rfl hB4 Tryz.underlying9 rfl rfl) rfl (sc _ Tryz.func62 rfl (by kernel_rfl) rfl rfl ((opened_any p.body _ (hT.chg hcw hN) hp).mono ?_))))
  rintro e_ w2 ⟨a, d, ok, rfl, ha, hok, hal, hb⟩
  refine cR ?_
  replace hcw := hcw.then_below hb
  replace hB := hB.bel hb
  replace hM := hM.bel hb
  replace hR := hR.bel hb
  replace hB4 := hB4.bel hb
  have hz_w2 := hb.size
  clear hb
  refine sm rfl rfl (st (X.ext rfl rfl) rfl (st (X.ext rfl rfl) rfl (st (X.ext rfl rfl) rfl (salA inf60 rfl (fun g7 w3 hB7 hg7 hb hl7 => ?_)))))
  replace hcw := hcw.then_below hb
  replace hB := hB.bel hb
  replace hM := hM.bel hb
  replace hR := hR.bel hb
  replace hB4 := hB4.bel hb
  have hz_w3 := hb.size
  clear hb
  refine ssBN rfl rfl hB7 (by rw [sumSize ha]; exact siz60) (by rw [sumSize ha]; rfl) (sumOne _) (fun w4 hB_ hc_ => ?_)
  replace hB7 := hB_
  replace hB := hB.chg hc_ (by show ¬ gx = g7; omega)
  replace hM := hM.chg hc_ (by show ¬ gm = g7; omega)
  replace hB4 := hB4.chg hc_ (by show ¬ g4 = g7; omega)
  replace hR := hR.chg hc_ (fun k hk e => by have := hvl k hk; omega)
  replace hcw := hcw.next hc_ (fun i hi => .inr (by omega))
  have hz_w4 := hc_.size
  clear hB_ hc_
  refine sa rfl rfl (sa rfl rfl (Wn (tN (W_seq (W_drsN (fun W_ => Blk W_ gx 97 #[.slice q x.l.length cq, .map (some gm), .int .i64 x.good, .bool x.whole] ∧ Blk W_ g7 60 (a.map bv).toArray) [0, 1, 2, 3, 4, 5, 6, 7, 8, 9, 10] [true, true, true, true, true, false, true, true, true, true, true] (by kernel_rfl) (by kernel_rfl) (⟨hB.drew, hB7.drew⟩) ?_)))))
  obtain ⟨w5, hw_⟩ : ∃ w5 : World, w5 = World.drew w4 := ⟨_, rfl⟩
  rw [← hw_]
  have hb : Below w4.heap.size w4 w5 := by rw [hw_]; exact bdrew (Below.refl _ _)
  clear hw_
  have hS := hb
  replace hcw := hcw.then_below hb
  replace hB := hB.bel hb
  replace hM := hM.bel hb
  replace hR := hR.bel hb
  replace hB4 := hB4.bel hb
  replace hB7 := hB7.bel hb
  have hz_w5 := hb.size
  clear hb
  refine oY rfl (fun W_ hW_ => (X.move rfl)) rfl (oY rfl (fun W_ hW_ => (X.nilChk rfl)) rfl (oY rfl (fun W_ hW_ => (X.fa fa97_1 rfl)) rfl (oY rfl (fun W_ hW_ => (X.ldL rfl hW_.1 Tryz.underlying95 rfl rfl)) rfl (oY rfl (fun W_ hW_ => (X.ldBN rfl hW_.2 Tryz.underlying60 rfl (by rw [sumSize ha]; exact siz60))) rfl ?_))))
  refine oL rfl (fun Q_ hQ_ hP_ => (st (X.lookOk (z := .int .i64 0) keySum rfl ⟨a, ha⟩ rfl Tryz.underlying95 (by kernel_rfl) hM) rfl (Wn (hQ_ _ _ (⟨hB, hB7⟩) ?_))))
  clear hQ_ hP_ Q_
  refine oY rfl (fun W_ hW_ => (X.move rfl)) rfl (oY rfl (fun W_ hW_ => (X.ext rfl rfl)) rfl (oY rfl (fun W_ hW_ => (X.ext rfl rfl)) rfl (oY rfl (fun W_ hW_ => (X.assign rfl)) rfl (oY rfl (fun W_ hW_ => (X.assign rfl)) rfl (oN (nN (W_rs (sm rfl rfl (st (X.not rfl) rfl (sb rfl rfl (fun h34 => ?_) (fun h34 => ?_)))))))))))
  ·first | replace h34 := of_decide_eq_true h34 | replace h34 := of_decide_eq_false (notT h34) | replace h34 := notT h34 | skip
   refine gN (g := 34) rfl rfl rfl rfl (st (X.pickT rfl rfl) rfl (Wn (tN (W_yes rfl (rfl) (W_rs (sa rfl rfl (Wn (tN (W_ret (tR (bR (tR ?_))))))))))))
   have hk : p.kind = 2 := by apply UInt8.toNat.inj; show p.kind.toNat = 2; omega
   have hno : takeF n x p = none := by unfold takeF; rw [if_pos hk, if_neg (by rw [← hok]; cases ok <;> simp_all)]
   refine (rT rfl rfl (R := TakePost w gx gm _ x (takeF n x p)) ?_).1
   rw [hno]
   exact ⟨_, rfl, ⟨hB, hR, ⟨m, hM, hm⟩, h32⟩, fun k hk => .inl hk, hcw⟩
  ·first | replace h34 := of_decide_eq_false h34 | replace h34 := of_decide_eq_true (notF h34) | replace h34 := notF h34 | skip
   refine gY (g := 34) rfl rfl rfl (sm rfl rfl (st (X.pickF rfl rfl) rfl (Wn (tN (W_if rfl (fun h36 => ?_) (fun h36 => ?_))))))
   ·first | replace h36 := of_decide_eq_true h36 | replace h36 := of_decide_eq_false (notT h36) | replace h36 := notT h36 | skip
    refine W_rs (sa rfl rfl (Wn (tN (W_ret (tR (bR (tR ?_)))))))
    have hk : p.kind = 2 := by apply UInt8.toNat.inj; show p.kind.toNat = 2; omega
    have hh : hadM x.l a = true := (has_mem hm ⟨a, ha⟩).1 (Classical.byContradiction fun hc => by have := mget_none.2 hc; rw [this] at h36; simp at h36)
    have hno : takeF n x p = none := by unfold takeF; rw [if_pos hk, if_neg (by rintro ⟨h1, h2⟩; rw [← hok] at h1; obtain ⟨e1, e2⟩ := hal h1; rw [← e1, hh] at h2; cases h2)]
    refine (rT rfl rfl (R := TakePost w gx gm _ x (takeF n x p)) ?_).1
    rw [hno]
    exact ⟨_, rfl, ⟨hB, hR, ⟨m, hM, hm⟩, h32⟩, fun k hk => .inl hk, hcw⟩
   ·first | replace h36 := of_decide_eq_false h36 | replace h36 := of_decide_eq_true (notF h36) | replace h36 := notF h36 | skip
    refine W_skip (tN (W_reg (sm rfl rfl (sm rfl rfl (st (X.fa fa159_2 rfl) rfl (st (X.ldL rfl hB4 Tryz.underlying3 rfl rfl) rfl (st (X.ldBN rfl hB7 Tryz.underlying60 rfl (by rw [sumSize ha]; exact siz60)) rfl ?_)))))))
    refine sm rfl rfl (sc _ Tryz.func69 rfl (by kernel_rfl) rfl rfl ((add_any gx gm _ x n p.pos a d _ ⟨hB, hR, ⟨m, hM, hm⟩, h32⟩ ha (Bool.eq_false_iff.2 fun hh => by have h3 := (has_mem hm ⟨a, ha⟩).2 hh; have h4 : mget m (⟨a, ha⟩ : Sum32) ≠ none := fun e => mget_none.1 e h3; cases hg : mget m (⟨a, ha⟩ : Sum32) with | none => exact h4 hg | some z => rw [hg] at h36; simp at h36) hl).mono ?_))
    rintro e_ w6 ⟨v1, rfl, h1, hv1, hC1⟩
    refine cR ?_
    replace hB : Blk _ gx 97 #[v1, .map (some gm), .int .i64 x.good, .bool x.whole] := h1.blk
    replace hB4 := hB4.chg hC1 (by rintro (e | e | e); omega; omega; have := hvl _ e; omega)
    replace hcw := hcw.next hC1 (fun i hi => .inl hi)
    have hz_9 := hC1.size
    replace hR := h1.row
    obtain ⟨m2, hM2, hm2⟩ := h1.map
    replace hM := hM2
    have h322 := h1.s32
    have hrx2 := hR.ne2 hB (by decide)
    clear h1 hB7 hC1 hM2
    refine Wn (bN (tN (W_rs (sm rfl rfl (st (X.fa fa159_3 rfl) rfl (st (X.ldL rfl hB4 Tryz.underlying3 rfl rfl) rfl (st (X.nilChk rfl) rfl (st (X.fa fa97_2 rfl) rfl (ssB rfl rfl hB siz3 rfl (by first | decide | simp) (fun w7 hB_ hc_ => ?_))))))))))
    replace hB := hB_
    clear hB_
    replace hM := hM.chg hc_ (by first | (show ¬ _ = _; omega) | (intro k_ hk_; simp [Value.ownBlock] at hk_; subst hk_; show ¬ _ = _; omega) | assumption | trivial)
    replace hR := hR.chg hc_ (by first | (show ¬ _ = _; omega) | (intro k_ hk_; simp [Value.ownBlock] at hk_; subst hk_; show ¬ _ = _; omega) | assumption | trivial)
    replace hB4 := hB4.chg hc_ (by first | (show ¬ _ = _; omega) | (intro k_ hk_; simp [Value.ownBlock] at hk_; subst hk_; show ¬ _ = _; omega) | assumption | trivial)
    replace hcw := hcw.next hc_ (fun i_ hi_ => by first | exact .inl hi_ | exact .inl (.inl hi_) | (right; subst hi_; omega) | (left; subst hi_; show _ ≤ _; omega) | (left; subst hi_; assumption))
    have hz_w7 := hc_.size
    clear hc_
    refine Wn (tN (W_rs (sa rfl rfl (Wn (tN (W_ret ?_))))))
    have hk : p.kind = 2 := by apply UInt8.toNat.inj; show p.kind.toNat = 2; omega
    have ho : ok = true := by cases ok <;> simp_all
    obtain ⟨e1, e2⟩ := hal ho
    have h33 : openB p.body = true := hok ▸ ho
    have hl33 : 33 ≤ p.body.length := by unfold openB at h33; simp only [decide_eq_true_eq] at h33; exact h33.1
    have hh : hadM x.l a = false := (Bool.eq_false_iff.2 fun hh => by have h3 := (has_mem hm ⟨a, ha⟩).2 hh; have h4 : mget m (⟨a, ha⟩ : Sum32) ≠ none := fun e => mget_none.1 e h3; cases hg : mget m (⟨a, ha⟩ : Sum32) with | none => exact h4 hg | some z => rw [hg] at h36; simp at h36)
    have hE : (⟨a, n, p.pos, d.length⟩ : Ent) = ⟨p.body.take 32, n, p.pos, p.body.length - 32⟩ := by rw [e1, e2, List.length_drop]; congr 1; omega
    have hso : takeF n x p = some ⟨x.l ++ [⟨a, n, p.pos, d.length⟩], p.next, x.whole⟩ := by unfold takeF; rw [if_pos hk, if_pos ⟨h33, by rw [← e1]; exact hh⟩, hE]
    refine (rT rfl rfl (R := TakePost w gx gm _ x (takeF n x p)) ?_).1
    rw [hso]
    exact ⟨_, rfl, ⟨hB, hR, ⟨m2, hM, hm2⟩, h322⟩, fun k hk => (hv1 k hk).imp id (fun h => by omega), hcw⟩
 ·first | replace h14 := of_decide_eq_false h14 | replace h14 := of_decide_eq_true (notF h14) | replace h14 := notF h14 | skip
  refine W_rs (st (X.eql rfl rfl) rfl (sa rfl rfl (Wn (tN (W_if rfl (fun h44 => ?_) (fun h44 => ?_))))))
  ·first | replace h44 := of_decide_eq_true h44 | replace h44 := of_decide_eq_false (notT h44) | replace h44 := notT h44 | skip
   refine W_seq (W_drsN (fun W_ => Blk W_ g4 159 #[.int .u8 p.kind.toNat, str p.body, .int .i64 p.pos, .int .i64 p.next] ∧ Blk W_ gx 97 #[.slice q x.l.length cq, .map (some gm), .int .i64 x.good, .bool x.whole]) [0, 1, 2, 3, 4, 5, 6, 7, 8] [true, true, true, true, true, true, true, false, true] (by kernel_rfl) (by kernel_rfl) (⟨hB4.drew, hB.drew⟩) ?_)
   obtain ⟨w8, hw_⟩ : ∃ w8 : World, w8 = World.drew w1 := ⟨_, rfl⟩
   rw [← hw_]
   have hb : Below w1.heap.size w1 w8 := by rw [hw_]; exact bdrew (Below.refl _ _)
   clear hw_
   have hS := hb
   replace hcw := hcw.then_below hb
   replace hB := hB.bel hb
   replace hM := hM.bel hb
   replace hR := hR.bel hb
   replace hB4 := hB4.bel hb
   have hz_w8 := hb.size
   clear hb
   refine oY rfl (fun W_ hW_ => (X.fa fa159_1 rfl)) rfl (oY rfl (fun W_ hW_ => (X.ldL rfl hW_.1 Tryz.underlying9 rfl rfl)) rfl (oY rfl (fun W_ hW_ => (X.move rfl)) rfl (oY rfl (fun W_ hW_ => (X.nilChk rfl)) rfl (oY rfl (fun W_ hW_ => (X.fa fa97_0 rfl)) rfl (oY rfl (fun W_ hW_ => (X.ldL rfl hW_.2 Tryz.underlying23 rfl rfl)) rfl (oY rfl (fun W_ hW_ => (X.lenL rfl rfl Tryz.underlying23)) rfl (oL rfl (fun Q_ hQ_ hP_ => (sc _ Tryz.func53 rfl (by kernel_rfl) rfl rfl ((pfour_any _ _).mono ?_))))))))))
   rintro e_ w9 ⟨rfl, hb⟩
   refine cR ?_
   replace hcw := hcw.then_below hb
   replace hB := hB.bel hb
   replace hM := hM.bel hb
   replace hR := hR.bel hb
   replace hB4 := hB4.bel hb
   have hz_w9 := hb.size
   clear hb
   refine Wn (hQ_ _ _ (⟨hB4, hB⟩) ?_)
   clear hQ_ hP_ Q_
   refine oY rfl (fun W_ hW_ => (X.neS rfl rfl)) rfl (oN (nN (W_if rfl (fun h54 => ?_) (fun h54 => ?_))))
   ·first | replace h54 := of_decide_eq_true h54 | replace h54 := of_decide_eq_false (notT h54) | replace h54 := notT h54 | skip
    refine W_rs (sa rfl rfl (Wn (tN (W_ret (tR (bR (tR ?_)))))))
    have hk : p.kind = 3 := by apply UInt8.toNat.inj; show p.kind.toNat = 3; omega
    have hno : takeF n x p = none := by unfold takeF; rw [if_neg (by rw [hk]; decide), if_pos hk, if_neg (by simpa using h54)]
    refine (rT rfl rfl (R := TakePost w gx gm _ x (takeF n x p)) ?_).1
    rw [hno]
    exact ⟨_, rfl, ⟨hB, hR, ⟨m, hM, hm⟩, h32⟩, fun k hk => .inl hk, hcw⟩
   ·first | replace h54 := of_decide_eq_false h54 | replace h54 := of_decide_eq_true (notF h54) | replace h54 := notF h54 | skip
    refine W_skip (tN (W_reg (sm rfl rfl (st (X.nilChk rfl) rfl (st (X.fa fa97_3 rfl) rfl (ssB rfl rfl hB siz4 rfl (by first | decide | simp) (fun w10 hB_ hc_ => ?_)))))))
    replace hB := hB_
    clear hB_
    replace hM := hM.chg hc_ (by first | (show ¬ _ = _; omega) | (intro k_ hk_; simp [Value.ownBlock] at hk_; subst hk_; show ¬ _ = _; omega) | assumption | trivial)
    replace hR := hR.chg hc_ (by first | (show ¬ _ = _; omega) | (intro k_ hk_; simp [Value.ownBlock] at hk_; subst hk_; show ¬ _ = _; omega) | assumption | trivial)
    replace hB4 := hB4.chg hc_ (by first | (show ¬ _ = _; omega) | (intro k_ hk_; simp [Value.ownBlock] at hk_; subst hk_; show ¬ _ = _; omega) | assumption | trivial)
    replace hcw := hcw.next hc_ (fun i_ hi_ => by first | exact .inl hi_ | exact .inl (.inl hi_) | (right; subst hi_; omega) | (left; subst hi_; show _ ≤ _; omega) | (left; subst hi_; assumption))
    have hz_w10 := hc_.size
    clear hc_
    refine Wn (bN (tN (W_rs (sm rfl rfl (st (X.fa fa159_3 rfl) rfl (st (X.ldL rfl hB4 Tryz.underlying3 rfl rfl) rfl (st (X.nilChk rfl) rfl (st (X.fa fa97_2 rfl) rfl (ssB rfl rfl hB siz3 rfl (by first | decide | simp) (fun w11 hB_ hc_ => ?_))))))))))
    replace hB := hB_
    clear hB_
    replace hM := hM.chg hc_ (by first | (show ¬ _ = _; omega) | (intro k_ hk_; simp [Value.ownBlock] at hk_; subst hk_; show ¬ _ = _; omega) | assumption | trivial)
    replace hR := hR.chg hc_ (by first | (show ¬ _ = _; omega) | (intro k_ hk_; simp [Value.ownBlock] at hk_; subst hk_; show ¬ _ = _; omega) | assumption | trivial)
    replace hB4 := hB4.chg hc_ (by first | (show ¬ _ = _; omega) | (intro k_ hk_; simp [Value.ownBlock] at hk_; subst hk_; show ¬ _ = _; omega) | assumption | trivial)
    replace hcw := hcw.next hc_ (fun i_ hi_ => by first | exact .inl hi_ | exact .inl (.inl hi_) | (right; subst hi_; omega) | (left; subst hi_; show _ ≤ _; omega) | (left; subst hi_; assumption))
    have hz_w11 := hc_.size
    clear hc_
    refine Wn (tN (W_rs (sa rfl rfl (Wn (tN (W_ret ?_))))))
    have hk : p.kind = 3 := by apply UInt8.toNat.inj; show p.kind.toNat = 3; omega
    have hno : takeF n x p = some ⟨x.l, p.next, true⟩ := by unfold takeF; rw [if_neg (by rw [hk]; decide), if_pos hk, if_pos (by simpa using h54)]
    refine (rT rfl rfl (R := TakePost w gx gm _ x (takeF n x p)) ?_).1
    rw [hno]
    exact ⟨_, rfl, ⟨hB, hR, ⟨m, hM, hm⟩, h32⟩, fun k hk => .inl hk, hcw⟩
  ·first | replace h44 := of_decide_eq_false h44 | replace h44 := of_decide_eq_true (notF h44) | replace h44 := notF h44 | skip
   refine W_rs (sa rfl rfl (Wn (tN (W_ret (bR (tR ?_))))))
   have hno : takeF n x p = none := by unfold takeF; rw [if_neg (by intro e; rw [e] at h14; exact h14 rfl), if_neg (by intro e; rw [e] at h44; simp at h44)]
   refine (rT rfl rfl (R := TakePost w gx gm _ x (takeF n x p)) ?_).1
   rw [hno]
   exact ⟨_, rfl, ⟨hB, hR, ⟨m, hM, hm⟩, h32⟩, fun k hk => .inl hk, hcw⟩
end Go.Proofs.YtnlabkogebnioaaGreatDoor
namespace Go.Proofs.YtnlabkogebnioaaGreatDoor
open Go.RowKit
theorem wpOp_round {P : Program} {ops : Array Oper} {Q : Exit → Act → World → Prop} {lp n i : Nat} {K K' : Act → World → Prop} {a : Act} {w : World} (hQ : ¬ LetsOut Q) (hn : ∀ o, ops[i]? = some o → ∀ c, o.op ≠ .defer c) (hK : ∀ a w, K a w → K' a w)
  (h : wpOp P ops Q i K a w) : wpOpIn (Fence.wide.inRound lp) n P ops Q i K' a w := by
 unfold wpOp at h
 unfold wpOpIn
 cases ho : ops[i]? with
 | none => rw [ho] at h; exact hK _ _ h
 | some o =>
  rw [ho] at h
  simp only at h ⊢
  split at h
  ·rename_i hw
   rw [if_pos hw]
   refine ⟨fun f _ => trivial, ?_⟩
   rw [semAt_of _ _ _ (hn o ho)]
   have h' : o.upon P a K Q ((execOp a.eval o).run P w) := h.resolve_right (fun h => hQ h.2)
   exact upon_round hK h'
  ·rename_i hw
   rw [if_neg hw]
   exact ⟨fun f _ => trivial, hK _ _ h⟩
theorem wpAny_round {P : Program} {md : Region.Mode} {ops : Array Oper} {Q : Exit → Act → World → Prop} {lp n : Nat} (hQ : ¬ LetsOut Q) (hn : ∀ (i : Nat) (o : Oper), ops[i]? = some o → ∀ c, o.op ≠ .defer c) :
  ∀ (fuel : Nat) {listed : Array Bool} {a : Act} {w : World}, wpAny P md ops Q fuel listed a w → wpAnyIn (Fence.wide.inRound lp) n P md ops Q fuel listed a w
 | 0, _, _, _, h => h
 | fuel + 1, _, _, _, h => ⟨h.1, fun i hi => wpOp_round hQ (hn i) (fun _ _ h => wpAny_round hQ hn fuel h) (h.2 i hi)⟩
theorem noDefer_at {l : List Oper} (h : noDefer l = true) (i : Nat) (o : Oper) (ho : l.toArray[i]? = some o) : ∀ c, o.op ≠ .defer c := fun c hc => by
 rw [List.getElem?_toArray] at ho
 have := List.all_eq_true.1 h o (List.mem_of_getElem? ho)
 rw [hc] at this
 cases this
theorem wpIn_region_perm {P : Program} {Q : Exit → Act → World → Prop} {lp n id : Nat} {a : Act} {w : World} {l : List Oper} (S : World → Prop) (is : List Nat) (r : List Bool) (hm : P.follows .mixedOrders = true) (hok : (Region.noSelect l.toArray && permOk l.toArray is r (Array.replicate l.toArray.size false) && (is.length == l.length)) = true)
  (hQ : ∀ c a d v w, Q (.panic c) (a.put d v) w → Q (.panic c) a w) (hQ2 : ¬ LetsOut Q) (hn : noDefer l = true) (hS : S w.drew) (h : wpOrd P l.toArray Q S (permute l is) r a w.drew) : (Code.region id l.toArray true).wpIn (Fence.wide.inRound lp) n P Q a w := by
 simp only [Bool.and_eq_true, beq_iff_eq] at hok
 refine wpIn_region_any hm (wpAny_round hQ2 (noDefer_at hn) _ (wpAny_of_held _ _ _ _ (S := S) ?_))
 have := wpAnyH_of_perm hok.1.1 hQ is r _ _ _ hok.1.2 hS h
 rw [hok.2] at this
 simpa using this
theorem WI_drN {P : Program} {N lp n : Nat} {Q : Post} {os : List Oper} {l : Env} {w : World} {id : Nat} (S : World → Prop) (is : List Nat) (bs : List Bool) (hm : P.follows .mixedOrders = true) (hok : (Region.noSelect os.toArray && permOk os.toArray is bs (Array.replicate os.toArray.size false) && (is.length == os.length)) = true)
  (hn : noDefer os = true) (hS : S w.drew) (h : WO P N [] os (onlyN (fun l w => Q .normal l w)) S is bs l w.drew) : WI lp n P N Q (.region id os.toArray true) l w := fun a ha =>
 wpIn_mono (wpIn_region_perm (Q := lift N [] (onlyN (fun l w => Q .normal l w))) S is bs hm hok (fun c a d v w h => by obtain ⟨_, _, h⟩ := h; exact h.elim) (fun hl => by obtain ⟨_, _, _, _, h⟩ := hl; exact h) hn hS (h a ha)) (fun e a w hq => by
  obtain ⟨l', hr, hq⟩ := hq
  refine ⟨l', hr, ?_⟩
  cases e with
  | normal => exact hq
  | _ => exact hq.elim)
end Go.Proofs.YtnlabkogebnioaaGreatDoor
namespace Go.Proofs.YtnlabkogebnioaaGreatDoor
open Go.RowKit Sha
theorem frames_any (s : List UInt8) (w : World) : Calls Tryz.prog 87 #[str s] w fun e w' => ∃ gB, e = .returned (.func (.func 133) #[] #[.pointer (some ⟨gB, 0, none⟩)]) ∧ Blk w' gB 9 #[str s] ∧ w.heap.size ≤ gB ∧ Below w.heap.size w w' := by
 refine W_enter (args := [str s]) 4 Tryz.func87 rfl rfl rfl (W_sub [(0, str s)] ?_ ⟨rfl, trivial⟩)
 have hbw := Below.refl w.heap.size w
 refine W_rs (sbox rfl rfl rfl (fun g1 w1 hB1 hg1 hb hl1 => ?_))
 replace hbw := bthen hbw hb
 have hz_w1 := hb.size
 clear hb
 refine sa rfl rfl (Wn (tN (W_rs (st (w' := w1) (v := .func (.func 133) #[] #[.pointer (some ⟨g1, 0, none⟩)]) (fun ρ hρ => by unfold execOp; simp [hρ (.tmp 1) _ rfl, Instr.makeFunc]) rfl ?_))))
 refine sa rfl rfl (Wn (tN (W_ret ?_)))
 exact (rT rfl rfl ⟨g1, rfl, hB1, hg1, hbw⟩).1
theorem bscn (b : Nat) (w : World) : (Instr.build 97 #[(1, .map (some b))]).run Tryz.prog w = .ok (.agg #[.slice none 0 0, .map (some b), .int .i64 0, .bool false]) w := by kernel_rfl
theorem wp_seqW {P : Program} {N : Nat} {x y : Code} {Qr : Exit → Act → World → Prop} {l : Env} {a : Act} {w : World} (h : W P N [] (onlyN (fun l w => ∀ a, Rep N [] l a → y.wp P Qr a w)) x l w) (ha : Rep N [] l a) : (Code.seq x y).wp P Qr a w :=
 wp_seq (Code.wp_mono (fun e a w hq => by
  obtain ⟨l', hr, hq⟩ := hq
  cases e with
  | normal => exact hq a hr
  | _ => exact hq.elim) (h a ha))
structure ScI (w : World) (B gx gm g3 g6 : Nat) (n : Int) (x : Scn) (W : World) : Prop where
  scn : ∃ v, ScnAt W gx gm v x ∧ (∀ k, v.ownBlock = some k → B ≤ k)
  b3 : Blk W g3 3 #[.int .i64 n]
  b6 : Blk W g6 92 #[.pointer (some ⟨gx, 0, none⟩)]
  below : Below w.heap.size w W
  sz : B ≤ W.heap.size
structure ScO (w : World) (B gx gm g3 g6 gB : Nat) : Prop where
  h3 : w.heap.size ≤ g3
  hm : g3 < gm
  hx : gm < gx
  h6 : gx < g6
  hB : g6 < gB
  hBB : gB < B
theorem ScI.grown {w W W' : World} {B gx gm g3 g6 gB : Nat} {n : Int} {x : Scn} {row : Option Nat} (h : ScI w B gx gm g3 g6 n x W) (ho : ScO w B gx gm g3 g6 gB) (hg : W.grownBy W' row) (hr : ∀ r, row = some r → B ≤ r ∧ ∃ o : Obj, W.heap[r]? = some o ∧ o.isCells = false) : ScI w B gx gm g3 g6 n x W' := by
 have h1 := ho.h3; have h2 := ho.hm; have h3 := ho.hx; have h4 := ho.h6; have h5 := ho.hB; have h6 := ho.hBB
 obtain ⟨v, hs, hv⟩ := h.scn
 have hc := chg_of_grown hg
 refine ⟨⟨v, hs.chg hc (fun e => by have := (hr _ e).1; omega) (fun e => by have := (hr _ e).1; omega) (fun k hk e => by
  obtain ⟨o, ho, hn⟩ := (hr _ e).2
  have := hs.row.onCells k o hk ho
  rw [hn] at this
  cases this), hv⟩, h.b3.chg hc (fun e => by have := (hr _ e).1; omega), h.b6.chg hc (fun e => by have := (hr _ e).1; omega), ?_, ?_⟩
 ·exact h.below.grown hg h.below.size (fun k e => by have := (hr _ e).1; omega)
 ·exact Nat.le_trans h.sz hg.size
theorem keepsFrom_scan {W W' : World} {B gx gm : Nat} {v : Value} {x : Scn} (hs : ScnAt W gx gm v x) (hc : Chg (fun k => k = gx ∨ k = gm ∨ v.ownBlock = some k) W W') (h1 : gx < B) (h2 : gm < B) : KeepsFrom B W W' :=
 ⟨hc.size, fun k o hB hk ho => (hc.block k (Array.getElem?_eq_some_iff.1 hk).1 (by
  rintro (rfl | rfl | e)
  ·omega
  ·omega
  ·have := hs.row.onCells k o e hk
   rw [ho] at this
   cases this)).trans hk⟩
def ScnOwn (B : Nat) (gx gm : Nat) (v : Value) : Prop := B ≤ gx ∧ B ≤ gm ∧ ∀ k, v.ownBlock = some k → B ≤ k
def ScanPost (w : World) (r : Scn × Int) (e : Ending) (w' : World) : Prop :=
  ∃ p : Option Addr, e = .returned (.tuple #[.pointer p, .int .i64 r.2]) ∧ (r.2 ≠ 0 → p = none) ∧
  (r.2 = 0 → ∃ gx gm v, p = some ⟨gx, 0, none⟩ ∧ ScnAt w' gx gm v r.1 ∧ ScnOwn w.heap.size gx gm v) ∧ Below w.heap.size w w'
set_option maxRecDepth 10000 in
theorem scan_any (s : List UInt8) (n : Int) (w : World) (hT : ShaTabs w) (hs : s.length ≤ 16777216) :
  Calls Tryz.prog 42 #[str s, .int .i64 n] w (ScanPost w (scanP s n)) := by
 by_cases hn : rightP n = true
 rotate_left
 ·have hp : scanP s n = (⟨[], 0, false⟩, 1) := by unfold scanP; rw [if_pos (by simpa using hn)]
  rw [hp]
  refine W_enter (args := [str s, .int .i64 n]) 52 Tryz.func42 rfl rfl rfl (W_sub [(0, str s), (1, .int .i64 n)] ?_ ⟨rfl, rfl, trivial⟩)
  have hbw := Below.refl w.heap.size w
  refine W_rs (sbox rfl rfl rfl (fun g3 w1 hB3 hg3 hb hl3 => ?_))
  replace hbw := bthen hbw hb
  have hz_w1 := hb.size
  clear hb
  refine sa rfl rfl (sa rfl rfl (Wn (tN (W_seq (W_rs (st (X.ldL rfl hB3 Tryz.underlying3 rfl rfl) rfl (sc _ Tryz.func86 rfl (by kernel_rfl) rfl rfl ((pright_any n _).mono ?_))))))))
  rintro e_ w2 ⟨rfl, hb⟩
  refine cR ?_
  replace hbw := bthen hbw hb
  replace hB3 := hB3.bel hb
  have hz_w2 := hb.size
  clear hb
  refine st (X.not rfl) rfl (Wn (tN (W_yes rfl (by simpa using hn) ?_)))
  refine W_rs (sa rfl rfl (sa rfl rfl (Wn (tN (W_ret (tR ?_))))))
  exact (rTT rfl rfl rfl ⟨none, rfl, fun _ => rfl, fun h => absurd h (by decide), hbw⟩).1
 refine (callsIn_wide (n := 1)).1 (callsIn_of_wp_marks Tryz.func42 rfl trivial (wpIn_wide.2 ?_) rfl)
 refine wp_seqW (N := 52) (l := [(0, str s), (1, .int .i64 n)]) ?_ ⟨by kernel_rfl, rfl, okL_val ⟨by kernel_rfl, by kernel_rfl, trivial⟩⟩
 have hbw := Below.refl w.heap.size w
 refine W_reg (sbox rfl rfl rfl (fun g3 w1 hB3 hg3 hb hl3 => ?_))
 replace hbw := bthen hbw hb
 clear hb
 refine sa rfl rfl (sa rfl rfl (Wn (nN fun a ha => (wp_seqW ?_ ha))))
 refine W_rs (st (X.ldL rfl hB3 Tryz.underlying3 rfl rfl) rfl (sc _ Tryz.func86 rfl (by kernel_rfl) rfl rfl ((pright_any n _).mono ?_)))
 rintro e_ w2 ⟨rfl, hb⟩
 refine cR ?_
 replace hbw := bthen hbw hb
 replace hB3 := hB3.bel hb
 have hz2 := hb.size
 clear hb ha a
 refine st (X.not rfl) rfl (Wn (tN (W_no rfl (by rw [hn]; rfl) ?_)))
 refine W_skip (nN fun a ha => (wp_seqW ?_ ha))
 refine W_reg (smm (enc := encSum) (encv := encInt) rfl (fun gm w3 hM hgm hb hlm => ?_))
 replace hbw := bthen hbw hb
 replace hB3 := hB3.bel hb
 have hz3 := hb.size
 clear hb ha a
 refine st (X.bld rfl (bscn gm _)) rfl (sboxA rfl rfl (fun gx w4 hBx hgx hb hlx => ?_))
 replace hbw := bthen hbw hb
 replace hB3 := hB3.bel hb
 replace hM := hM.bel hb
 have hz4 := hb.size
 clear hb
 refine sal1 inf92 rfl rfl (fun g6 w5 hB6 hg6 hb hl6 => ?_)
 replace hbw := bthen hbw hb
 replace hB3 := hB3.bel hb
 replace hM := hM.bel hb
 replace hBx := hBx.bel hb
 have hz5 := hb.size
 clear hb
 refine ssB rfl rfl hB6 siz92 rfl (by decide) (fun w6 hB_ hc_ => ?_)
 replace hB6 := hB_
 replace hB3 := hB3.chg hc_ (by show ¬ g3 = g6; omega)
 replace hM := hM.chg hc_ (by show ¬ gm = g6; omega)
 replace hBx := hBx.chg hc_ (by show ¬ gx = g6; omega)
 replace hbw := bset hbw hc_ (by omega)
 have hz6 := hc_.size
 clear hB_ hc_
 refine Wn (nN fun a ha => (wp_seq (wp_seqW ?_ ha)))
 refine W_reg (sm rfl rfl (sc _ Tryz.func87 rfl (by kernel_rfl) rfl rfl ((frames_any s _).mono ?_)))
 rintro e_ w7 ⟨gB, rfl, hBs, hgB, hb⟩
 refine cR ?_
 replace hbw := bthen hbw hb
 replace hB3 := hB3.bel hb
 replace hM := hM.bel hb
 replace hBx := hBx.bel hb
 replace hB6 := hB6.bel hb
 have hz7 := hb.size
 clear hb ha a
 refine Wn (nN fun a ha => ?_)
 have hlB := hBs.lt
 have hO : ScO w w7.heap.size gx gm g3 g6 gB := ⟨hg3, by omega, by omega, by omega, by omega, hlB⟩
 have hT7 := hT.belowAll hbw
 have hz0 := hbw.size
 refine wp_block ((wpIn_wide (n := 1)).1 ?_)
 have hseq := frames_stops 0 w7 gB s hBs (by omega)
 refine wpIn_rangeFunc_ownH rfl (Nat.le_refl 1) (ha.knows (.tmp 15) _ rfl) trivial (fun args w => by kernel_rfl) hseq (fun h k => Eq.trans k h)
  (fun W l o o' hl h1 _ _ => by show (W.heap.setIfInBounds l o')[gB]? = _; rw [Array.getElem?_setIfInBounds, if_neg (by have := hO.hBB; omega)]) (Below.refl _ _) (fun _ => rfl)
  (fun pre W => ∃ x, goF n sc0 (pre.map (·.1)) = some x ∧ ScI w w7.heap.size gx gm g3 g6 n x W)
  (fun c pre W => c = .exit 0 ∧ ∃ q p x, pre.map (·.1) = q ++ [p] ∧ goF n sc0 q = some x ∧ stepF n x p = none ∧ ScI w w7.heap.size gx gm g3 g6 n x W)
  (fun pre W W' row h hg hr => by obtain ⟨x, h1, h2⟩ := h; exact ⟨x, h1, h2.grown hO hg hr⟩)
  (fun c pre W W' row h hg hr => by obtain ⟨hc, q, p, x, h1, h2, h3, h4⟩ := h; exact ⟨hc, q, p, x, h1, h2, h3, h4.grown hO hg hr⟩)
  ⟨sc0, rfl, ⟨_, ⟨hBx, Row.nil _ _ _, ⟨[], hM, rfl⟩, by simp [S32, sc0]⟩, fun k hk => by simp [Value.ownBlock] at hk⟩, hB3, hB6, hbw, Nat.le_refl _⟩
  (fun x a' W => ∃ g7, Rep 52 [] [(7, .pointer (some ⟨g7, 0, none⟩)), (3, .pointer (some ⟨g3, 0, none⟩)), (6, .pointer (some ⟨g6, 0, none⟩))] a' ∧ Blk W g7 159 #[.int .u8 x.1.kind.toNat, str x.1.body, .int .i64 x.1.pos, .int .i64 x.1.next] ∧ w7.heap.size ≤ g7)
  (fun x a' _ W W' row h hg hr => by obtain ⟨g7, h1, h2, h3⟩ := h; exact ⟨g7, h1, h2.grown hg (fun r e => (hr r e).2), h3⟩) ?_ ?_ ?_ ?_
 ·-- the loop's variable is laid
  intro lp pre x W K hI hK
  have ha' : Rep 52 [] [(16, encPc x.1), (3, .pointer (some ⟨g3, 0, none⟩)), (6, .pointer (some ⟨g6, 0, none⟩))] { tmps := (#[16].zip #[encPc x.1]).foldl (fun t (p, v) => t.setIfInBounds p v) a.tmps, defers := [] } := by
   have := (ha.sub (r := [(3, .pointer (some ⟨g3, 0, none⟩)), (6, .pointer (some ⟨g6, 0, none⟩))]) ⟨rfl, rfl, trivial⟩).put (d := 16) rfl (encPc x.1)
   have e : ({ tmps := (#[16].zip #[encPc x.1]).foldl (fun t (p, v) => t.setIfInBounds p v) a.tmps, defers := [] } : Act) = a.put (some 16) (encPc x.1) := by
    have hd := ha.defers
    cases a
    simp at hd
    subst hd
    simp [Act.put]
   rw [e]
   exact this
  obtain ⟨x0, hx0, hI0⟩ := hI
  refine outI (Q := fun e l W' => e = .normal ∧ ∃ g7, l = [(7, .pointer (some ⟨g7, 0, none⟩)), (3, .pointer (some ⟨g3, 0, none⟩)), (6, .pointer (some ⟨g6, 0, none⟩))] ∧ Blk W' g7 159 #[.int .u8 x.1.kind.toNat, str x.1.body, .int .i64 x.1.pos, .int .i64 x.1.next] ∧ W.heap.size ≤ g7 ∧ Below W.heap.size W W') ?_ ha' ?_
  ·refine WLI_of rfl (fun l w h => by cases h.1) ?_
   refine salA inf159 rfl (fun g7 wa hB7 hg7 hb hl7 => (ssBN rfl rfl hB7 siz159 rfl rfl (fun wb hB_ hc => (WL_sub [(7, .pointer (some ⟨g7, 0, none⟩)), (3, .pointer (some ⟨g3, 0, none⟩)), (6, .pointer (some ⟨g6, 0, none⟩))] ?_ ⟨rfl, rfl, rfl, trivial⟩))))
   exact Wn ⟨rfl, g7, rfl, hB_, hg7, bset hb hc hg7⟩
  ·rintro e l a' W' hr ⟨rfl, g7, rfl, hB7, hg7, hb⟩
   have hch : Chg (fun _ => False) W W' := Chg.of_below hb _
   have hoc : OnCells (fun _ => False) W := fun k o h _ => h.elim
   have hz := hI0.b6.lt
   obtain ⟨v, hs1, hv1⟩ := hI0.scn
   have hzz := hI0.sz
   have hzb := hb.size
   exact hK a' W' (keepsFrom_of hch hoc _) (hb.block gB (by have := hO.hBB; omega)) ⟨x0, hx0, ⟨v, hs1.bel hb, hv1⟩, hI0.b3.bel hb, hI0.b6.bel hb, bthen hI0.below hb, by omega⟩ ⟨g7, hr, hB7, by omega⟩
 ·-- the body
  intro lp pre x a' W _ _ hI ⟨g7, hr, h7, hg7⟩ hlen
  obtain ⟨x0, hx0, hI0⟩ := hI
  obtain ⟨v, hSn, hv⟩ := hI0.scn
  have hzW := hI0.sz
  have h3 := hI0.b3
  have h6 := hI0.b6
  have hTW := hT.belowAll hI0.below
  have hN : NoTab (fun k => k = gx ∨ k = gm ∨ v.ownBlock = some k) := by
   have hnt := noTab_from hT (Nat.le_refl _)
   have o1 := hO.h3; have o2 := hO.hm; have o3 := hO.hx; have o4 := hO.h6; have o5 := hO.hB; have o6 := hO.hBB
   refine ⟨?_, ?_⟩
   ·rintro (e | e | e)
    ·exact hnt.1 (by omega)
    ·exact hnt.1 (by omega)
    ·exact hnt.1 (by have := hv _ e; omega)
   ·rintro (e | e | e)
    ·exact hnt.2 (by omega)
    ·exact hnt.2 (by omega)
    ·exact hnt.2 (by have := hv _ e; omega)
  have hl0 : x0.l.length ≤ 20000000 := by
   have h1 := goF_len hx0
   simp only [List.length_map] at h1
   have : sc0.l.length = 0 := rfl
   omega
  have o1 := hO.h3; have o2 := hO.hm; have o3 := hO.hx; have o4 := hO.h6; have o5 := hO.hB; have o6 := hO.hBB
  have hvl := rowLt hSn.row
  have hn3 : ¬ (g3 = gx ∨ g3 = gm ∨ v.ownBlock = some g3) := by rintro (e | e | e); omega; omega; have := hv _ e; omega
  have hn6 : ¬ (g6 = gx ∨ g6 = gm ∨ v.ownBlock = some g6) := by rintro (e | e | e); omega; omega; have := hv _ e; omega
  have hnB : ¬ (gB = gx ∨ gB = gm ∨ v.ownBlock = some gB) := by rintro (e | e | e); omega; omega; have := hv _ e; omega
  have hn7 : ¬ v.ownBlock = some g7 := fun e => hSn.row.ne2 h7 (by decide) _ e rfl
  have hmap : (pre ++ [x]).map (·.1) = pre.map (·.1) ++ [x.1] := by simp
  refine WI_out (n := 1 - 1 - 1) (l := [(7, .pointer (some ⟨g7, 0, none⟩)), (3, .pointer (some ⟨g3, 0, none⟩)), (6, .pointer (some ⟨g6, 0, none⟩))])
   (Q := fun e _ W' => ∃ y, Chg (fun k => k = gx ∨ k = gm ∨ v.ownBlock = some k) W W' ∧ Blk W' g3 3 #[.int .i64 n] ∧ Blk W' g6 92 #[.pointer (some ⟨gx, 0, none⟩)] ∧
    (∃ v', ScnAt W' gx gm v' y ∧ (∀ k, v'.ownBlock = some k → w7.heap.size ≤ k)) ∧ ((e = .normal ∧ stepF n x0 x.1 = some y) ∨ (e = .exit 0 ∧ stepF n x0 x.1 = none ∧ y = x0))) ?_ hr ?_
  ·have hqo_ : ∀ (l : Env) (w : World), ¬ (∃ y, Chg (fun k => k = gx ∨ k = gm ∨ v.ownBlock = some k) W w ∧ Blk w g3 3 #[.int .i64 n] ∧ Blk w g6 92 #[.pointer (some ⟨gx, 0, none⟩)] ∧
    (∃ v', ScnAt w gx gm v' y ∧ (∀ k, v'.ownBlock = some k → w7.heap.size ≤ k)) ∧ ((Exit.outgrown = .normal ∧ stepF n x0 x.1 = some y) ∨ (Exit.outgrown = .exit 0 ∧ stepF n x0 x.1 = none ∧ y = x0))) := by
    rintro l w ⟨y, _, _, _, _, (⟨h, _⟩ | ⟨h, _⟩)⟩ <;> cases h
   have hcw := Chg.refl (fun k => k = gx ∨ k = gm ∨ v.ownBlock = some k) W
   refine WI_block (WI_seq (WI_seq (WI_reg rfl (fun l_ w_ h_ => hqo_ l_ w_ h_) (st (X.fa fa159_2 rfl) rfl (st (X.ldL rfl h7 Tryz.underlying3 rfl rfl) rfl (st (X.eql rfl rfl) rfl (Wn (tN (WI_if rfl (fun h19 => ?_) (fun h19 => ?_))))))))))
   ·first | replace h19 := of_decide_eq_true h19 | replace h19 := of_decide_eq_false (notT h19) | replace h19 := notT h19 | skip
    refine WI_seq ?_
    by_cases hsp_ : x.1.kind = 1
    ·refine WI_seq (WI_drN (fun W_ => Blk W_ g3 3 #[.int .i64 n] ∧ Blk W_ g7 159 #[.int .u8 x.1.kind.toNat, str x.1.body, .int .i64 x.1.pos, .int .i64 x.1.next]) [0, 1, 2, 3, 4, 5, 6, 7, 8, 9] [true, true, true, true, true, true, true, false, true, true] (by kernel_rfl) (by kernel_rfl) rfl (⟨h3.drew, h7.drew⟩) ?_)
     obtain ⟨w1, hw_⟩ : ∃ w1 : World, w1 = World.drew W := ⟨_, rfl⟩
     rw [← hw_]
     have hb : Below W.heap.size W w1 := by rw [hw_]; exact bdrew (Below.refl _ _)
     clear hw_
     have hS := hb
     replace hcw := hcw.then_below hb
     replace h3 := h3.bel hb
     replace h6 := h6.bel hb
     replace h7 := h7.bel hb
     replace hSn := hSn.bel hb
     have hz_w1 := hb.size
     clear hb
     refine oY rfl (fun W_ hW_ => (X.fa fa159_0 rfl)) rfl (oY rfl (fun W_ hW_ => (X.ldL rfl hW_.2 Tryz.underlying5 rfl rfl)) rfl (oY rfl (fun W_ hW_ => (X.neq rfl rfl)) rfl (oY rfl (fun W_ hW_ => (X.mvB (c := false) rfl (by rw [hsp_]; rfl))) rfl ?_)))
     refine oYg (g := 23) rfl rfl rfl rfl (fun W_ hW_ => (X.fa fa159_1 rfl)) rfl (oYg (g := 23) rfl rfl rfl rfl (fun W_ hW_ => (X.ldL rfl hW_.2 Tryz.underlying9 rfl rfl)) rfl (oYg (g := 23) rfl rfl rfl rfl (fun W_ hW_ => (X.ldL rfl hW_.1 Tryz.underlying3 rfl rfl)) rfl (oL rfl (fun Q_ hQ_ hP_ => (gY (g := 23) rfl rfl rfl (sc _ Tryz.func53 rfl (by kernel_rfl) rfl rfl ((pfour_any n _).mono ?_)))))))
     rintro e_ w2 ⟨rfl, hb⟩
     refine cR ?_
     replace hcw := hcw.then_below hb
     replace h3 := h3.bel hb
     replace h6 := h6.bel hb
     replace h7 := h7.bel hb
     replace hSn := hSn.bel hb
     have hz_w2 := hb.size
     clear hb
     refine Wn (hQ_ _ _ (⟨h3, h7⟩) ?_)
     clear hQ_ hP_ Q_
     refine oYg (g := 23) rfl rfl rfl rfl (fun W_ hW_ => (X.neS rfl rfl)) rfl (oY rfl (fun W_ hW_ => (X.pickF rfl rfl)) rfl (oN (nN (WI_if rfl (fun h29 => ?_) (fun h29 => ?_)))))
     ·first | replace h29 := of_decide_eq_true h29 | replace h29 := of_decide_eq_false (notT h29) | replace h29 := notT h29 | skip
      refine WI_exit (tE (tE (bM rfl ?_)))
      exact ⟨x0, hcw, h3, h6, ⟨v, hSn, hv⟩, .inr ⟨rfl, by unfold stepF; rw [if_pos (by omega), if_neg (fun e => h29 e.2)], rfl⟩⟩
     ·first | replace h29 := of_decide_eq_false h29 | replace h29 := of_decide_eq_true (notF h29) | replace h29 := notF h29 | skip
      refine WI_skip (tN (WI_seq (WI_reg rfl (fun l_ w_ h_ => hqo_ l_ w_ h_) (st (X.ldL rfl h6 Tryz.underlying92 rfl rfl) rfl (st (X.fa fa159_3 rfl) rfl (st (X.ldL rfl h7 Tryz.underlying3 rfl rfl) rfl (st (X.nilChk rfl) rfl (st (X.fa fa97_2 rfl) rfl (ssB rfl rfl hSn.blk siz3 rfl (by simp) (fun w3 hB_ hc_ => ?_))))))))))
      have hSn2 : ScnAt w3 gx gm v { x0 with good := x.1.next } := ⟨hB_, hSn.row.chg hc_ (fun k hk e => by have := hv k hk; have e : k = gx := e; omega), by obtain ⟨m, a, b⟩ := hSn.map; exact ⟨m, a.chg hc_ (by show ¬ gm = gx; omega), b⟩, hSn.s32⟩
      replace h3 := h3.chg hc_ (by show ¬ g3 = gx; omega)
      replace h6 := h6.chg hc_ (by show ¬ g6 = gx; omega)
      replace hcw := hcw.next hc_ (fun i hi => .inl (.inl hi))
      clear hB_ hc_ hSn
      refine Wn (tN (WI_exit (tE (bH ?_))))
      exact ⟨_, hcw, h3, h6, ⟨v, hSn2, hv⟩, .inl ⟨rfl, by unfold stepF; rw [if_pos (by omega), if_pos ⟨hsp_, Decidable.of_not_not h29⟩]⟩⟩
    ·refine WI_seq (WI_drN (fun W_ => Blk W_ g3 3 #[.int .i64 n] ∧ Blk W_ g7 159 #[.int .u8 x.1.kind.toNat, str x.1.body, .int .i64 x.1.pos, .int .i64 x.1.next]) [0, 1, 2, 3, 4, 5, 6, 7, 8, 9] [true, true, true, true, true, true, true, false, true, true] (by kernel_rfl) (by kernel_rfl) rfl (⟨h3.drew, h7.drew⟩) ?_)
     obtain ⟨w4, hw_⟩ : ∃ w4 : World, w4 = World.drew W := ⟨_, rfl⟩
     rw [← hw_]
     have hb : Below W.heap.size W w4 := by rw [hw_]; exact bdrew (Below.refl _ _)
     clear hw_
     have hS := hb
     replace hcw := hcw.then_below hb
     replace h3 := h3.bel hb
     replace h6 := h6.bel hb
     replace h7 := h7.bel hb
     replace hSn := hSn.bel hb
     have hz_w4 := hb.size
     clear hb
     refine oY rfl (fun W_ hW_ => (X.fa fa159_0 rfl)) rfl (oY rfl (fun W_ hW_ => (X.ldL rfl hW_.2 Tryz.underlying5 rfl rfl)) rfl (oY rfl (fun W_ hW_ => (X.neq rfl rfl)) rfl (oY rfl (fun W_ hW_ => (X.mvB (c := true) rfl (decide_eq_true (by intro e; exact hsp_ (UInt8.toNat.inj (by show x.1.kind.toNat = 1; omega)))))) rfl ?_)))
     refine oNg (g := 23) rfl rfl rfl rfl (⟨h3, h7⟩) rfl (oNg (g := 23) rfl rfl rfl rfl (⟨h3, h7⟩) rfl (oNg (g := 23) rfl rfl rfl rfl (⟨h3, h7⟩) rfl (oNg (g := 23) rfl rfl rfl rfl (⟨h3, h7⟩) rfl (oNg (g := 23) rfl rfl rfl rfl (⟨h3, h7⟩) rfl (oY rfl (fun W_ hW_ => (X.pickT rfl rfl)) rfl (oN (nN (WI_yes rfl (rfl) (WI_exit (tE (tE (bM rfl ?_))))))))))))
     exact ⟨x0, hcw, h3, h6, ⟨v, hSn, hv⟩, .inr ⟨rfl, by unfold stepF; rw [if_pos (by omega), if_neg (fun e => hsp_ e.1)], rfl⟩⟩
   ·first | replace h19 := of_decide_eq_false h19 | replace h19 := of_decide_eq_true (notF h19) | replace h19 := notF h19 | skip
    refine WI_skip (tN (WI_seq (WI_reg rfl (fun l_ w_ h_ => hqo_ l_ w_ h_) (st (X.ldL rfl h6 Tryz.underlying92 rfl rfl) rfl (st (X.nilChk rfl) rfl (st (X.fa fa97_3 rfl) rfl (st (X.ldL rfl hSn.blk Tryz.underlying4 rfl rfl) rfl (sb rfl rfl (fun h39 => ?_) (fun h39 => ?_)))))))))
    ·first | replace h39 := of_decide_eq_true h39 | replace h39 := of_decide_eq_false (notT h39) | replace h39 := notT h39 | skip
     refine gN (g := 39) rfl rfl rfl rfl (gN (g := 39) rfl rfl rfl rfl (gN (g := 39) rfl rfl rfl rfl (gN (g := 39) rfl rfl rfl rfl (gN (g := 39) rfl rfl rfl rfl (st (X.pickT rfl rfl) rfl (Wn (tN (WI_yes rfl (rfl) (WI_exit (bM rfl ?_))))))))))
     exact ⟨x0, hcw, h3, h6, ⟨v, hSn, hv⟩, .inr ⟨rfl, by unfold stepF; rw [if_neg (by omega), if_pos h39], rfl⟩⟩
    ·first | replace h39 := of_decide_eq_false h39 | replace h39 := of_decide_eq_true (notF h39) | replace h39 := notF h39 | skip
     refine gY (g := 39) rfl rfl rfl (st (X.ldL rfl h6 Tryz.underlying92 rfl rfl) rfl (gY (g := 39) rfl rfl rfl (st (X.ldBN rfl h7 Tryz.underlying159 rfl siz159) rfl (gY (g := 39) rfl rfl rfl (st (X.ldL rfl h3 Tryz.underlying3 rfl rfl) rfl (gY (g := 39) rfl rfl rfl (sc _ Tryz.func88 rfl (by kernel_rfl) rfl rfl ((ptake_any gx gm v x0 x.1 n _ hSn (hTW.chg hcw hN) hN hl0 x.2).mono ?_))))))))
     rintro e_ w5 ⟨v', rfl, hS', hv', hC1⟩
     refine cR ?_
     replace h3 := h3.chg hC1 hn3
     replace h6 := h6.chg hC1 hn6
     replace hcw := hcw.next hC1 (fun i hi => .inl hi)
     have hzc := hC1.size
     clear hC1
     refine gY (g := 39) rfl rfl rfl (st (X.not rfl) rfl (st (X.pickF rfl rfl) rfl (Wn (tN (WI_if rfl (fun h45 => ?_) (fun h45 => ?_))))))
     ·first | replace h45 := of_decide_eq_true h45 | replace h45 := of_decide_eq_false (notT h45) | replace h45 := notT h45 | skip
      refine WI_exit (bM rfl ?_)
      have hno : takeF n x0 x.1 = none := by cases h : takeF n x0 x.1 with | none => rfl | some y => rw [h] at h45; simp at h45
      rw [hno] at hS'
      exact ⟨x0, hcw, h3, h6, ⟨v', hS', fun k hk => (hv' k hk).elim (hv k) (fun e => by omega)⟩, .inr ⟨rfl, by unfold stepF; rw [if_neg (by omega), if_neg (by rw [h39]; decide)]; exact hno, rfl⟩⟩
     ·first | replace h45 := of_decide_eq_false h45 | replace h45 := of_decide_eq_true (notF h45) | replace h45 := notF h45 | skip
      refine WI_skip (bN ?_)
      obtain ⟨y, hy⟩ : ∃ y, takeF n x0 x.1 = some y := by cases h : takeF n x0 x.1 with | none => rw [h] at h45; simp at h45 | some y => exact ⟨y, rfl⟩
      rw [hy] at hS'
      exact ⟨y, hcw, h3, h6, ⟨v', hS', fun k hk => (hv' k hk).elim (hv k) (fun e => by omega)⟩, .inl ⟨rfl, by unfold stepF; rw [if_neg (by omega), if_neg (by rw [h39]; decide)]; exact hy⟩⟩
  ·rintro e l a2 W' _ ⟨y, hC, h3', h6', hS', hcase⟩
   have hkf := keepsFrom_scan hSn hC (show gx < w7.heap.size by omega) (by omega)
   have hkb : KeepB gB W W' := hC.block gB (by omega) hnB
   have hbW : Below w.heap.size w W' := bchg hI0.below hC (by rintro k (e | e | e); omega; omega; have := hv _ e; omega)
   have hzC := hC.size
   rcases hcase with ⟨rfl, hst⟩ | ⟨rfl, hst, rfl⟩
   ·exact ⟨hkf, hkb, y, by rw [hmap, goF_snoc hx0]; exact hst, hS', h3', h6', hbW, by omega⟩
   ·exact ⟨hkf, rfl, pre.map (·.1), x.1, y, hmap, hx0, hst, hS', h3', h6', hbW, by omega⟩
 ·-- behind the loop
  intro D xs W hDle hxs hI hK
  obtain ⟨x, hx, hI⟩ := hI
  have hfold : foldF n sc0 (framesM s) = x := by rw [← hxs]; exact goF_fold hx
  show Code.wp _ _ _ _ _
  have haD : Rep 52 [{ target := .collected D, args := #[] }] [(6, .pointer (some ⟨g6, 0, none⟩))] { a with defers := { target := .collected D, args := #[] } :: a.defers } := by
   refine ⟨ha.size, by rw [ha.defers], fun t u hu => ha.val t u ?_⟩
   unfold lk at hu
   cases ht : Nat.beq t 6 with
   | true =>
    have e : t = 6 := Nat.eq_of_beq_eq_true ht
    subst e
    exact hu
   | false => rw [ht] at hu; cases hu
  refine W_out (N := 52) (ds := [{ target := .collected D, args := #[] }]) (l := [(6, .pointer (some ⟨g6, 0, none⟩))]) (Q := fun e l W' => W' = W ∧ e = .ret ∧ fnPost Tryz.prog Tryz.f42 (ScanPost w (scanP s n)) .ret l (W'.putObj D (.deferred none))) ?_ haD.size haD.defers ⟨haD.val 6 _ rfl, trivial⟩ ?_
  ·have h6 := hI.b6
   have hgr : W.grownBy (W.putObj D (.deferred none)) (some D) := grownBy_putObj' W D _
   have hI2 := hI.grown hO hgr (fun r e => by cases e; exact ⟨hDle, _, hK, rfl⟩)
   obtain ⟨v, hSn, hv⟩ := hI.scn
   obtain ⟨v2, hSn2, hv2⟩ := hI2.scn
   have o1 := hO.h3; have o2 := hO.hm; have o3 := hO.hx; have o4 := hO.h6; have o5 := hO.hB; have o6 := hO.hBB
   refine W_seq (W_rs (st (X.ldL rfl h6 Tryz.underlying92 rfl rfl) rfl (st (X.nilChk rfl) rfl (st (X.fa fa97_2 rfl) rfl (st (X.ldL rfl hSn.blk Tryz.underlying3 rfl rfl) rfl (st (X.eql rfl rfl) rfl (Wn (tN (W_if rfl (fun h50 => ?_) (fun h50 => ?_))))))))))
   ·first | replace h50 := of_decide_eq_true h50 | replace h50 := of_decide_eq_false (notT h50) | replace h50 := notT h50 | skip
    refine W_rs (sa rfl rfl (sa rfl rfl (Wn (tN (W_ret (tR (⟨rfl, rfl, (rTT rfl rfl rfl ?_).1⟩)))))))
    rw [scanP_fold s hn, hfold, if_pos (by omega)]
    exact ⟨none, rfl, fun _ => rfl, fun h => absurd h (by decide), hI2.below⟩
   ·first | replace h50 := of_decide_eq_false h50 | replace h50 := of_decide_eq_true (notF h50) | replace h50 := notF h50 | skip
    refine W_skip (tN (W_rs (st (X.ldL rfl h6 Tryz.underlying92 rfl rfl) rfl (sa rfl rfl (sa rfl rfl (Wn (tN (W_ret (⟨rfl, rfl, (rTT rfl rfl rfl ?_).1⟩)))))))))
    rw [scanP_fold s hn, hfold, if_neg (by omega)]
    exact ⟨some ⟨gx, 0, none⟩, rfl, fun h => absurd rfl h, fun _ => ⟨gx, gm, v2, rfl, hSn2, by omega, by omega, fun k hk => by have := hv2 k hk; omega⟩, hI2.below⟩
  ·rintro e l a3 W' hr3 ⟨rfl, rfl, hp⟩
   exact retM hr3 hK hp
 ·-- a round that was left
  intro D c pre W hDle hpre hIx hK
  obtain ⟨rfl, q, p, x, hq, hx, hst, hI⟩ := hIx
  have hfold : foldF n sc0 (framesM s) = x := by
   obtain ⟨t, ht⟩ := hpre
   rw [← ht, hq, List.append_assoc]
   exact foldF_stop hx hst
  refine wpIn_exit ?_
  show Code.wp _ _ _ _ _
  have haD : Rep 52 [{ target := .collected D, args := #[] }] [(6, .pointer (some ⟨g6, 0, none⟩))] { a with defers := { target := .collected D, args := #[] } :: a.defers } := by
   refine ⟨ha.size, by rw [ha.defers], fun t u hu => ha.val t u ?_⟩
   unfold lk at hu
   cases ht : Nat.beq t 6 with
   | true =>
    have e : t = 6 := Nat.eq_of_beq_eq_true ht
    subst e
    exact hu
   | false => rw [ht] at hu; cases hu
  refine W_out (N := 52) (ds := [{ target := .collected D, args := #[] }]) (l := [(6, .pointer (some ⟨g6, 0, none⟩))]) (Q := fun e l W' => W' = W ∧ e = .ret ∧ fnPost Tryz.prog Tryz.f42 (ScanPost w (scanP s n)) .ret l (W'.putObj D (.deferred none))) ?_ haD.size haD.defers ⟨haD.val 6 _ rfl, trivial⟩ ?_
  ·have h6 := hI.b6
   have hgr : W.grownBy (W.putObj D (.deferred none)) (some D) := grownBy_putObj' W D _
   have hI2 := hI.grown hO hgr (fun r e => by cases e; exact ⟨hDle, _, hK, rfl⟩)
   obtain ⟨v, hSn, hv⟩ := hI.scn
   obtain ⟨v2, hSn2, hv2⟩ := hI2.scn
   have o1 := hO.h3; have o2 := hO.hm; have o3 := hO.hx; have o4 := hO.h6; have o5 := hO.hB; have o6 := hO.hBB
   refine W_seq (W_rs (st (X.ldL rfl h6 Tryz.underlying92 rfl rfl) rfl (st (X.nilChk rfl) rfl (st (X.fa fa97_2 rfl) rfl (st (X.ldL rfl hSn.blk Tryz.underlying3 rfl rfl) rfl (st (X.eql rfl rfl) rfl (Wn (tN (W_if rfl (fun h50 => ?_) (fun h50 => ?_))))))))))
   ·first | replace h50 := of_decide_eq_true h50 | replace h50 := of_decide_eq_false (notT h50) | replace h50 := notT h50 | skip
    refine W_rs (sa rfl rfl (sa rfl rfl (Wn (tN (W_ret (tR (⟨rfl, rfl, (rTT rfl rfl rfl ?_).1⟩)))))))
    rw [scanP_fold s hn, hfold, if_pos (by omega)]
    exact ⟨none, rfl, fun _ => rfl, fun h => absurd h (by decide), hI2.below⟩
   ·first | replace h50 := of_decide_eq_false h50 | replace h50 := of_decide_eq_true (notF h50) | replace h50 := notF h50 | skip
    refine W_skip (tN (W_rs (st (X.ldL rfl h6 Tryz.underlying92 rfl rfl) rfl (sa rfl rfl (sa rfl rfl (Wn (tN (W_ret (⟨rfl, rfl, (rTT rfl rfl rfl ?_).1⟩)))))))))
    rw [scanP_fold s hn, hfold, if_neg (by omega)]
    exact ⟨some ⟨gx, 0, none⟩, rfl, fun h => absurd rfl h, fun _ => ⟨gx, gm, v2, rfl, hSn2, by omega, by omega, fun k hk => by have := hv2 k hk; omega⟩, hI2.below⟩
  ·rintro e l a3 W' hr3 ⟨rfl, rfl, hp⟩
   exact retM hr3 hK hp
end Go.Proofs.YtnlabkogebnioaaGreatDoor
namespace Go.Proofs.YtnlabkogebnioaaGreatDoor
open Go.RowKit Sha
structure Wri where
  n : Int
  l : List Ent
  closed : Bool
def headB (n : Int) : List UInt8 := sealM 1 (four n)
def chunkB (d : List UInt8) : List UInt8 := sealM 2 (sha d ++ d)
def footB (l : List Ent) : List UInt8 := sealM 3 (four l.length)
def pbeginM (D : DiskD) (n : Int) : Int × DiskD :=
  if rightP n = false then (1, D)
  else if (createM D (nameP n)).1 ≠ 0 then createM D (nameP n)
  else if (appendM (createM D (nameP n)).2 (nameP n) (headB n)).1 ≠ 0 then ((appendM (createM D (nameP n)).2 (nameP n) (headB n)).1, (removeM (appendM (createM D (nameP n)).2 (nameP n) (headB n)).2 (nameP n)).2)
  else appendM (createM D (nameP n)).2 (nameP n) (headB n)
def paddM (D : DiskD) (x : Wri) (d : List UInt8) : (Ent × Int) × Wri × DiskD :=
  if x.closed = true ∨ d = [] then ((eZ, 1), x, D)
  else if 1024 < d.length then ((eZ, 31), x, D)
  else match findM x.l (sha d) with
    | some e => ((e, 16), x, D)
    | none =>
      if (sizeM D (nameP x.n)).2 ≠ 0 then ((eZ, (sizeM D (nameP x.n)).2), x, D)
      else if (appendM D (nameP x.n) (chunkB d)).1 ≠ 0 then ((eZ, (appendM D (nameP x.n) (chunkB d)).1), x, (appendM D (nameP x.n) (chunkB d)).2)
      else ((⟨sha d, x.n, (sizeM D (nameP x.n)).1, d.length⟩, 0), { x with l := x.l ++ [⟨sha d, x.n, (sizeM D (nameP x.n)).1, d.length⟩] }, (appendM D (nameP x.n) (chunkB d)).2)
def pcloseM (D : DiskD) (x : Wri) : (List Ent × Int) × Wri × DiskD :=
  if x.closed = true then (([], 1), x, D)
  else if (appendM D (nameP x.n) (footB x.l)).1 ≠ 0 then (([], (appendM D (nameP x.n) (footB x.l)).1), x, (appendM D (nameP x.n) (footB x.l)).2)
  else if (syncM (appendM D (nameP x.n) (footB x.l)).2 (nameP x.n)).1 ≠ 0 then (([], (syncM (appendM D (nameP x.n) (footB x.l)).2 (nameP x.n)).1), x, (syncM (appendM D (nameP x.n) (footB x.l)).2 (nameP x.n)).2)
  else (((makeM x.l).1, 0), { x with closed := true }, (syncM (appendM D (nameP x.n) (footB x.l)).2 (nameP x.n)).2)
def preadM (D : DiskD) (k : Key) : List UInt8 × Int := match mget D.files k with
  | none => ([], 15)
  | some f => (f.now, 0)
def popenM (D : DiskD) (n : Int) : Scn × Int :=
  if rightP n = false then (sc0, 1)
  else if (preadM D (nameP n)).2 ≠ 0 then (sc0, (preadM D (nameP n)).2)
  else scanP (preadM D (nameP n)).1 n
def longM (n : Nat) : Nat := (sealM 2 (List.replicate (32 + n) 0)).length
def gotM (len : Int) (a s : List UInt8) : List UInt8 × Int :=
  if (nextM s).2.2.2 ≠ 0 ∨ (nextM s).1 ≠ 2 then ([], 35)
  else if openB (nextM s).2.1 = true ∧ (nextM s).2.1.take 32 = a ∧ ((nextM s).2.1.length : Int) = 32 + len then ((nextM s).2.1.drop 32, 0) else ([], 35)
def pgetM (D : DiskD) (n : Int) (l : List Ent) (a : List UInt8) : List UInt8 × Int := match findM l a with
  | none => ([], 15)
  | some e => match mget D.files (nameP n) with
    | none => ([], 15)
    | some f => if (f.now.length : Int) < e.pos then ([], 35) else gotM e.len a ((f.now.drop e.pos.toNat).take (longM e.len.toNat))
end Go.Proofs.YtnlabkogebnioaaGreatDoor
namespace Go.Proofs.YtnlabkogebnioaaGreatDoor
set_option maxRecDepth 10000 in
theorem or128B (b : UInt8) : (b ||| 128).toNat = b.toNat % 128 + 128 := by
 have h : ∀ n : Fin 256, (n.val ||| 128) = n.val % 128 + 128 := by decide
 rw [UInt8.toNat_or]
 exact h ⟨b.toNat, b.toNat_lt⟩
theorem uvM_uvF : ∀ (f i x y : Nat) (r : List UInt8), y < 128 ^ (f + 1) → y < 128 ^ (9 - i) → i < 9 → (0 < i → 0 < y) → uvM i x (uvF (f + 1) y ++ r) = (x + y * 2 ^ (7 * i), i + (uvF (f + 1) y).length, 0) := by
 intro f
 induction f with
 | zero =>
  intro i x y r hy _ hi h0
  have hy' : y < 128 := by simpa using hy
  have hb : (UInt8.ofNat (y % 256)).toNat = y := by simp; omega
  rw [uvF_lt (by omega) hy', List.cons_append, List.nil_append, uvM, hb, if_neg (by omega), if_pos hy']
  rfl
 | succ f ih =>
  intro i x y r hy hy9 hi h0
  by_cases h8 : y < 128
  ·have hb : (UInt8.ofNat (y % 256)).toNat = y := by simp; omega
   rw [uvF_lt (by omega) h8, List.cons_append, List.nil_append, uvM, hb, if_neg (by omega), if_pos h8]
   rfl
  ·have hb : (UInt8.ofNat (y % 256)).toNat = y % 256 := by simp
   have hb2 : (UInt8.ofNat (y % 256) ||| 128).toNat = y % 128 + 128 := by rw [or128B, hb]; omega
   have hi2 : i + 1 < 9 := by
    rcases Nat.lt_or_ge (i + 1) 9 with h | h
    ·exact h
    ·rw [show 9 - i = 1 by omega] at hy9
     omega
   have e9 : (128 : Nat) ^ (9 - i) = 128 ^ (9 - (i + 1)) * 128 := by rw [show 9 - i = (9 - (i + 1)) + 1 by omega, Nat.pow_succ]
   have ef : (128 : Nat) ^ (f + 1 + 1) = 128 ^ (f + 1) * 128 := by rw [Nat.pow_succ]
   have := ih (i + 1) (x + (y % 128 + 128 - 128) * 2 ^ (7 * i)) (y / 128) r (by rw [ef] at hy; omega) (by rw [e9] at hy9; omega) hi2 (fun _ => by omega)
   rw [uvF_ge (by omega) h8, Nat.add_sub_cancel, List.append_assoc, List.cons_append, List.nil_append, uvM, hb2, if_neg (by omega), if_neg (by omega), this]
   have ep : 2 ^ (7 * (i + 1)) = 128 * 2 ^ (7 * i) := by rw [show 7 * (i + 1) = 7 * i + 7 by omega, Nat.pow_add, Nat.mul_comm]
   have e1 : x + (y % 128 + 128 - 128) * 2 ^ (7 * i) + y / 128 * 2 ^ (7 * (i + 1)) = x + y * 2 ^ (7 * i) := by
    rw [ep, ← Nat.mul_assoc, Nat.add_sub_cancel, Nat.add_assoc, ← Nat.add_mul]
    congr 2
    omega
   rw [e1]
   have e2 : i + 1 + (uvF (f + 1) (y / 128)).length = i + ((UInt8.ofNat (y % 256) ||| 128) :: uvF (f + 1) (y / 128)).length := by rw [List.length_cons]; omega
   rw [e2]
   rfl
theorem uvM_uvB (y : Nat) (r : List UInt8) (hy : y < 128 ^ 9) : uvM 0 0 (uvB y ++ r) = (y, (uvB y).length, 0) := by
 have := uvM_uvF 9 0 0 y r (Nat.lt_of_lt_of_le hy (by decide)) hy (by decide) (by omega)
 simpa [uvB] using this
theorem sealM_eq {k : UInt8} {b : List UInt8} (hk : k ≠ 0) (hb : b.length ≤ 1048576) : sealM k b = ([k] ++ (uvB b.length ++ b)) ++ fixB (Crc.crc ([k] ++ (uvB b.length ++ b))).toNat 4 := by
 unfold sealM
 rw [if_neg (fun e => by rcases e with e | e; exact hk e; omega)]
theorem seal_length {k : UInt8} {b : List UInt8} (hk : k ≠ 0) (hb : b.length ≤ 1048576) : (sealM k b).length = 1 + (uvB b.length).length + b.length + 4 := by
 rw [sealM_eq hk hb]
 simp only [List.length_append, List.length_cons, List.length_nil, fixB_length]
 omega
theorem nextM_seal {k : UInt8} {b : List UInt8} (t : List UInt8) (hk : k ≠ 0) (hb : b.length ≤ 1048576) : nextM (sealM k b ++ t) = (k, b, (sealM k b).length, 0) := by
 have hl := seal_length hk hb
 obtain ⟨u, hu⟩ : ∃ u, uvB b.length = u := ⟨_, rfl⟩
 obtain ⟨c, hc⟩ : ∃ c, Crc.crc ([k] ++ (u ++ b)) = c := ⟨_, rfl⟩
 have hcl := c.toNat_lt
 obtain ⟨s, hs⟩ : ∃ s, sealM k b ++ t = s := ⟨_, rfl⟩
 have hs1 : s = k :: (u ++ (b ++ (fixB c.toNat 4 ++ t))) := by
  rw [← hs, sealM_eq hk hb, hu, hc]
  simp
 have hsl : s.length = 1 + u.length + b.length + 4 + t.length := by
  rw [← hs, List.length_append, hl, hu]
 have hd1 : s.drop 1 = u ++ (b ++ (fixB c.toNat 4 ++ t)) := by rw [hs1]; rfl
 have hduv : uvM 0 0 (s.drop 1) = (b.length, u.length, 0) := by
  rw [hd1, ← hu]
  exact uvM_uvB _ _ (by omega)
 have huR : uvR s 1 0 = (b.length, 1 + u.length, 0) := by
  unfold uvR
  rw [hduv]
  simp
 have hdu : s.drop (1 + u.length) = b ++ (fixB c.toNat 4 ++ t) := by
  rw [← List.drop_drop, hd1, List.drop_left]
 have hT : textR s 1 1048576 = (b, 1 + u.length + b.length, 0) := by
  unfold textR takeM
  rw [huR]
  simp only [ne_eq, not_true_eq_false, if_false]
  rw [if_neg (by omega), if_neg (by omega), if_neg (by omega), hdu, List.take_left]
 have hdb : s.drop (1 + u.length + b.length) = fixB c.toNat 4 ++ t := by
  rw [← List.drop_drop, hdu, List.drop_left]
 have h4 : (s.drop (1 + u.length + b.length)).take 4 = fixB c.toNat 4 := by
  rw [hdb, List.take_append_of_le_length (by rw [fixB_length]; omega), List.take_of_length_le (by rw [fixB_length]; omega)]
 have htk : s.take (1 + u.length + b.length) = [k] ++ (u ++ b) := by
  have : s = ([k] ++ (u ++ b)) ++ (fixB c.toNat 4 ++ t) := by rw [hs1]; simp
  rw [this, List.take_append_of_le_length (by simp; omega), List.take_of_length_le (by simp; omega)]
 rw [hs, hl, hu]
 unfold nextM
 rw [if_neg (by rw [hs1]; simp), if_neg (by rw [hs1]; exact hk), hT]
 simp only [ne_eq, not_true_eq_false, if_false]
 rw [if_neg (by omega), h4, htk, hc, leN_fixB 4 c.toNat (by omega), if_neg (by simp), hs1]
 rfl
end Go.Proofs.YtnlabkogebnioaaGreatDoor
namespace Go.Proofs.YtnlabkogebnioaaGreatDoor
open Go.RowKit Sha
theorem d10_letter (n : Nat) : letterB (d10 n) = true := by
 have h : ∀ m : Fin 10, letterB (UInt8.ofNat (48 + m.val)) = true := by decide
 exact h ⟨n % 10, Nat.mod_lt _ (by omega)⟩
theorem dig_letters : ∀ (k n : Nat), (dig k n).all letterB = true
 | 0, _ => rfl
 | k + 1, n => by
  rw [dig, List.all_append, dig_letters k]
  simp [d10_letter]
theorem six_length (n : Nat) : (six n).length = 6 := dig_length 6 n
theorem namedP_ok {kind : List UInt8} {n : Int} (hn : rightP n = true) : namedP kind n = kind ++ six n.toNat := if_pos hn
theorem nameOk_of {a b : List UInt8} (ha : a ≠ []) (hl : a.length + b.length ≤ 64) (h1 : a.all letterB = true) (h2 : b.all letterB = true) : nameOk (a ++ b) = true := by
 unfold nameOk
 rw [List.all_append, h1, h2, List.length_append, decide_eq_true hl]
 cases a with
 | nil => exact absurd rfl ha
 | cons x a => rfl
theorem name_ok {n : Int} (hn : rightP n = true) : nameOk (nameP n) = true := by
 unfold nameP
 rw [namedP_ok hn]
 exact nameOk_of (by decide) (by rw [six_length]; decide) (by decide) (dig_letters _ _)
theorem headB_len (n : Int) : (headB n).length ≤ 20 := by
 unfold headB
 have h4 : (four n).length = 4 := four_length n
 rw [seal_length (by decide) (by omega), h4]
 have := uvB_length 4 (by omega)
 omega
theorem pbegin_good {n : Nat} {D : DiskD} (h : Good n D) (k : Int) : Good (n + 30) (pbeginM D k).2 := by
 have h1 := create_good h (nameP k)
 have h2 := append_good h1 (nameP k) (headB k)
 have hl := headB_len k
 unfold pbeginM
 split
 ·exact h.mono (by omega)
 split
 ·exact h1.mono (by omega)
 split
 ·exact (remove_good h2 _).mono (by omega)
 ·exact h2.mono (by omega)
theorem chunkB_len (d : List UInt8) (hd : d.length ≤ 1048000) : (chunkB d).length ≤ d.length + 50 := by
 unfold chunkB
 have h := sha_length d
 rw [seal_length (by decide) (by rw [List.length_append]; omega), List.length_append, h]
 have := uvB_length (32 + d.length) (by omega)
 omega
theorem footB_len (l : List Ent) : (footB l).length ≤ 20 := by
 unfold footB
 have h4 : (four (l.length : Int)).length = 4 := four_length _
 rw [seal_length (by decide) (by omega), h4]
 have := uvB_length 4 (by omega)
 omega
theorem padd_good {n : Nat} {D : DiskD} (h : Good n D) (x : Wri) (d : List UInt8) : Good (n + 1100) (paddM D x d).2.2 := by
 unfold paddM
 split
 ·exact h.mono (by omega)
 split
 ·exact h.mono (by omega)
 rename_i h1
 have h2 := append_good h (nameP x.n) (chunkB d)
 have hl := chunkB_len d (by omega)
 split
 ·exact h.mono (by omega)
 split
 ·exact h.mono (by omega)
 split
 ·exact h2.mono (by omega)
 ·exact h2.mono (by omega)
theorem pclose_good {n : Nat} {D : DiskD} (h : Good n D) (x : Wri) : Good (n + 30) (pcloseM D x).2.2 := by
 have h2 := append_good h (nameP x.n) (footB x.l)
 have hl := footB_len x.l
 unfold pcloseM
 split
 ·exact h.mono (by omega)
 split
 ·exact h2.mono (by omega)
 split
 ·exact (sync_good h2 _).mono (by omega)
 ·exact (sync_good h2 _).mono (by omega)
end Go.Proofs.YtnlabkogebnioaaGreatDoor
namespace Go.Proofs.YtnlabkogebnioaaGreatDoor
open Go.RowKit Sha
structure PTabs (B : Nat) (w : World) : Prop where
  sha : ShaTabs w
  pow : PowTab w
  k : 1 < B
  b : 0 < B
  p : 2 < B
theorem gPow : Tryz.prog.globalNamed "internal/strconv.uint64pow10" = some 2 := by kernel_rfl
theorem PTabs.chg {B : Nat} {w w' : World} {S : Nat → Prop} (h : PTabs B w) (hc : Chg S w w') (hS : ∀ k, S k → B ≤ k) : PTabs B w' := by
 refine ⟨h.sha.chg hc ⟨fun e => by have := hS _ e; have := h.k; omega, fun e => by have := hS _ e; have := h.b; omega⟩, ?_, h.k, h.b, h.p⟩
 have hp : w.var? Tryz.prog "internal/strconv.uint64pow10" = some (Lib.pow10Tab.map fun z => Value.int .u64 z).toArray := h.pow
 show w'.var? Tryz.prog "internal/strconv.uint64pow10" = some (Lib.pow10Tab.map fun z => Value.int .u64 z).toArray
 unfold World.var? at hp ⊢
 rw [gPow] at hp ⊢
 simp only [Option.bind_some] at hp ⊢
 have hlt : 2 < w.heap.size := by
  rcases Nat.lt_or_ge 2 w.heap.size with h' | h'
  ·exact h'
  ·rw [Array.getElem?_eq_none h'] at hp; cases hp
 rw [hc.block _ hlt (fun e => by have := hS _ e; have := h.p; omega)]
 exact hp
theorem PTabs.bel {B : Nat} {w w' : World} (h : PTabs B w) (hb : Below w.heap.size w w') : PTabs B w' := h.chg (Chg.of_below hb (fun _ => False)) (fun _ e => e.elim)
theorem PTabs.to {B C : Nat} {w : World} (h : PTabs B w) (hC : B ≤ C) : PTabs C w := ⟨h.sha, h.pow, by have := h.k; omega, by have := h.b; omega, by have := h.p; omega⟩
theorem nilEqPk (w : World) (a : Addr) : (binOp .eql 50 (.pointer (some a)) (.pointer none)).run Tryz.prog w = .ok (.bool false) w := by kernel_rfl
theorem nilEqNk (w : World) : (binOp .eql 50 (.pointer none) (.pointer none)).run Tryz.prog w = .ok (.bool true) w := by kernel_rfl
theorem nilEqPw (w : World) (a : Addr) : (binOp .eql 44 (.pointer (some a)) (.pointer none)).run Tryz.prog w = .ok (.bool false) w := by kernel_rfl
theorem nilEqNw (w : World) : (binOp .eql 44 (.pointer none) (.pointer none)).run Tryz.prog w = .ok (.bool true) w := by kernel_rfl
theorem X.kEq {l : Env} {x : Operand} {w : World} {t' ty : TypeId} {p : Option Addr} (hx : ev l x = some (.pointer p)) : X Tryz.prog l (.binOp .eql 50 x (.const (.pointer none)) t') ty w (.bool p.isNone) w :=
 X.bin hx rfl guard_ptr (by cases p with | none => exact nilEqNk w | some a => exact nilEqPk w a)
theorem X.wEq {l : Env} {x : Operand} {w : World} {t' ty : TypeId} {p : Option Addr} (hx : ev l x = some (.pointer p)) : X Tryz.prog l (.binOp .eql 44 x (.const (.pointer none)) t') ty w (.bool p.isNone) w :=
 X.bin hx rfl guard_ptr (by cases p with | none => exact nilEqNw w | some a => exact nilEqPw w a)
theorem sizeM_none {D : DiskD} {k : Key} (h : mget D.files k = none) : sizeM D k = (0, 15) := by unfold sizeM; rw [h]
theorem sizeM_some' {D : DiskD} {k : Key} {f : FileD} (h : mget D.files k = some f) : sizeM D k = ((f.now.length : Int), 0) := by unfold sizeM; rw [h]
theorem preadM_none {D : DiskD} {k : Key} (h : mget D.files k = none) : preadM D k = ([], 15) := by unfold preadM; rw [h]
theorem preadM_some {D : DiskD} {k : Key} {f : FileD} (h : mget D.files k = some f) : preadM D k = (f.now, 0) := by unfold preadM; rw [h]
theorem readM_whole {D : DiskD} {k : Key} {f : FileD} (h : mget D.files k = some f) : readM D k 0 f.now.length = (f.now, 0) := by
 unfold readM
 rw [h]
 show (if _ then _ else _) = _
 rw [if_neg (by omega)]
 simp
theorem preadM_len {D : DiskD} (hok : DOk D) (k : Key) : (preadM D k).1.length ≤ 16777216 := by
 unfold preadM
 cases h : mget D.files k with
 | none => simp
 | some f => exact (hok.len h).1
theorem pread_any (g : Nat) (D : DiskD) (S : Nat → Prop) (k : Key) (w : World) (h : DiskAt w g D S) (hok : DOk D) :
  Calls Tryz.prog 56 #[.pointer (some ⟨g, 0, none⟩), str k] w fun e w' => e = .returned (.tuple #[str (preadM D k).1, .int .i64 (preadM D k).2]) ∧ Below w.heap.size w w' := by
 have hS := Size_any g D S k
 cases hm : mget D.files k with
 | none =>
  rw [preadM_none hm]
  rw [sizeM_none hm] at hS
  refine W_enter (args := [.pointer (some ⟨g, 0, none⟩), str k]) 23 Tryz.func56 rfl rfl rfl (W_sub [(0, .pointer (some ⟨g, 0, none⟩)), (1, str k)] ?_ ⟨rfl, rfl, trivial⟩)
  have hbw := Below.refl w.heap.size w
  refine W_rs (sa rfl rfl (sa rfl rfl (Wn (tN (W_rs (sm rfl rfl (sm rfl rfl (sc _ Tryz.func20 rfl (by kernel_rfl) rfl rfl ((hS _ h).mono ?_)))))))))
  rintro e_ w1 ⟨rfl, hb⟩
  refine cR ?_
  replace hbw := bthen hbw hb
  replace h := h.bel hb
  have hz_w1 := hb.size
  clear hb
  refine sm rfl rfl (st (X.ext rfl rfl) rfl (st (X.ext rfl rfl) rfl (sa rfl rfl (sa rfl rfl (Wn (tN (W_seq (W_rs (sm rfl rfl (st (X.neq rfl rfl) rfl ?_))))))))))
  refine Wn (tN (W_yes rfl (rfl) (W_rs (sm rfl rfl (sa rfl rfl (sa rfl rfl (Wn (tN (W_ret (tR ?_))))))))))
  exact (rTT rfl rfl rfl ⟨rfl, hbw⟩).1
 | some f =>
  have hR := Read_any g D S k 0 f.now.length
  rw [preadM_some hm]
  rw [sizeM_some' hm] at hS
  rw [readM_whole hm] at hR
  refine W_enter (args := [.pointer (some ⟨g, 0, none⟩), str k]) 23 Tryz.func56 rfl rfl rfl (W_sub [(0, .pointer (some ⟨g, 0, none⟩)), (1, str k)] ?_ ⟨rfl, rfl, trivial⟩)
  have hbw := Below.refl w.heap.size w
  refine W_rs (sa rfl rfl (sa rfl rfl (Wn (tN (W_rs (sm rfl rfl (sm rfl rfl (sc _ Tryz.func20 rfl (by kernel_rfl) rfl rfl ((hS _ h).mono ?_)))))))))
  rintro e_ w1 ⟨rfl, hb⟩
  refine cR ?_
  replace hbw := bthen hbw hb
  replace h := h.bel hb
  have hz_w1 := hb.size
  clear hb
  refine sm rfl rfl (st (X.ext rfl rfl) rfl (st (X.ext rfl rfl) rfl (sa rfl rfl (sa rfl rfl (Wn (tN (W_seq (W_rs (sm rfl rfl (st (X.neq rfl rfl) rfl ?_))))))))))
  refine Wn (tN (W_no rfl (rfl) (W_skip (tN (W_rs (sm rfl rfl (sm rfl rfl (sm rfl rfl (sc _ Tryz.func60 rfl (by kernel_rfl) rfl rfl ((hR _ h hok).mono ?_))))))))))
  rintro e_ w2 ⟨rfl, hb⟩
  refine cR ?_
  replace hbw := bthen hbw hb
  replace h := h.bel hb
  have hz_w2 := hb.size
  clear hb
  refine st (X.ext rfl rfl) rfl (st (X.ext rfl rfl) rfl (sa rfl rfl (sa rfl rfl (Wn (tN (W_ret ?_))))))
  exact (rTT rfl rfl rfl ⟨rfl, hbw⟩).1
structure PakAt (w : World) (gd gp gx gm : Nat) (v : Value) (n : Int) (x : Scn) : Prop where
  blk : Blk w gp 119 #[.pointer (some ⟨gd, 0, none⟩), .int .i64 n, .pointer (some ⟨gx, 0, none⟩)]
  scn : ScnAt w gx gm v x
theorem PakAt.bel {w w' : World} {gd gp gx gm : Nat} {v : Value} {n : Int} {x : Scn} (h : PakAt w gd gp gx gm v n x) (hb : Below w.heap.size w w') : PakAt w' gd gp gx gm v n x := ⟨h.blk.bel hb, h.scn.bel hb⟩
def PakOwn (B : Nat) (gp gx gm : Nat) (v : Value) : Prop := B ≤ gp ∧ ScnOwn B gx gm v
theorem PakAt.chg {w w' : World} {gd gp gx gm : Nat} {v : Value} {n : Int} {x : Scn} {S : Nat → Prop} (h : PakAt w gd gp gx gm v n x) (hc : Chg S w w') (h1 : ¬ S gp) (h2 : ¬ S gx) (h3 : ¬ S gm) (h4 : ∀ k, v.ownBlock = some k → ¬ S k) : PakAt w' gd gp gx gm v n x := ⟨h.blk.chg hc h1, h.scn.chg hc h2 h3 h4⟩
def POpenPost (w : World) (gd : Nat) (n : Int) (r : Scn × Int) (e : Ending) (w' : World) : Prop :=
  ∃ p : Option Addr, e = .returned (.tuple #[.pointer p, .int .i64 r.2]) ∧ (r.2 ≠ 0 → p = none) ∧
  (r.2 = 0 → ∃ gp gx gm v, p = some ⟨gp, 0, none⟩ ∧ PakAt w' gd gp gx gm v n r.1 ∧ PakOwn w.heap.size gp gx gm v) ∧ Below w.heap.size w w'
theorem bpak (gd gx : Nat) (n : Int) (w : World) : (Instr.build 119 #[(0, .pointer (some ⟨gd, 0, none⟩)), (1, .int .i64 n), (2, .pointer (some ⟨gx, 0, none⟩))]).run Tryz.prog w = .ok (.agg #[.pointer (some ⟨gd, 0, none⟩), .int .i64 n, .pointer (some ⟨gx, 0, none⟩)]) w := by kernel_rfl
set_option maxRecDepth 10000 in
theorem popen_any (B gd : Nat) (D : DiskD) (S : Nat → Prop) (n : Int) (w : World) (hd : DiskAt w gd D S) (hok : DOk D) (hT : PTabs B w) :
  Calls Tryz.prog 19 #[.pointer (some ⟨gd, 0, none⟩), .int .i64 n] w (POpenPost w gd n (popenM D n)) := by
 have hlen := preadM_len hok (nameP n)
 unfold popenM
 refine W_enter (args := [.pointer (some ⟨gd, 0, none⟩), .int .i64 n]) 40 Tryz.func19 rfl rfl rfl (W_sub [(0, .pointer (some ⟨gd, 0, none⟩)), (1, .int .i64 n)] ?_ ⟨rfl, rfl, trivial⟩)
 have hbw := Below.refl w.heap.size w
 refine W_rs (sa rfl rfl (sa rfl rfl (Wn (tN (W_seq (W_rs (sm rfl rfl (sm rfl rfl (sc _ Tryz.func55 rfl (by kernel_rfl) rfl rfl ((pmay_any (some ⟨gd, 0, none⟩) n _).mono ?_))))))))))
 rintro e_ w1 ⟨rfl, hb⟩
 refine cR ?_
 replace hbw := bthen hbw hb
 replace hd := hd.bel hb
 replace hT := hT.bel hb
 have hz_w1 := hb.size
 clear hb
 refine sa rfl rfl (Wn (tN (W_rs (sm rfl rfl (st (X.neq rfl rfl) rfl (Wn (tN (W_if rfl (fun h14 => ?_) (fun h14 => ?_)))))))))
 ·first | replace h14 := of_decide_eq_true h14 | replace h14 := of_decide_eq_false (notT h14) | replace h14 := notT h14 | skip
  have hr : rightP n = false := by cases h : rightP n with | false => rfl | true => exact absurd (by simp [mayP, h]) h14
  refine W_rs (sm rfl rfl (sa rfl rfl (sa rfl rfl (Wn (tN (W_ret (tR ?_)))))))
  exact (rTT rfl rfl rfl ⟨none, by simp [mayP, hr], fun _ => rfl, fun h => absurd h (by rw [if_pos hr]; decide), hbw⟩).1
 ·first | replace h14 := of_decide_eq_false h14 | replace h14 := of_decide_eq_true (notF h14) | replace h14 := notF h14 | skip
  have hr : ¬ rightP n = false := fun h => h14 (by simp [mayP, h])
  rw [if_neg hr]
  refine W_skip (tN (W_rs (sm rfl rfl (sm rfl rfl (sc _ Tryz.func21 rfl (by kernel_rfl) rfl rfl ((Name_p n _ hT.pow).mono ?_))))))
  rintro e_ w2 ⟨rfl, hb⟩
  refine cR ?_
  replace hbw := bthen hbw hb
  replace hd := hd.bel hb
  replace hT := hT.bel hb
  have hz_w2 := hb.size
  clear hb
  refine sc _ Tryz.func56 rfl (by kernel_rfl) rfl rfl ((pread_any gd D S (nameP n) _ hd hok).mono ?_)
  rintro e_ w3 ⟨rfl, hb⟩
  refine cR ?_
  replace hbw := bthen hbw hb
  replace hd := hd.bel hb
  replace hT := hT.bel hb
  have hz_w3 := hb.size
  clear hb
  refine sm rfl rfl (st (X.ext rfl rfl) rfl (st (X.ext rfl rfl) rfl (sa rfl rfl (sa rfl rfl (Wn (tN (W_seq (W_rs (sm rfl rfl (st (X.neq rfl rfl) rfl ?_))))))))))
  refine Wn (tN (W_if rfl (fun h24 => ?_) (fun h24 => ?_)))
  ·first | replace h24 := of_decide_eq_true h24 | replace h24 := of_decide_eq_false (notT h24) | replace h24 := notT h24 | skip
   rw [if_pos h24]
   refine W_rs (sm rfl rfl (sa rfl rfl (sa rfl rfl (Wn (tN (W_ret (tR ?_)))))))
   exact (rTT rfl rfl rfl ⟨none, rfl, fun _ => rfl, fun h => absurd h h24, hbw⟩).1
  ·first | replace h24 := of_decide_eq_false h24 | replace h24 := of_decide_eq_true (notF h24) | replace h24 := notF h24 | skip
   rw [if_neg h24]
   refine W_skip (tN (W_rs (sm rfl rfl (sm rfl rfl (sc _ Tryz.func42 rfl (by kernel_rfl) rfl rfl ((scan_any (preadM D (nameP n)).1 n _ hT.sha hlen).mono ?_))))))
   rintro e_ w4 ⟨p, rfl, hpn, hps, hb⟩
   refine cR ?_
   replace hbw := bthen hbw hb
   replace hd := hd.bel hb
   replace hT := hT.bel hb
   have hz_w4 := hb.size
   clear hb
   refine sm rfl rfl (st (X.ext rfl rfl) rfl (st (X.ext rfl rfl) rfl (sa rfl rfl (sa rfl rfl (Wn (tN (W_seq (W_rs (sm rfl rfl (st (X.neq rfl rfl) rfl ?_))))))))))
   refine Wn (tN (W_if rfl (fun h33 => ?_) (fun h33 => ?_)))
   ·first | replace h33 := of_decide_eq_true h33 | replace h33 := of_decide_eq_false (notT h33) | replace h33 := notT h33 | skip
    refine W_rs (sm rfl rfl (sa rfl rfl (sa rfl rfl (Wn (tN (W_ret (tR ?_)))))))
    exact (rTT rfl rfl rfl ⟨none, rfl, fun _ => rfl, fun h => absurd h h33, hbw⟩).1
   ·first | replace h33 := of_decide_eq_false h33 | replace h33 := of_decide_eq_true (notF h33) | replace h33 := notF h33 | skip
    obtain h33 : (scanP (preadM D (nameP n)).1 n).2 = 0 := Decidable.of_not_not h33
    obtain ⟨gx, gm, v, rfl, hS, hSO⟩ := hps h33
    obtain ⟨ho1, ho2, ho3⟩ := hSO
    clear hps hpn
    refine W_skip (tN (W_rs (sm rfl rfl (sm rfl rfl (sm rfl rfl (st (X.bld rfl (bpak gd gx n _)) rfl (sboxA rfl rfl (fun g39 w5 hB39 hg39 hb hl39 => ?_))))))))
    replace hbw := bthen hbw hb
    replace hd := hd.bel hb
    replace hT := hT.bel hb
    replace hS := hS.bel hb
    have hz_w5 := hb.size
    clear hb
    refine sa rfl rfl (sa rfl rfl (Wn (tN (W_ret ((rTT rfl rfl rfl ⟨_, by rw [h33], fun h => absurd h33 h, fun _ => ⟨g39, gx, gm, v, rfl, ⟨hB39, hS⟩, by omega, by omega, by omega, fun k hk => by have := ho3 k hk; omega⟩, hbw⟩).1)))))
end Go.Proofs.YtnlabkogebnioaaGreatDoor
namespace Go.Proofs.YtnlabkogebnioaaGreatDoor
open Go.RowKit Sha
def WrT (gw gx gm : Nat) (v : Value) (k : Nat) : Prop := k = gw ∨ k = gx ∨ k = gm ∨ v.ownBlock = some k
def wriCells (gd gx : Nat) (x : Wri) : Array Value := #[.pointer (some ⟨gd, 0, none⟩), .int .i64 x.n, .pointer (some ⟨gx, 0, none⟩), .bool x.closed]
structure WrF (B : Nat) (w : World) (gd gw gx gm : Nat) (D : DiskD) (v : Value) (S : Nat → Prop) : Prop where
  own : Own B w gd D S
  ap : ∀ k, WrT gw gx gm v k → ¬ S k ∧ B ≤ k
  gB : B ≤ w.heap.size
structure WrAll (B : Nat) (w : World) (gd gw gx gm : Nat) (D : DiskD) (x : Wri) (v : Value) (S : Nat → Prop) : Prop where
  blk : Blk w gw 112 (wriCells gd gx x)
  scn : ScnAt w gx gm v ⟨x.l, 0, false⟩
  wf : WrF B w gd gw gx gm D v S
section
variable {B gd gw gx gm : Nat} {w w' : World} {D : DiskD} {x : Wri} {v : Value} {S T : Nat → Prop}
theorem WrF.bel (h : WrF B w gd gw gx gm D v S) (hb : Below w.heap.size w w') : WrF B w' gd gw gx gm D v S := ⟨h.own.bel hb, h.ap, Nat.le_trans h.gB hb.size⟩
theorem WrF.chg (h : WrF B w gd gw gx gm D v S) (hC : Chg T w w') (hn : ∀ k, S k → ¬ T k) : WrF B w' gd gw gx gm D v S := ⟨h.own.other hC (fun k h1 h2 => hn k h2 h1), h.ap, Nat.le_trans h.gB hC.size⟩
theorem WrAll.bel (h : WrAll B w gd gw gx gm D x v S) (hb : Below w.heap.size w w') : WrAll B w' gd gw gx gm D x v S := ⟨h.blk.bel hb, h.scn.bel hb, h.wf.bel hb⟩
end
theorem pdisk {P : Program} {f : FuncId} {args : Array Value} {B gd : Nat} {w0 w : World} {D : DiskD} {S S1 X : Nat → Prop} {x : Int × DiskD}
  (hc : Calls P f args w (DPost gd S1 w x)) (hd : Own B w gd D S1) (hB : B ≤ w.heap.size) (hT : PTabs B w) (hcw : Chg X w0 w) (hSX : ∀ k, S k → X k) (hS1 : ∀ k, S1 k → S k ∨ w0.heap.size ≤ k) :
  Calls P f args w (fun e' w' => e' = .returned (.int .i64 x.1) ∧ ∃ S2, Own B w' gd x.2 S2 ∧ PTabs B w' ∧ (∀ k, S2 k → S k ∨ w0.heap.size ≤ k) ∧ ((∀ k, S2 k → S1 k ∨ w.heap.size ≤ k) ∧ Chg S1 w w') ∧ Chg X w0 w' ∧ w.heap.size ≤ w'.heap.size) := by
 refine hc.mono ?_
 rintro e' w' ⟨rfl, h1, hX⟩
 have hsz := hcw.size
 refine ⟨rfl, Ext S1 w w', hd.step h1 hX hB, hT.chg hX (fun k hk => (hd.lo k hk).1), ?_, ⟨?_, hX⟩, hcw.next hX (fun i hi => (hS1 i hi).imp (hSX i) id), hX.size⟩
 ·rintro k (h | ⟨h, _⟩)
  ·exact hS1 k h
  ·right; omega
 ·rintro k (h | ⟨h, _⟩)
  ·exact .inl h
  ·exact .inr h
theorem wdisk {P : Program} {f : FuncId} {args : Array Value} {B gd gw gx gm : Nat} {w0 w : World} {D : DiskD} {q : Scn} {cs : Array Value} {v : Value} {S S1 X : Nat → Prop} {x : Int × DiskD}
  (hc : Calls P f args w (DPost gd S1 w x)) (hB : Blk w gw 112 cs) (hS : ScnAt w gx gm v q) (hF : WrF B w gd gw gx gm D v S1) (hT : PTabs B w) (hcw : Chg X w0 w) (hSX : ∀ k, S k → X k) (hS1 : ∀ k, S1 k → S k ∨ w0.heap.size ≤ k) :
  Calls P f args w (fun e' w' => e' = .returned (.int .i64 x.1) ∧ ∃ S2, Blk w' gw 112 cs ∧ ScnAt w' gx gm v q ∧ WrF B w' gd gw gx gm x.2 v S2 ∧ PTabs B w' ∧ (∀ k, S2 k → S k ∨ w0.heap.size ≤ k) ∧ ((∀ k, S2 k → S1 k ∨ w.heap.size ≤ k) ∧ Chg S1 w w') ∧ Chg X w0 w' ∧ w.heap.size ≤ w'.heap.size) := by
 refine hc.mono ?_
 rintro e' w' ⟨rfl, h1, hX⟩
 have hsz := hcw.size
 have hlt := hB.lt
 have hlx := hS.blk.lt
 obtain ⟨m, hM, _⟩ := hS.map
 have hlm := hM.lt
 have hlv := rowLt hS.row
 have hap : ∀ k, WrT gw gx gm v k → k < w.heap.size := by
  rintro k (rfl | rfl | rfl | e)
  ·exact hlt
  ·exact hlx
  ·exact hlm
  ·exact hlv k e
 refine ⟨rfl, Ext S1 w w', hB.chg hX (hF.ap _ (.inl rfl)).1, hS.chg hX (hF.ap _ (.inr (.inl rfl))).1 (hF.ap _ (.inr (.inr (.inl rfl)))).1 (fun k hk => (hF.ap _ (.inr (.inr (.inr hk)))).1), ⟨hF.own.step h1 hX hF.gB, fun k hk => ⟨?_, (hF.ap k hk).2⟩, Nat.le_trans hF.gB hX.size⟩,
  hT.chg hX (fun k hk => (hF.own.lo k hk).1), ?_, ⟨?_, hX⟩, hcw.next hX (fun i hi => (hS1 i hi).imp (hSX i) id), hX.size⟩
 ·rintro (h | ⟨h, _⟩)
  ·exact (hF.ap k hk).1 h
  ·have := hap k hk
   omega
 ·rintro k (h | ⟨h, _⟩)
  ·exact hS1 k h
  ·right; omega
 ·rintro k (h | ⟨h, _⟩)
  ·exact .inl h
  ·exact .inr h
theorem bwri (gd gx : Nat) (n : Int) (w : World) : (Instr.build 112 #[(0, .pointer (some ⟨gd, 0, none⟩)), (1, .int .i64 n), (2, .pointer (some ⟨gx, 0, none⟩))]).run Tryz.prog w = .ok (.agg #[.pointer (some ⟨gd, 0, none⟩), .int .i64 n, .pointer (some ⟨gx, 0, none⟩), .bool false]) w := by kernel_rfl
def PBeginPost (B : Nat) (w : World) (gd : Nat) (S : Nat → Prop) (n : Int) (r : Int × DiskD) (e : Ending) (w' : World) : Prop :=
  ∃ (p : Option Addr) (S' : Nat → Prop), e = .returned (.tuple #[.pointer p, .int .i64 r.1]) ∧ Own B w' gd r.2 S' ∧ (∀ k, S' k → S k ∨ w.heap.size ≤ k) ∧ Chg S w w' ∧ (r.1 ≠ 0 → p = none) ∧
  (r.1 = 0 → ∃ gw gx gm v, p = some ⟨gw, 0, none⟩ ∧ WrAll B w' gd gw gx gm r.2 ⟨n, [], false⟩ v S' ∧ (∀ k, WrT gw gx gm v k → w.heap.size ≤ k))
set_option maxRecDepth 10000 in
theorem pbegin_any (B gd : Nat) (D : DiskD) (S : Nat → Prop) (n : Int) (N : Nat) (w : World) (hd : Own B w gd D S) (hg : Good N D) (hN : N ≤ 1000000000) (hBw : B ≤ w.heap.size) (hT : PTabs B w) :
  Calls Tryz.prog 25 #[.pointer (some ⟨gd, 0, none⟩), .int .i64 n] w (PBeginPost B w gd S n (pbeginM D n)) := by
 have hg1 := create_good hg (nameP n)
 have hg2 := append_good hg1 (nameP n) (headB n)
 have hl := headB_len n
 have hS1 : ∀ k, S k → S k ∨ w.heap.size ≤ k := fun k hk => .inl hk
 unfold pbeginM
 refine W_enter (args := [.pointer (some ⟨gd, 0, none⟩), .int .i64 n]) 43 Tryz.func25 rfl rfl rfl (W_sub [(0, .pointer (some ⟨gd, 0, none⟩)), (1, .int .i64 n)] ?_ ⟨rfl, rfl, trivial⟩)
 have hcw := Chg.refl (S) w
 refine W_rs (sa rfl rfl (sa rfl rfl (Wn (tN (W_seq (W_rs (sm rfl rfl (sm rfl rfl (sc _ Tryz.func55 rfl (by kernel_rfl) rfl rfl ((pmay_any (some ⟨gd, 0, none⟩) n _).mono ?_))))))))))
 rintro e_ w1 ⟨rfl, hb⟩
 refine cR ?_
 replace hcw := hcw.then_below hb
 replace hd := hd.bel hb
 replace hT := hT.bel hb
 have hz_w1 := hb.size
 clear hb
 refine sa rfl rfl (Wn (tN (W_rs (sm rfl rfl (st (X.neq rfl rfl) rfl (Wn (tN (W_if rfl (fun h13 => ?_) (fun h13 => ?_)))))))))
 ·first | replace h13 := of_decide_eq_true h13 | replace h13 := of_decide_eq_false (notT h13) | replace h13 := notT h13 | skip
  have hr : rightP n = false := by cases h : rightP n with | false => rfl | true => exact absurd (by simp [mayP, h]) h13
  refine W_rs (sm rfl rfl (sa rfl rfl (sa rfl rfl (Wn (tN (W_ret (tR ?_)))))))
  exact (rTT rfl rfl rfl ⟨none, S, by simp [mayP, hr], by rw [if_pos hr]; exact hd, hS1, hcw, fun _ => rfl, fun h => absurd h (by rw [if_pos hr]; show ¬ ((1 : Int) = 0); decide)⟩).1
 ·first | replace h13 := of_decide_eq_false h13 | replace h13 := of_decide_eq_true (notF h13) | replace h13 := notF h13 | skip
  have hr : ¬ rightP n = false := fun h => h13 (by simp [mayP, h])
  rw [if_neg hr]
  refine W_skip (tN (W_seq (W_rs (sm rfl rfl (sm rfl rfl (sc _ Tryz.func21 rfl (by kernel_rfl) rfl rfl ((Name_p n _ hT.pow).mono ?_)))))))
  rintro e_ w2 ⟨rfl, hb⟩
  refine cR ?_
  replace hcw := hcw.then_below hb
  replace hd := hd.bel hb
  replace hT := hT.bel hb
  have hz_w2 := hb.size
  clear hb
  refine sc _ Tryz.func66 rfl (by kernel_rfl) rfl rfl ((pdisk (Create_any gd D S (nameP n) _ hd.at_ hg.ok) hd (Nat.le_trans hBw hcw.size) hT hcw (fun k hk => hk) hS1).mono ?_)
  clear hd hT
  rintro e_ w3 ⟨rfl, S1, hd, hT, hS1, hS2, hcw, hz1_⟩
  refine cR ?_
  obtain ⟨e1, D1, hp1⟩ : ∃ e D', createM D (nameP n) = (e, D') := ⟨_, _, rfl⟩
  rw [hp1] at hd hg1 hg2 ⊢
  simp only at hd hg1 hg2 ⊢
  refine sa rfl rfl (Wn (tN (W_rs (sm rfl rfl (st (X.neq rfl rfl) rfl (Wn (tN (W_if rfl (fun h20 => ?_) (fun h20 => ?_)))))))))
  ·first | replace h20 := of_decide_eq_true h20 | replace h20 := of_decide_eq_false (notT h20) | replace h20 := notT h20 | skip
   rw [if_pos h20]
   refine W_rs (sm rfl rfl (sa rfl rfl (sa rfl rfl (Wn (tN (W_ret (tR ?_)))))))
   exact (rTT rfl rfl rfl ⟨none, S1, rfl, hd, hS1, hcw, fun _ => rfl, fun h => absurd h h20⟩).1
  ·first | replace h20 := of_decide_eq_false h20 | replace h20 := of_decide_eq_true (notF h20) | replace h20 := notF h20 | skip
   rw [if_neg h20]
   refine W_skip (tN (W_seq (W_rs (sm rfl rfl (sm rfl rfl (sc _ Tryz.func21 rfl (by kernel_rfl) rfl rfl ((Name_p n _ hT.pow).mono ?_)))))))
   rintro e_ w4 ⟨rfl, hb⟩
   refine cR ?_
   replace hcw := hcw.then_below hb
   replace hd := hd.bel hb
   replace hT := hT.bel hb
   have hz_w4 := hb.size
   clear hb
   refine sm rfl rfl (sc _ Tryz.func53 rfl (by kernel_rfl) rfl rfl ((pfour_any n _).mono ?_))
   rintro e_ w5 ⟨rfl, hb⟩
   refine cR ?_
   replace hcw := hcw.then_below hb
   replace hd := hd.bel hb
   replace hT := hT.bel hb
   have hz_w5 := hb.size
   clear hb
   refine sc _ Tryz.func52 rfl (by kernel_rfl) rfl rfl ((Seal_any 1 (four n) _ (by rw [four_length]; omega)).mono ?_)
   rintro e_ w6 ⟨rfl, hb⟩
   refine cR ?_
   replace hcw := hcw.then_below hb
   replace hd := hd.bel hb
   replace hT := hT.bel hb
   have hz_w6 := hb.size
   clear hb
   refine sc _ Tryz.func51 rfl (by kernel_rfl) rfl rfl ((pdisk (Append_any gd D1 _ (nameP n) (headB n) _ hd.at_ hg1.ok (hg1.bud (by omega)) (by omega)) hd (Nat.le_trans hBw hcw.size) hT hcw (fun k hk => hk) hS1).mono ?_)
   clear hd hT
   rintro e_ w7 ⟨rfl, S2, hd, hT, hS1, hS2, hcw, hz2_⟩
   refine cR ?_
   obtain ⟨e2, D2, hp2⟩ : ∃ e D', appendM D1 (nameP n) (headB n) = (e, D') := ⟨_, _, rfl⟩
   rw [hp2] at hd hg2 ⊢
   simp only at hd hg2 ⊢
   refine sa rfl rfl (Wn (tN (W_rs (sm rfl rfl (st (X.neq rfl rfl) rfl (Wn (tN (W_if rfl (fun h30 => ?_) (fun h30 => ?_)))))))))
   ·first | replace h30 := of_decide_eq_true h30 | replace h30 := of_decide_eq_false (notT h30) | replace h30 := notT h30 | skip
    rw [if_pos h30]
    refine W_rs (sm rfl rfl (sm rfl rfl (sc _ Tryz.func21 rfl (by kernel_rfl) rfl rfl ((Name_p n _ hT.pow).mono ?_))))
    rintro e_ w8 ⟨rfl, hb⟩
    refine cR ?_
    replace hcw := hcw.then_below hb
    replace hd := hd.bel hb
    replace hT := hT.bel hb
    have hz_w8 := hb.size
    clear hb
    refine sc _ Tryz.func67 rfl (by kernel_rfl) rfl rfl ((pdisk (Remove_any gd D2 _ (nameP n) _ hd.at_ hg2.ok) hd (Nat.le_trans hBw hcw.size) hT hcw (fun k hk => hk) hS1).mono ?_)
    clear hd hT
    rintro e_ w9 ⟨rfl, S3, hd, hT, hS1, hS2, hcw, hz3_⟩
    refine cR (Wn (tN (W_rs (sm rfl rfl (sa rfl rfl (sa rfl rfl (Wn (tN (W_ret (tR ?_))))))))))
    exact (rTT rfl rfl rfl ⟨none, S3, rfl, hd, hS1, hcw, fun _ => rfl, fun h => absurd h h30⟩).1
   ·first | replace h30 := of_decide_eq_false h30 | replace h30 := of_decide_eq_true (notF h30) | replace h30 := notF h30 | skip
    rw [if_neg h30]
    obtain rfl : e2 = 0 := Decidable.of_not_not h30
    refine W_skip (tN (W_rs (sm rfl rfl (sm rfl rfl ?_))))
    have hlo0 := hd.lo
    have hzc0 := hcw.size
    refine smm (enc := encSum) (encv := encInt) rfl (fun gm w10 hM hgm hb hlm => ?_)
    replace hcw := hcw.then_below hb
    replace hd := hd.bel hb
    replace hT := hT.bel hb
    have hz_w10 := hb.size
    clear hb
    refine st (X.bld rfl (bscn gm _)) rfl (sboxA rfl rfl (fun g40 w11 hB40 hg40 hb hl40 => ?_))
    replace hcw := hcw.then_below hb
    replace hd := hd.bel hb
    replace hT := hT.bel hb
    replace hM := hM.bel hb
    have hz_w11 := hb.size
    clear hb
    refine st (X.bld rfl (bwri gd _ n _)) rfl (sboxA rfl rfl (fun g42 w12 hB42 hg42 hb hl42 => ?_))
    replace hcw := hcw.then_below hb
    replace hd := hd.bel hb
    replace hT := hT.bel hb
    replace hM := hM.bel hb
    replace hB40 := hB40.bel hb
    have hz_w12 := hb.size
    clear hb
    refine sa rfl rfl (sa rfl rfl (Wn (tN (W_ret ((rTT rfl rfl rfl ⟨some ⟨g42, 0, none⟩, S2, rfl, hd, hS1, hcw, fun h => absurd rfl h, fun _ => ⟨g42, g40, gm, .slice none 0 0, rfl, ⟨hB42, ⟨hB40, Row.nil _ _ _, ⟨[], hM, rfl⟩, by simp [S32]⟩, ⟨hd, ?_, Nat.le_trans hBw hcw.size⟩⟩, ?_⟩⟩).1)))))
    ·rintro k (rfl | rfl | rfl | e)
     ·exact ⟨fun e => by have := (hlo0 _ e).2; omega, by omega⟩
     ·exact ⟨fun e => by have := (hlo0 _ e).2; omega, by omega⟩
     ·exact ⟨fun e => by have := (hlo0 _ e).2; omega, by omega⟩
     ·simp [Value.ownBlock] at e
    ·rintro k (rfl | rfl | rfl | e)
     ·omega
     ·omega
     ·omega
     ·simp [Value.ownBlock] at e
end Go.Proofs.YtnlabkogebnioaaGreatDoor
namespace Go.Proofs.YtnlabkogebnioaaGreatDoor
open Go.RowKit Sha
theorem hasOf_nodup {m : List (Sum32 × Int)} {l : List Ent} (h : m.map (fun p => (p.1.1, p.2)) = hasOf l) (hn : (m.map (·.1)).Nodup) : (l.map (·.sum)).Nodup := by
 have e1 : (m.map (·.1)).map (·.1) = l.map (·.sum) := by
  have e : (m.map (fun p => (p.1.1, p.2))).map (·.1) = (m.map (·.1)).map (·.1) := by simp [List.map_map, Function.comp_def]
  rw [← e, h]
  unfold hasOf
  rw [List.map_map]
  have : ((fun x => x.1) ∘ fun p : Ent × Nat => (p.1.sum, (p.2 : Int))) = (fun e : Ent => e.sum) ∘ Prod.fst := rfl
  rw [this, ← List.map_map, List.zipIdx_map_fst]
 rw [← e1]
 rw [List.nodup_iff_pairwise_ne, List.pairwise_map]
 exact (List.nodup_iff_pairwise_ne.1 hn).imp fun h e => h (Subtype.ext e)
theorem mget_memG {κ ν : Type} [DecidableEq κ] {m : List (κ × ν)} {k : κ} {v : ν} (h : mget m k = some v) : (k, v) ∈ m := by
 induction m with
 | nil => simp [mget] at h
 | cons p m ih =>
  obtain ⟨a, u⟩ := p
  unfold mget at h
  split at h
  ·rename_i hk
   injection h with h
   rw [hk, h]
   exact List.mem_cons_self ..
  ·exact List.mem_cons_of_mem _ (ih h)
theorem has_get {m : List (Sum32 × Int)} {l : List Ent} (h : m.map (fun p => (p.1.1, p.2)) = hasOf l) (hn : (m.map (·.1)).Nodup) {k : Sum32} {i : Int} (hg : mget m k = some i) : ∃ (j : Nat) (e : Ent), i = j ∧ l[j]? = some e ∧ e.sum = k.1 ∧ findM l k.1 = some e := by
 have hm := mget_memG hg
 have h1 : (k.1, i) ∈ hasOf l := by rw [← h]; exact List.mem_map.2 ⟨_, hm, rfl⟩
 obtain ⟨p, hp, he⟩ := List.mem_map.1 h1
 obtain ⟨e, j⟩ := p
 have hj := List.mem_zipIdx_iff_getElem?.1 hp
 injection he with h2 h3
 simp only at hj h2 h3
 refine ⟨j, e, h3.symm, hj, h2, ?_⟩
 have hnl := hasOf_nodup h hn
 obtain ⟨hjl, hje⟩ := List.getElem?_eq_some_iff.1 hj
 cases hf : findM l k.1 with
 | none =>
  have := List.find?_eq_none.1 hf e (List.mem_of_getElem? hj)
  simp [h2] at this
 | some e' =>
  have hm' := List.mem_of_find?_eq_some hf
  have hs' := List.find?_some hf
  simp only [decide_eq_true_eq] at hs'
  obtain ⟨j', hj', rfl⟩ := List.mem_iff_getElem.1 hm'
  have : j = j' := (List.getElem_inj (xs := l.map (·.sum)) (h₀ := by simpa using hjl) (h₁ := by simpa using hj') hnl).1 (by simp only [List.getElem_map]; rw [hje, h2, hs'])
  subst this
  rw [hje]
theorem has_none {m : List (Sum32 × Int)} {l : List Ent} (h : m.map (fun p => (p.1.1, p.2)) = hasOf l) {k : Sum32} (hg : mget m k = none) : findM l k.1 = none ∧ hadM l k.1 = false := by
 have hk := mget_none.1 hg
 have hh : hadM l k.1 = false := Bool.eq_false_iff.2 fun e => hk ((has_mem h k).2 e)
 refine ⟨List.find?_eq_none.2 fun e he => ?_, hh⟩
 have := hadM_false hh e he
 simpa using this
def WrPost (B : Nat) (w : World) (gd gw gx gm : Nat) (D : DiskD) (x : Wri) (v : Value) (S : Nat → Prop) (w' : World) : Prop :=
  ∃ v' S', WrAll B w' gd gw gx gm D x v' S' ∧ (∀ k, S' k → S k ∨ w.heap.size ≤ k) ∧ (∀ k, v'.ownBlock = some k → v.ownBlock = some k ∨ w.heap.size ≤ k) ∧ Chg (fun k => S k ∨ WrT gw gx gm v k) w w'
section
variable {B gd gw gx gm : Nat} {w : World} {D : DiskD} {x : Wri} {v : Value} {S : Nat → Prop}
theorem WrAll.lt (h : WrAll B w gd gw gx gm D x v S) : ∀ k, WrT gw gx gm v k → k < w.heap.size := by
 obtain ⟨m, hM, _⟩ := h.scn.map
 rintro k (rfl | rfl | rfl | e)
 ·exact h.blk.lt
 ·exact h.scn.blk.lt
 ·exact hM.lt
 ·exact rowLt h.scn.row k e
theorem wadd {w0 : World} {X S1 : Nat → Prop} {l : List Ent} {cs : Array Value} (n pos : Int) (a d : List UInt8) (hB : Blk w gw 112 cs) (hS : ScnAt w gx gm v ⟨l, 0, false⟩) (hF : WrF B w gd gw gx gm D v S1) (hcw : Chg X w0 w) (hTX : ∀ k, WrT gw gx gm v k → X k)
  (ha : a.length = 32) (hn : hadM l a = false) (hl : l.length ≤ 20000000) :
  Calls Tryz.prog 69 #[.pointer (some ⟨gx, 0, none⟩), .int .i64 n, .int .i64 pos, .agg (a.map bv).toArray, str d] w (fun e' w' => e' = .returned (.agg (Ent.mk a n pos d.length).cells.toArray) ∧
   ∃ v', Blk w' gw 112 cs ∧ ScnAt w' gx gm v' ⟨l ++ [⟨a, n, pos, d.length⟩], 0, false⟩ ∧ WrF B w' gd gw gx gm D v' S1 ∧ (∀ k, v'.ownBlock = some k → v.ownBlock = some k ∨ w.heap.size ≤ k) ∧ Chg (fun k => k = gx ∨ k = gm ∨ v.ownBlock = some k) w w' ∧ Chg X w0 w' ∧ w.heap.size ≤ w'.heap.size) := by
 refine (add_any gx gm v ⟨l, 0, false⟩ n pos a d w hS ha hn hl).mono ?_
 rintro e w' ⟨v', rfl, h1, h2, h3⟩
 have hlo := hF.own.lo
 obtain ⟨m, hM, _⟩ := hS.map
 have n1 : gw ≠ gx := by
  rintro rfl
  have e1 : w.heap[gw]? = _ := hB
  have e2 : w.heap[gw]? = _ := hS.blk
  rw [e1] at e2
  injection e2 with e2
  injection e2 with _ e2
  exact absurd e2 (by decide)
 have n2 : gw ≠ gm := hB.neM hM
 have n3 : ¬ v.ownBlock = some gw := fun e => hS.row.ne2 hB (by decide) _ e rfl
 have hgB := hF.gB
 refine ⟨rfl, v', hB.chg h3 (by rintro (e | e | e); exact n1 e; exact n2 e; exact n3 e), h1, ⟨hF.own.other h3 ?_, ?_, Nat.le_trans hgB h3.size⟩, h2, h3, hcw.next h3 (fun i hi => .inl (hTX i (.inr hi))), h3.size⟩
 ·rintro k (e | e | e) hs
  ·exact (hF.ap k (.inr (.inl e))).1 hs
  ·exact (hF.ap k (.inr (.inr (.inl e)))).1 hs
  ·exact (hF.ap k (.inr (.inr (.inr e)))).1 hs
 ·rintro k (e | e | e | e)
  ·exact hF.ap k (.inl e)
  ·exact hF.ap k (.inr (.inl e))
  ·exact hF.ap k (.inr (.inr (.inl e)))
  ·rcases h2 k e with e | e
   ·exact hF.ap k (.inr (.inr (.inr e)))
   ·exact ⟨fun hs => by have := (hlo k hs).2; omega, by omega⟩
set_option maxRecDepth 10000 in
theorem padd_any (d : List UInt8) (N : Nat) (h : WrAll B w gd gw gx gm D x v S) (hg : Good N D) (hN : N ≤ 1000000000) (hT : PTabs B w) (hd : d.length ≤ 1099511627776) (hl : x.l.length ≤ 1000000) :
  Calls Tryz.prog 26 #[.pointer (some ⟨gw, 0, none⟩), str d] w (fun e w' => e = .returned (.tuple #[.agg (paddM D x d).1.1.cells.toArray, .int .i64 (paddM D x d).1.2]) ∧ WrPost B w gd gw gx gm (paddM D x d).2.2 (paddM D x d).2.1 v S w') := by
 have hlt := h.lt
 have hB : Blk w gw 112 #[.pointer (some ⟨gd, 0, none⟩), .int .i64 x.n, .pointer (some ⟨gx, 0, none⟩), .bool x.closed] := h.blk
 have hSn := h.scn
 have hF := h.wf
 have h32 := hSn.s32
 have hz : eZ.cells.toArray.size = 35 := Ent.size (by simp [eZ])
 have hS1 : ∀ k, S k → S k ∨ w.heap.size ≤ k := fun k hk => .inl hk
 have hSlo := hF.own.lo
 have hsha : (sha d).length = 32 := sha_length d
 have hv1 : gw < w.heap.size := hlt _ (.inl rfl)
 have hv2 : gx < w.heap.size := hlt _ (.inr (.inl rfl))
 have hv3 : gm < w.heap.size := hlt _ (.inr (.inr (.inl rfl)))
 have hv4 : ∀ k, v.ownBlock = some k → k < w.heap.size := fun k hk => hlt _ (.inr (.inr (.inr hk)))
 have hB0 := hF.gB
 have hRow : Row w 66 35 v x.l.length (x.l.flatMap Ent.cells) := hSn.row
 obtain ⟨q, cq, rfl, hq1, hq2⟩ := hRow.shape
 clear hRow
 clear h
 unfold paddM
 refine W_enter (args := [.pointer (some ⟨gw, 0, none⟩), str d]) 98 Tryz.func26 rfl rfl rfl (W_sub [(0, .pointer (some ⟨gw, 0, none⟩)), (1, str d)] ?_ ⟨rfl, rfl, trivial⟩)
 have hcw := Chg.refl (fun k => S k ∨ WrT gw gx gm (Value.slice q x.l.length cq) k) w
 refine W_rs (salA inf66 rfl (fun g4 w1 hB4 hg4 hb hl4 => ?_))
 replace hcw := hcw.then_below hb
 replace hB := hB.bel hb
 replace hSn := hSn.bel hb
 replace hF := hF.bel hb
 replace hT := hT.bel hb
 have hz_w1 := hb.size
 clear hb
 refine sa rfl rfl (Wn (tN (W_seq (W_block (W_rs (sm rfl rfl (st (X.wEq rfl) rfl (sa rfl rfl (Wn (tN ?_))))))))))
 refine W_no rfl (rfl) (W_rs (sm rfl rfl (st (X.nilChk rfl) rfl (st (X.fa fa112_3 rfl) rfl (st (X.ldL rfl hB Tryz.underlying4 rfl rfl) rfl (sb rfl rfl (fun h20 => ?_) (fun h20 => ?_)))))))
 ·first | replace h20 := of_decide_eq_true h20 | replace h20 := of_decide_eq_false (notT h20) | replace h20 := notT h20 | skip
  refine gN (g := 20) rfl rfl rfl rfl (gN (g := 20) rfl rfl rfl rfl (st (X.pickT rfl rfl) rfl (sa rfl rfl (Wn (tN (W_yes rfl (rfl) (W_rs (st (X.bld rfl (benZ _)) rfl (ssBN rfl rfl hB4 (by rw [hz]; exact siz66) (by rw [hz]; rfl) (Ent.cells_one eZ) (fun w2 hB_ hc_ => ?_))))))))))
  replace hB4 := hB_
  replace hB := hB.chg hc_ (by show ¬ gw = g4; omega)
  replace hSn := hSn.chg hc_ (by show ¬ gx = g4; omega) (by show ¬ gm = g4; omega) (fun k hk => by show ¬ k = g4; have := hv4 k hk; omega)
  replace hF := hF.chg hc_ (fun k hk => by show ¬ k = g4; have := hSlo k hk; omega)
  replace hcw := hcw.next hc_ (fun i hi => .inr (by omega))
  clear hB_ hc_
  refine sa rfl rfl (Wn (tN (W_ret (bR (tR ?_)))))
  rw [if_pos (.inl h20)]
  exact (rCT rfl rfl hB4 Tryz.underlying66 rfl (by rw [hz]; exact siz66) rfl ⟨rfl, _, S, ⟨hB, hSn, hF⟩, hS1, fun k hk => .inl hk, hcw⟩).1
 ·first | replace h20 := of_decide_eq_false h20 | replace h20 := of_decide_eq_true (notF h20) | replace h20 := notF h20 | skip
  refine gY (g := 20) rfl rfl rfl (sm rfl rfl (gY (g := 20) rfl rfl rfl (st (X.eqS rfl rfl) rfl (st (X.pickF rfl rfl) rfl (sa rfl rfl (Wn (tN (W_if rfl (fun h15 => ?_) (fun h15 => ?_)))))))))
  ·first | replace h15 := of_decide_eq_true h15 | replace h15 := of_decide_eq_false (notT h15) | replace h15 := notT h15 | skip
   refine W_rs (st (X.bld rfl (benZ _)) rfl (ssBN rfl rfl hB4 (by rw [hz]; exact siz66) (by rw [hz]; rfl) (Ent.cells_one eZ) (fun w3 hB_ hc_ => ?_)))
   replace hB4 := hB_
   replace hB := hB.chg hc_ (by show ¬ gw = g4; omega)
   replace hSn := hSn.chg hc_ (by show ¬ gx = g4; omega) (by show ¬ gm = g4; omega) (fun k hk => by show ¬ k = g4; have := hv4 k hk; omega)
   replace hF := hF.chg hc_ (fun k hk => by show ¬ k = g4; have := hSlo k hk; omega)
   replace hcw := hcw.next hc_ (fun i hi => .inr (by omega))
   clear hB_ hc_
   refine sa rfl rfl (Wn (tN (W_ret (bR (tR ?_)))))
   rw [if_pos (.inr h15)]
   exact (rCT rfl rfl hB4 Tryz.underlying66 rfl (by rw [hz]; exact siz66) rfl ⟨rfl, _, S, ⟨hB, hSn, hF⟩, hS1, fun k hk => .inl hk, hcw⟩).1
  ·first | replace h15 := of_decide_eq_false h15 | replace h15 := of_decide_eq_true (notF h15) | replace h15 := notF h15 | skip
   rw [if_neg (by rintro (e | e); rw [h20] at e; cases e; exact h15 e)]
   refine W_rs (sm rfl rfl (st (X.lenS rfl rfl Tryz.underlying9) rfl (st (X.gtr rfl rfl) rfl (sa rfl rfl (Wn (tN (W_if rfl (fun h25 => ?_) (fun h25 => ?_))))))))
   ·first | replace h25 := of_decide_eq_true h25 | replace h25 := of_decide_eq_false (notT h25) | replace h25 := notT h25 | skip
    rw [if_pos (by omega)]
    refine W_rs (st (X.bld rfl (benZ _)) rfl (ssBN rfl rfl hB4 (by rw [hz]; exact siz66) (by rw [hz]; rfl) (Ent.cells_one eZ) (fun w4 hB_ hc_ => ?_)))
    replace hB4 := hB_
    replace hB := hB.chg hc_ (by show ¬ gw = g4; omega)
    replace hSn := hSn.chg hc_ (by show ¬ gx = g4; omega) (by show ¬ gm = g4; omega) (fun k hk => by show ¬ k = g4; have := hv4 k hk; omega)
    replace hF := hF.chg hc_ (fun k hk => by show ¬ k = g4; have := hSlo k hk; omega)
    replace hcw := hcw.next hc_ (fun i hi => .inr (by omega))
    clear hB_ hc_
    refine sa rfl rfl (Wn (tN (W_ret (bR (tR ?_)))))
    exact (rCT rfl rfl hB4 Tryz.underlying66 rfl (by rw [hz]; exact siz66) rfl ⟨rfl, _, S, ⟨hB, hSn, hF⟩, hS1, fun k hk => .inl hk, hcw⟩).1
   ·first | replace h25 := of_decide_eq_false h25 | replace h25 := of_decide_eq_true (notF h25) | replace h25 := notF h25 | skip
    rw [if_neg (by omega)]
    refine W_skip (bN (tN (W_rs (sm rfl rfl (sc _ Tryz.func24 rfl (by kernel_rfl) rfl rfl ((Of_list d _ hT.sha (by omega)).mono ?_))))))
    rintro e_ w5 ⟨rfl, hb⟩
    refine cR ?_
    replace hcw := hcw.then_below hb
    replace hB := hB.bel hb
    replace hSn := hSn.bel hb
    replace hF := hF.bel hb
    replace hT := hT.bel hb
    replace hB4 := hB4.bel hb
    have hz_w5 := hb.size
    clear hb
    refine salA inf60 rfl (fun g6 w6 hB6 hg6 hb hl6 => ?_)
    replace hcw := hcw.then_below hb
    replace hB := hB.bel hb
    replace hSn := hSn.bel hb
    replace hF := hF.bel hb
    replace hT := hT.bel hb
    replace hB4 := hB4.bel hb
    have hz_w6 := hb.size
    clear hb
    refine ssBN rfl rfl hB6 (by rw [sumSize hsha]; exact siz60) (by rw [sumSize hsha]; rfl) (sumOne _) (fun w7 hB_ hc_ => ?_)
    replace hB6 := hB_
    replace hB4 := hB4.chg hc_ (by show ¬ g4 = g6; omega)
    replace hB := hB.chg hc_ (by show ¬ gw = g6; omega)
    replace hSn := hSn.chg hc_ (by show ¬ gx = g6; omega) (by show ¬ gm = g6; omega) (fun k hk => by show ¬ k = g6; have := hv4 k hk; omega)
    replace hF := hF.chg hc_ (fun k hk => by show ¬ k = g6; have := hSlo k hk; omega)
    replace hT := hT.chg hc_ (fun k hk => by have h1 : k = g6 := hk; omega)
    replace hcw := hcw.next hc_ (fun i hi => .inr (by omega))
    have hz_w7 := hc_.size
    clear hB_ hc_
    obtain ⟨m, hM, hm⟩ := hSn.map
    refine Wn (tN (W_seq (W_drsN (fun W_ => Blk W_ gw 112 #[.pointer (some ⟨gd, 0, none⟩), .int .i64 x.n, .pointer (some ⟨gx, 0, none⟩), .bool x.closed] ∧ Blk W_ gx 97 #[.slice q x.l.length cq, .map (some gm), .int .i64 (0 : Nat), .bool false] ∧ Blk W_ g6 60 ((sha d).map bv).toArray) [0, 1, 2, 3, 4, 5, 6, 7, 8, 9, 10, 11, 12, 13] [true, true, true, true, true, true, true, true, false, true, true, true, true, true] (by kernel_rfl) (by kernel_rfl) (⟨hB.drew, hSn.blk.drew, hB6.drew⟩) ?_)))
    obtain ⟨w8, hw_⟩ : ∃ w8 : World, w8 = World.drew w7 := ⟨_, rfl⟩
    rw [← hw_]
    have hb : Below w7.heap.size w7 w8 := by rw [hw_]; exact bdrew (Below.refl _ _)
    clear hw_
    have hS := hb
    replace hcw := hcw.then_below hb
    replace hB := hB.bel hb
    replace hSn := hSn.bel hb
    replace hF := hF.bel hb
    replace hT := hT.bel hb
    replace hB4 := hB4.bel hb
    replace hB6 := hB6.bel hb
    replace hM := hM.bel hb
    have hz_w8 := hb.size
    clear hb
    refine oY rfl (fun W_ hW_ => (X.move rfl)) rfl (oY rfl (fun W_ hW_ => (X.nilChk rfl)) rfl (oY rfl (fun W_ hW_ => (X.fa fa112_2 rfl)) rfl (oY rfl (fun W_ hW_ => (X.ldL rfl hW_.1 Tryz.underlying92 rfl rfl)) rfl (oY rfl (fun W_ hW_ => (X.nilChk rfl)) rfl (oY rfl (fun W_ hW_ => (X.fa fa97_1 rfl)) rfl (oY rfl (fun W_ hW_ => (X.ldL rfl hW_.2.1 Tryz.underlying95 rfl rfl)) rfl (oY rfl (fun W_ hW_ => (X.ldBN rfl hW_.2.2 Tryz.underlying60 rfl (by rw [sumSize hsha]; exact siz60))) rfl ?_)))))))
    refine oL rfl (fun Q_ hQ_ hP_ => (st (X.lookOk (z := .int .i64 0) keySum rfl ⟨sha d, hsha⟩ rfl Tryz.underlying95 (by kernel_rfl) hM) rfl (Wn (hQ_ _ _ (⟨hB, hSn.blk, hB6⟩) ?_))))
    clear hQ_ hP_ Q_
    refine oY rfl (fun W_ hW_ => (X.move rfl)) rfl (oY rfl (fun W_ hW_ => (X.ext rfl rfl)) rfl (oY rfl (fun W_ hW_ => (X.ext rfl rfl)) rfl (oY rfl (fun W_ hW_ => (X.assign rfl)) rfl (oY rfl (fun W_ hW_ => (X.assign rfl)) rfl (oN (nN (W_rs (sm rfl rfl (Wn (tN ?_))))))))))
    refine W_if rfl (fun h44 => ?_) (fun h44 => ?_)
    ·first | replace h44 := of_decide_eq_true h44 | replace h44 := of_decide_eq_false (notT h44) | replace h44 := notT h44 | skip
     obtain ⟨i, hgi⟩ : ∃ i, mget m (⟨sha d, hsha⟩ : Sum32) = some i := Option.isSome_iff_exists.1 h44
     obtain ⟨j, en, rfl, hj, hes, hfi⟩ := has_get hm hM.nodup hgi
     have hfi : findM x.l (sha d) = some en := hfi
     have hen : en.sum.length = 32 := h32 en (List.mem_of_getElem? hj)
     have hjl : j < x.l.length := (List.getElem?_eq_some_iff.1 hj).1
     rw [hfi, hgi]
     have hRr := hSn.row.reads
     obtain ⟨g1, o1, c', hvv, hg1⟩ := hRr.some_ (by show 0 < x.l.length; omega)
     injection hvv with e1 _ e3
     subst e1 e3
     have hRg := EntsAt.range (l := x.l) hRr h32 hj
     clear hRr
     refine W_rs (sm rfl rfl (st (X.nilChk rfl) rfl (st (X.fa fa112_2 rfl) rfl (st (X.ldL rfl hB Tryz.underlying92 rfl rfl) rfl (st (X.nilChk rfl) rfl (st (X.fa fa97_0 rfl) rfl (st (X.ldL rfl hSn.blk Tryz.underlying23 rfl rfl) rfl (sm rfl rfl (st (X.idxA rfl rfl Tryz.underlying23 siz66 rfl hjl) rfl (st (X.ldN (cs := en.cells) rfl Tryz.underlying66 rfl (by rw [Ent.cells_length hen]; exact siz66) hRg) rfl ?_))))))))))
     refine ssBN rfl rfl hB4 (by rw [Ent.size hen]; exact siz66) (by rw [Ent.size hen]; rfl) (Ent.cells_one en) (fun w9 hB_ hc_ => ?_)
     replace hB4 := hB_
     replace hB := hB.chg hc_ (by show ¬ gw = g4; omega)
     replace hSn := hSn.chg hc_ (by show ¬ gx = g4; omega) (by show ¬ gm = g4; omega) (fun k hk => by show ¬ k = g4; have := hv4 k hk; omega)
     replace hF := hF.chg hc_ (fun k hk => by show ¬ k = g4; have := hSlo k hk; omega)
     replace hcw := hcw.next hc_ (fun i hi => .inr (by omega))
     clear hB_ hc_
     refine sa rfl rfl (Wn (tN (W_ret (tR ?_))))
     exact (rCT rfl rfl hB4 Tryz.underlying66 rfl (by rw [Ent.size hen]; exact siz66) rfl ⟨rfl, _, S, ⟨hB, hSn, hF⟩, hS1, fun k hk => .inl hk, hcw⟩).1
    ·first | replace h44 := of_decide_eq_false h44 | replace h44 := of_decide_eq_true (notF h44) | replace h44 := notF h44 | skip
     obtain ⟨hfn, hhn⟩ := has_none hm (k := ⟨sha d, hsha⟩) (by cases hg : mget m (⟨sha d, hsha⟩ : Sum32) with | none => rfl | some z => rw [hg] at h44; simp at h44)
     have hfn : findM x.l (sha d) = none := hfn
     have hhn : hadM x.l (sha d) = false := hhn
     rw [hfn]
     refine W_skip (tN (W_drsN (fun W_ => Blk W_ gw 112 #[.pointer (some ⟨gd, 0, none⟩), .int .i64 x.n, .pointer (some ⟨gx, 0, none⟩), .bool x.closed]) [0, 1, 2, 3, 4, 5, 6, 7, 8, 9, 10, 11, 12, 13, 14] [true, true, true, true, true, true, true, true, false, false, true, true, true, true, true] (by kernel_rfl) (by kernel_rfl) (hB.drew) ?_))
     obtain ⟨w10, hw_⟩ : ∃ w10 : World, w10 = World.drew w8 := ⟨_, rfl⟩
     rw [← hw_]
     have hb : Below w8.heap.size w8 w10 := by rw [hw_]; exact bdrew (Below.refl _ _)
     clear hw_
     have hS := hb
     replace hcw := hcw.then_below hb
     replace hB := hB.bel hb
     replace hSn := hSn.bel hb
     replace hF := hF.bel hb
     replace hT := hT.bel hb
     replace hB4 := hB4.bel hb
     replace hB6 := hB6.bel hb
     replace hM := hM.bel hb
     have hz_w10 := hb.size
     clear hb
     refine oY rfl (fun W_ hW_ => (X.move rfl)) rfl (oY rfl (fun W_ hW_ => (X.nilChk rfl)) rfl (oY rfl (fun W_ hW_ => (X.fa fa112_0 rfl)) rfl (oY rfl (fun W_ hW_ => (X.ldL rfl hW_ Tryz.underlying41 rfl rfl)) rfl (oY rfl (fun W_ hW_ => (X.move rfl)) rfl (oY rfl (fun W_ hW_ => (X.nilChk rfl)) rfl (oY rfl (fun W_ hW_ => (X.fa fa112_1 rfl)) rfl (oY rfl (fun W_ hW_ => (X.ldL rfl hW_ Tryz.underlying3 rfl rfl)) rfl (oL rfl (fun Q_ hQ_ hP_ => (sc _ Tryz.func21 rfl (by kernel_rfl) rfl rfl ((Name_p x.n _ hT.pow).mono ?_)))))))))))
     rintro e_ w11 ⟨rfl, hb⟩
     refine cR ?_
     replace hcw := hcw.then_below hb
     replace hB := hB.bel hb
     replace hSn := hSn.bel hb
     replace hF := hF.bel hb
     replace hT := hT.bel hb
     replace hB4 := hB4.bel hb
     replace hB6 := hB6.bel hb
     replace hM := hM.bel hb
     have hz_w11 := hb.size
     clear hb
     refine Wn (hQ_ _ _ (hB) ?_)
     clear hQ_ hP_ Q_
     refine oL rfl (fun Q_ hQ_ hP_ => (sc _ Tryz.func20 rfl (by kernel_rfl) rfl rfl ((Size_any gd D S (nameP x.n) _ hF.own.at_).mono ?_)))
     rintro e_ w12 ⟨rfl, hb⟩
     refine cR ?_
     replace hcw := hcw.then_below hb
     replace hB := hB.bel hb
     replace hSn := hSn.bel hb
     replace hF := hF.bel hb
     replace hT := hT.bel hb
     replace hB4 := hB4.bel hb
     replace hB6 := hB6.bel hb
     replace hM := hM.bel hb
     have hz_w12 := hb.size
     clear hb
     refine Wn (hQ_ _ _ (hB) ?_)
     clear hQ_ hP_ Q_
     refine oY rfl (fun W_ hW_ => (X.move rfl)) rfl (oY rfl (fun W_ hW_ => (X.ext rfl rfl)) rfl (oY rfl (fun W_ hW_ => (X.ext rfl rfl)) rfl (oY rfl (fun W_ hW_ => (X.assign rfl)) rfl (oY rfl (fun W_ hW_ => (X.assign rfl)) rfl (oN (nN (W_seq (W_rs (sm rfl rfl (st (X.eql rfl rfl) rfl ?_))))))))))
     refine Wn (tN (W_if rfl (fun h69 => ?_) (fun h69 => ?_)))
     ·first | replace h69 := of_decide_eq_true h69 | replace h69 := of_decide_eq_false (notT h69) | replace h69 := notT h69 | skip
      rw [if_neg (by omega)]
      refine W_drN (fun W_ => Blk W_ gw 112 #[.pointer (some ⟨gd, 0, none⟩), .int .i64 x.n, .pointer (some ⟨gx, 0, none⟩), .bool x.closed]) [0, 1, 2, 3, 4, 5, 6, 7, 9, 8, 10, 11, 12] [true, true, true, true, true, true, true, true, true, false, false, false, true] (by kernel_rfl) (by kernel_rfl) (hB.drew) ?_
      obtain ⟨w13, hw_⟩ : ∃ w13 : World, w13 = World.drew w12 := ⟨_, rfl⟩
      rw [← hw_]
      have hb : Below w12.heap.size w12 w13 := by rw [hw_]; exact bdrew (Below.refl _ _)
      clear hw_
      have hS := hb
      replace hcw := hcw.then_below hb
      replace hB := hB.bel hb
      replace hSn := hSn.bel hb
      replace hF := hF.bel hb
      replace hT := hT.bel hb
      replace hB4 := hB4.bel hb
      replace hB6 := hB6.bel hb
      replace hM := hM.bel hb
      have hz_w13 := hb.size
      clear hb
      refine oY rfl (fun W_ hW_ => (X.move rfl)) rfl (oY rfl (fun W_ hW_ => (X.nilChk rfl)) rfl (oY rfl (fun W_ hW_ => (X.fa fa112_0 rfl)) rfl (oY rfl (fun W_ hW_ => (X.ldL rfl hW_ Tryz.underlying41 rfl rfl)) rfl (oY rfl (fun W_ hW_ => (X.move rfl)) rfl (oY rfl (fun W_ hW_ => (X.nilChk rfl)) rfl (oY rfl (fun W_ hW_ => (X.fa fa112_1 rfl)) rfl (oY rfl (fun W_ hW_ => (X.ldL rfl hW_ Tryz.underlying3 rfl rfl)) rfl (oY rfl (fun W_ hW_ => (X.move rfl)) rfl (oL rfl (fun Q_ hQ_ hP_ => (sc _ Tryz.func21 rfl (by kernel_rfl) rfl rfl ((Name_p x.n _ hT.pow).mono ?_))))))))))))
      rintro e_ w14 ⟨rfl, hb⟩
      refine cR ?_
      replace hcw := hcw.then_below hb
      replace hB := hB.bel hb
      replace hSn := hSn.bel hb
      replace hF := hF.bel hb
      replace hT := hT.bel hb
      replace hB4 := hB4.bel hb
      replace hB6 := hB6.bel hb
      replace hM := hM.bel hb
      have hz_w14 := hb.size
      clear hb
      refine Wn (hQ_ _ _ (hB) ?_)
      clear hQ_ hP_ Q_
      refine oL rfl (fun Q_ hQ_ hP_ => (sc _ Tryz.func68 rfl (by kernel_rfl) rfl rfl ((sealed_any d _ hT.sha (by omega)).mono ?_)))
      rintro e_ w15 ⟨rfl, hb⟩
      refine cR ?_
      replace hcw := hcw.then_below hb
      replace hB := hB.bel hb
      replace hSn := hSn.bel hb
      replace hF := hF.bel hb
      replace hT := hT.bel hb
      replace hB4 := hB4.bel hb
      replace hB6 := hB6.bel hb
      replace hM := hM.bel hb
      have hz_w15 := hb.size
      clear hb
      refine Wn (hQ_ _ _ (hB) ?_)
      clear hQ_ hP_ Q_
      refine oL rfl (fun Q_ hQ_ hP_ => (sc _ Tryz.func51 rfl (by kernel_rfl) rfl rfl ((wdisk (Append_any gd D _ (nameP x.n) (chunkB d) _ hF.own.at_ hg.ok (hg.bud (by omega)) (by have := chunkB_len d (by omega); omega)) hB hSn hF hT hcw (fun k hk => .inl hk) hS1).mono ?_)))
      clear hB hSn hF hT
      rintro e_ w16 ⟨rfl, S1, hB, hSn, hF, hT, hS1, hX2, hcw, hz1_⟩
      refine cR (Wn (hQ_ _ _ (hB) ?_))
      clear hQ_ hP_ Q_
      replace hB4 := hB4.chg hX2.2 (fun e => by have := hSlo g4 e; omega)
      replace hB6 := hB6.chg hX2.2 (fun e => by have := hSlo g6 e; omega)
      have hS1x : ∀ k, S1 k → k ≠ g4 := fun k hk e => by rcases hX2.1 k hk with h | h; have := hSlo k h; omega; omega
      obtain ⟨e1, D1, hap⟩ : ∃ e1 D1, appendM D (nameP x.n) (chunkB d) = (e1, D1) := ⟨_, _, rfl⟩
      rw [hap] at hF ⊢
      simp only at hF ⊢
      refine oY rfl (fun W_ hW_ => (X.assign rfl)) rfl (oN (nN (tN (W_seq (W_rs (sm rfl rfl (st (X.neq rfl rfl) rfl (Wn (tN (W_if rfl (fun h83 => ?_) (fun h83 => ?_)))))))))))
      ·first | replace h83 := of_decide_eq_true h83 | replace h83 := of_decide_eq_false (notT h83) | replace h83 := notT h83 | skip
       rw [if_pos h83]
       refine W_rs (st (X.bld rfl (benZ _)) rfl (sm rfl rfl (ssBN rfl rfl hB4 (by rw [hz]; exact siz66) (by rw [hz]; rfl) (Ent.cells_one eZ) (fun w17 hB_ hc_ => ?_))))
       replace hB4 := hB_
       replace hB := hB.chg hc_ (by show ¬ gw = g4; omega)
       replace hSn := hSn.chg hc_ (by show ¬ gx = g4; omega) (by show ¬ gm = g4; omega) (fun k hk => by show ¬ k = g4; have := hv4 k hk; omega)
       replace hF := hF.chg hc_ (fun k hk => by show ¬ k = g4; have := hS1x k hk; omega)
       replace hcw := hcw.next hc_ (fun i hi => .inr (by omega))
       clear hB_ hc_
       refine sa rfl rfl (Wn (tN (W_ret (tR ?_))))
       exact (rCT rfl rfl hB4 Tryz.underlying66 rfl (by rw [hz]; exact siz66) rfl ⟨rfl, _, S1, ⟨hB, hSn, hF⟩, hS1, fun k hk => .inl hk, hcw⟩).1
      ·first | replace h83 := of_decide_eq_false h83 | replace h83 := of_decide_eq_true (notF h83) | replace h83 := notF h83 | skip
       rw [if_neg h83]
       refine W_skip (tN (W_drsN (fun W_ => Blk W_ gw 112 #[.pointer (some ⟨gd, 0, none⟩), .int .i64 x.n, .pointer (some ⟨gx, 0, none⟩), .bool x.closed] ∧ Blk W_ g6 60 ((sha d).map bv).toArray) [0, 1, 2, 3, 4, 5, 6, 7, 8, 9, 10, 11, 12, 13] [true, true, true, true, true, true, true, true, true, true, true, false, false, true] (by kernel_rfl) (by kernel_rfl) (⟨hB.drew, hB6.drew⟩) ?_))
       obtain ⟨w18, hw_⟩ : ∃ w18 : World, w18 = World.drew w16 := ⟨_, rfl⟩
       rw [← hw_]
       have hb : Below w16.heap.size w16 w18 := by rw [hw_]; exact bdrew (Below.refl _ _)
       clear hw_
       have hS := hb
       replace hcw := hcw.then_below hb
       replace hB := hB.bel hb
       replace hSn := hSn.bel hb
       replace hF := hF.bel hb
       replace hT := hT.bel hb
       replace hB4 := hB4.bel hb
       replace hB6 := hB6.bel hb
       have hz_w18 := hb.size
       clear hb
       refine oY rfl (fun W_ hW_ => (X.move rfl)) rfl (oY rfl (fun W_ hW_ => (X.nilChk rfl)) rfl (oY rfl (fun W_ hW_ => (X.fa fa112_2 rfl)) rfl (oY rfl (fun W_ hW_ => (X.ldL rfl hW_.1 Tryz.underlying92 rfl rfl)) rfl (oY rfl (fun W_ hW_ => (X.move rfl)) rfl (oY rfl (fun W_ hW_ => (X.nilChk rfl)) rfl (oY rfl (fun W_ hW_ => (X.fa fa112_1 rfl)) rfl (oY rfl (fun W_ hW_ => (X.ldL rfl hW_.1 Tryz.underlying3 rfl rfl)) rfl (oY rfl (fun W_ hW_ => (X.move rfl)) rfl (oY rfl (fun W_ hW_ => (X.ldBN rfl hW_.2 Tryz.underlying60 rfl (by rw [sumSize hsha]; exact siz60))) rfl ?_)))))))))
       refine oY rfl (fun W_ hW_ => (X.move rfl)) rfl (oL rfl (fun Q_ hQ_ hP_ => (sc _ Tryz.func69 rfl (by kernel_rfl) rfl rfl ((wadd x.n (sizeM D (nameP x.n)).1 (sha d) d hB hSn hF hcw (fun k hk => .inr hk) hsha hhn (by omega)).mono ?_))))
       clear hB hSn hF
       rintro e_ w19 ⟨rfl, v', hB, hSn, hF, hv', hC2, hcw, hz2_⟩
       refine cR (Wn (hQ_ _ _ (by first | exact ⟨hB, hB6⟩ | exact ⟨hB, hB6.chg hC2 (by rintro (e | e | e); omega; omega; have := hv4 _ e; omega)⟩) ?_))
       clear hQ_ hP_ Q_
       replace hB4 := hB4.chg hC2 (by rintro (e | e | e); omega; omega; have := hv4 _ e; omega)
       replace hB6 := hB6.chg hC2 (by rintro (e | e | e); omega; omega; have := hv4 _ e; omega)
       have hv5 : ∀ k, v'.ownBlock = some k → ¬ k = g4 := fun k hk e => by rcases hv' k hk with h | h; have := hv4 k h; omega; omega
       refine oL rfl (fun Q_ hQ_ hP_ => (ssBN rfl rfl hB4 (by rw [Ent.size (e := ⟨sha d, x.n, (sizeM D (nameP x.n)).1, d.length⟩) hsha]; exact siz66) (by rw [Ent.size (e := ⟨sha d, x.n, (sizeM D (nameP x.n)).1, d.length⟩) hsha]; rfl) (entOne _) (fun w20 hB_ hc_ => ?_)))
       replace hB4 := hB_
       replace hB := hB.chg hc_ (by show ¬ gw = g4; omega)
       replace hSn := hSn.chg hc_ (by show ¬ gx = g4; omega) (by show ¬ gm = g4; omega) (fun k hk => hv5 k hk)
       replace hB6 := hB6.chg hc_ (by show ¬ g6 = g4; omega)
       replace hF := hF.chg hc_ (fun k hk => hS1x k hk)
       replace hcw := hcw.next hc_ (fun i hi => .inr (by omega))
       clear hB_ hc_
       refine Wn (hQ_ _ _ (by first | exact ⟨hB, hB6⟩ | exact ⟨hB, hB6.chg hC2 (by rintro (e | e | e); omega; omega; have := hv4 _ e; omega)⟩) ?_)
       clear hQ_ hP_ Q_
       refine oY rfl (fun W_ hW_ => (X.assign rfl)) rfl (oN (nN (W_ret ((rCT rfl rfl hB4 Tryz.underlying66 rfl (by rw [Ent.size (e := ⟨sha d, x.n, (sizeM D (nameP x.n)).1, d.length⟩) hsha]; exact siz66) rfl ⟨rfl, v', S1, ⟨hB, hSn, hF⟩, hS1, fun k hk => (hv' k hk).imp id (fun h => by omega), hcw⟩).1))))
     ·first | replace h69 := of_decide_eq_false h69 | replace h69 := of_decide_eq_true (notF h69) | replace h69 := notF h69 | skip
      rw [if_pos h69]
      refine W_skip (tN (W_seq (W_rs (sm rfl rfl (st (X.neq rfl rfl) rfl (Wn (tN (W_yes rfl (decide_eq_true h69) (W_rs (st (X.bld rfl (benZ _)) rfl ?_))))))))))
      refine sm rfl rfl (ssBN rfl rfl hB4 (by rw [hz]; exact siz66) (by rw [hz]; rfl) (Ent.cells_one eZ) (fun w21 hB_ hc_ => ?_))
      replace hB4 := hB_
      replace hB := hB.chg hc_ (by show ¬ gw = g4; omega)
      replace hSn := hSn.chg hc_ (by show ¬ gx = g4; omega) (by show ¬ gm = g4; omega) (fun k hk => by show ¬ k = g4; have := hv4 k hk; omega)
      replace hF := hF.chg hc_ (fun k hk => by show ¬ k = g4; have := hSlo k hk; omega)
      replace hcw := hcw.next hc_ (fun i hi => .inr (by omega))
      clear hB_ hc_
      refine sa rfl rfl (Wn (tN (W_ret (tR ?_))))
      exact (rCT rfl rfl hB4 Tryz.underlying66 rfl (by rw [hz]; exact siz66) rfl ⟨rfl, _, S, ⟨hB, hSn, hF⟩, hS1, fun k hk => .inl hk, hcw⟩).1
end
end Go.Proofs.YtnlabkogebnioaaGreatDoor
namespace Go.Proofs.YtnlabkogebnioaaGreatDoor
open Go.RowKit Sha
def PClosePost (B : Nat) (w : World) (gd gw gx gm : Nat) (r : (List Ent × Int) × Wri × DiskD) (v : Value) (S : Nat → Prop) (e : Ending) (w' : World) : Prop :=
  ∃ u v' S', e = .returned (.tuple #[.agg #[u], .int .i64 r.1.2]) ∧ EntsAt w' u r.1.1 ∧ (∀ k, u.ownBlock = some k → w.heap.size ≤ k ∧ ¬ S' k) ∧ WrAll B w' gd gw gx gm r.2.2 r.2.1 v' S' ∧ (∀ k, S' k → S k ∨ w.heap.size ≤ k) ∧ (∀ k, v'.ownBlock = some k → v.ownBlock = some k ∨ w.heap.size ≤ k) ∧ Chg (fun k => S k ∨ WrT gw gx gm v k) w w'
section
variable {B gd gw gx gm : Nat} {w : World} {D : DiskD} {x : Wri} {v : Value} {S : Nat → Prop}
set_option maxRecDepth 10000 in
theorem pclose_any (N : Nat) (h : WrAll B w gd gw gx gm D x v S) (hg : Good N D) (hN : N ≤ 1000000000) (hT : PTabs B w) (hl : x.l.length ≤ 1000000) :
  Calls Tryz.prog 18 #[.pointer (some ⟨gw, 0, none⟩)] w (PClosePost B w gd gw gx gm (pcloseM D x) v S) := by
 have hlt := h.lt
 have hB : Blk w gw 112 #[.pointer (some ⟨gd, 0, none⟩), .int .i64 x.n, .pointer (some ⟨gx, 0, none⟩), .bool x.closed] := h.blk
 have hSn := h.scn
 have hF := h.wf
 have h32 := hSn.s32
 have hS1 : ∀ k, S k → S k ∨ w.heap.size ≤ k := fun k hk => .inl hk
 have hSlo := hF.own.lo
 have hv1 : gw < w.heap.size := hlt _ (.inl rfl)
 have hv2 : gx < w.heap.size := hlt _ (.inr (.inl rfl))
 have hv3 : gm < w.heap.size := hlt _ (.inr (.inr (.inl rfl)))
 have hv4 : ∀ k, v.ownBlock = some k → k < w.heap.size := fun k hk => hlt _ (.inr (.inr (.inr hk)))
 have hB0 := hF.gB
 have hg1 := append_good hg (nameP x.n) (footB x.l)
 have hfl := footB_len x.l
 have hRow : Row w 66 35 v x.l.length (x.l.flatMap Ent.cells) := hSn.row
 obtain ⟨q, cq, rfl, hq1, hq2⟩ := hRow.shape
 clear hRow h
 unfold pcloseM
 refine W_enter (args := [.pointer (some ⟨gw, 0, none⟩)]) 62 Tryz.func18 rfl rfl rfl (W_sub [(0, .pointer (some ⟨gw, 0, none⟩))] ?_ ⟨rfl, trivial⟩)
 have hcw := Chg.refl (fun k => S k ∨ WrT gw gx gm (Value.slice q x.l.length cq) k) w
 refine W_rs (salA inf25 rfl (fun g2 w1 hB2 hg2 hb hl2 => ?_))
 replace hcw := hcw.then_below hb
 replace hB := hB.bel hb
 replace hSn := hSn.bel hb
 replace hF := hF.bel hb
 replace hT := hT.bel hb
 have hz_w1 := hb.size
 clear hb
 refine sa rfl rfl (Wn (tN (W_seq (W_block (W_rs (sm rfl rfl (st (X.wEq rfl) rfl (sa rfl rfl (Wn (tN ?_))))))))))
 refine W_no rfl (rfl) (W_rs (sm rfl rfl (st (X.nilChk rfl) rfl (st (X.fa fa112_3 rfl) rfl (st (X.ldL rfl hB Tryz.underlying4 rfl rfl) rfl (sa rfl rfl (Wn (tN (W_if rfl (fun h10 => ?_) (fun h10 => ?_))))))))))
 ·first | replace h10 := of_decide_eq_true h10 | replace h10 := of_decide_eq_false (notT h10) | replace h10 := notT h10 | skip
  rw [if_pos h10]
  refine W_rs (st (X.bld rfl (bidx0 _)) rfl (ssBN rfl rfl hB2 siz25 rfl (by simp [Value.oneCell']) (fun w2 hB_ hc_ => ?_)))
  replace hB2 := hB_
  replace hB := hB.chg hc_ (by show ¬ gw = g2; omega)
  replace hSn := hSn.chg hc_ (by show ¬ gx = g2; omega) (by show ¬ gm = g2; omega) (fun k hk => by show ¬ k = g2; have := hv4 k hk; omega)
  replace hF := hF.chg hc_ (fun k hk => by show ¬ k = g2; have := hSlo k hk; omega)
  replace hcw := hcw.next hc_ (fun i hi => .inr (by omega))
  clear hB_ hc_
  refine sa rfl rfl (Wn (tN (W_ret (bR (tR ?_)))))
  exact (rCT rfl rfl hB2 Tryz.underlying25 rfl siz25 rfl ⟨_, _, S, rfl, EntsAt.nil _, fun k hk => by simp [Value.ownBlock] at hk, ⟨hB, hSn, hF⟩, hS1, fun k hk => .inl hk, hcw⟩).1
 ·first | replace h10 := of_decide_eq_false h10 | replace h10 := of_decide_eq_true (notF h10) | replace h10 := notF h10 | skip
  rw [if_neg (by rw [h10]; decide)]
  refine W_skip (bN (tN (W_seq (W_drsN (fun W_ => Blk W_ gw 112 #[.pointer (some ⟨gd, 0, none⟩), .int .i64 x.n, .pointer (some ⟨gx, 0, none⟩), .bool x.closed] ∧ Blk W_ gx 97 #[.slice q x.l.length cq, .map (some gm), .int .i64 (0 : Nat), .bool false]) [0, 1, 2, 3, 4, 5, 6, 7, 9, 10, 11, 12, 13, 14, 15, 16, 8, 17, 18, 19, 20] [true, true, true, true, true, true, true, true, true, true, true, true, true, true, true, true, false, false, false, false, true] (by kernel_rfl) (by kernel_rfl) (⟨hB.drew, hSn.blk.drew⟩) ?_))))
  obtain ⟨w3, hw_⟩ : ∃ w3 : World, w3 = World.drew w1 := ⟨_, rfl⟩
  rw [← hw_]
  have hb : Below w1.heap.size w1 w3 := by rw [hw_]; exact bdrew (Below.refl _ _)
  clear hw_
  have hS := hb
  replace hcw := hcw.then_below hb
  replace hB := hB.bel hb
  replace hSn := hSn.bel hb
  replace hF := hF.bel hb
  replace hT := hT.bel hb
  replace hB2 := hB2.bel hb
  have hz_w3 := hb.size
  clear hb
  refine oY rfl (fun W_ hW_ => (X.move rfl)) rfl (oY rfl (fun W_ hW_ => (X.nilChk rfl)) rfl (oY rfl (fun W_ hW_ => (X.fa fa112_0 rfl)) rfl (oY rfl (fun W_ hW_ => (X.ldL rfl hW_.1 Tryz.underlying41 rfl rfl)) rfl (oY rfl (fun W_ hW_ => (X.move rfl)) rfl (oY rfl (fun W_ hW_ => (X.nilChk rfl)) rfl (oY rfl (fun W_ hW_ => (X.fa fa112_1 rfl)) rfl (oY rfl (fun W_ hW_ => (X.ldL rfl hW_.1 Tryz.underlying3 rfl rfl)) rfl (oY rfl (fun W_ hW_ => (X.move rfl)) rfl (oY rfl (fun W_ hW_ => (X.nilChk rfl)) rfl (oY rfl (fun W_ hW_ => (X.fa fa112_2 rfl)) rfl ?_))))))))))
  refine oY rfl (fun W_ hW_ => (X.ldL rfl hW_.1 Tryz.underlying92 rfl rfl)) rfl (oY rfl (fun W_ hW_ => (X.nilChk rfl)) rfl (oY rfl (fun W_ hW_ => (X.fa fa97_0 rfl)) rfl (oY rfl (fun W_ hW_ => (X.ldL rfl hW_.2 Tryz.underlying23 rfl rfl)) rfl (oY rfl (fun W_ hW_ => (X.lenL rfl rfl Tryz.underlying23)) rfl (oL rfl (fun Q_ hQ_ hP_ => (sc _ Tryz.func21 rfl (by kernel_rfl) rfl rfl ((Name_p x.n _ hT.pow).mono ?_))))))))
  rintro e_ w4 ⟨rfl, hb⟩
  refine cR ?_
  replace hcw := hcw.then_below hb
  replace hB := hB.bel hb
  replace hSn := hSn.bel hb
  replace hF := hF.bel hb
  replace hT := hT.bel hb
  replace hB2 := hB2.bel hb
  have hz_w4 := hb.size
  clear hb
  refine Wn (hQ_ _ _ (⟨hB, hSn.blk⟩) ?_)
  clear hQ_ hP_ Q_
  refine oL rfl (fun Q_ hQ_ hP_ => (sc _ Tryz.func53 rfl (by kernel_rfl) rfl rfl ((pfour_any _ _).mono ?_)))
  rintro e_ w5 ⟨rfl, hb⟩
  refine cR ?_
  replace hcw := hcw.then_below hb
  replace hB := hB.bel hb
  replace hSn := hSn.bel hb
  replace hF := hF.bel hb
  replace hT := hT.bel hb
  replace hB2 := hB2.bel hb
  have hz_w5 := hb.size
  clear hb
  refine Wn (hQ_ _ _ (⟨hB, hSn.blk⟩) ?_)
  clear hQ_ hP_ Q_
  refine oL rfl (fun Q_ hQ_ hP_ => (sc _ Tryz.func52 rfl (by kernel_rfl) rfl rfl ((Seal_any 3 (four (x.l.length : Int)) _ (by rw [four_length]; omega)).mono ?_)))
  rintro e_ w6 ⟨rfl, hb⟩
  refine cR ?_
  replace hcw := hcw.then_below hb
  replace hB := hB.bel hb
  replace hSn := hSn.bel hb
  replace hF := hF.bel hb
  replace hT := hT.bel hb
  replace hB2 := hB2.bel hb
  have hz_w6 := hb.size
  clear hb
  refine Wn (hQ_ _ _ (⟨hB, hSn.blk⟩) ?_)
  clear hQ_ hP_ Q_
  refine oL rfl (fun Q_ hQ_ hP_ => (sc _ Tryz.func51 rfl (by kernel_rfl) rfl rfl ((wdisk (Append_any gd D _ (nameP x.n) (footB x.l) _ hF.own.at_ hg.ok (hg.bud (by omega)) (by omega)) hB hSn hF hT hcw (fun k hk => .inl hk) hS1).mono ?_)))
  clear hB hSn hF hT
  rintro e_ w7 ⟨rfl, S1, hB, hSn, hF, hT, hS1, hX2, hcw, hz1_⟩
  refine cR (Wn (hQ_ _ _ (⟨hB, hSn.blk⟩) ?_))
  clear hQ_ hP_ Q_
  replace hB2 := hB2.chg hX2.2 (fun e => by have := hSlo g2 e; omega)
  have hS1x : ∀ k, S1 k → k ≠ g2 := fun k hk e => by rcases hX2.1 k hk with h | h; have := hSlo k h; omega; omega
  clear hX2
  obtain ⟨e1, D1, hap⟩ : ∃ e1 D1, appendM D (nameP x.n) (footB x.l) = (e1, D1) := ⟨_, _, rfl⟩
  rw [hap] at hF hg1 ⊢
  simp only at hF hg1 ⊢
  refine oY rfl (fun W_ hW_ => (X.assign rfl)) rfl (oN (nN (W_rs (sm rfl rfl (st (X.neq rfl rfl) rfl (Wn (tN (W_if rfl (fun h37 => ?_) (fun h37 => ?_)))))))))
  ·first | replace h37 := of_decide_eq_true h37 | replace h37 := of_decide_eq_false (notT h37) | replace h37 := notT h37 | skip
   rw [if_pos h37]
   refine W_rs (st (X.bld rfl (bidx0 _)) rfl (sm rfl rfl (ssBN rfl rfl hB2 siz25 rfl (by simp [Value.oneCell']) (fun w8 hB_ hc_ => ?_))))
   replace hB2 := hB_
   replace hB := hB.chg hc_ (by show ¬ gw = g2; omega)
   replace hSn := hSn.chg hc_ (by show ¬ gx = g2; omega) (by show ¬ gm = g2; omega) (fun k hk => by show ¬ k = g2; have := hv4 k hk; omega)
   replace hF := hF.chg hc_ (fun k hk => hS1x k hk)
   replace hcw := hcw.next hc_ (fun i hi => .inr (by omega))
   clear hB_ hc_
   refine sa rfl rfl (Wn (tN (W_ret (tR ?_))))
   exact (rCT rfl rfl hB2 Tryz.underlying25 rfl siz25 rfl ⟨_, _, S1, rfl, EntsAt.nil _, fun k hk => by simp [Value.ownBlock] at hk, ⟨hB, hSn, hF⟩, hS1, fun k hk => .inl hk, hcw⟩).1
  ·first | replace h37 := of_decide_eq_false h37 | replace h37 := of_decide_eq_true (notF h37) | replace h37 := notF h37 | skip
   rw [if_neg h37]
   refine W_skip (tN (W_seq (W_drsN (fun W_ => Blk W_ gw 112 #[.pointer (some ⟨gd, 0, none⟩), .int .i64 x.n, .pointer (some ⟨gx, 0, none⟩), .bool x.closed]) [0, 1, 2, 3, 4, 5, 6, 7, 8, 9, 10] [true, true, true, true, true, true, true, true, false, false, true] (by kernel_rfl) (by kernel_rfl) (hB.drew) ?_)))
   obtain ⟨w9, hw_⟩ : ∃ w9 : World, w9 = World.drew w7 := ⟨_, rfl⟩
   rw [← hw_]
   have hb : Below w7.heap.size w7 w9 := by rw [hw_]; exact bdrew (Below.refl _ _)
   clear hw_
   have hS := hb
   replace hcw := hcw.then_below hb
   replace hB := hB.bel hb
   replace hSn := hSn.bel hb
   replace hF := hF.bel hb
   replace hT := hT.bel hb
   replace hB2 := hB2.bel hb
   have hz_w9 := hb.size
   clear hb
   refine oY rfl (fun W_ hW_ => (X.move rfl)) rfl (oY rfl (fun W_ hW_ => (X.nilChk rfl)) rfl (oY rfl (fun W_ hW_ => (X.fa fa112_0 rfl)) rfl (oY rfl (fun W_ hW_ => (X.ldL rfl hW_ Tryz.underlying41 rfl rfl)) rfl (oY rfl (fun W_ hW_ => (X.move rfl)) rfl (oY rfl (fun W_ hW_ => (X.nilChk rfl)) rfl (oY rfl (fun W_ hW_ => (X.fa fa112_1 rfl)) rfl (oY rfl (fun W_ hW_ => (X.ldL rfl hW_ Tryz.underlying3 rfl rfl)) rfl (oL rfl (fun Q_ hQ_ hP_ => (sc _ Tryz.func21 rfl (by kernel_rfl) rfl rfl ((Name_p x.n _ hT.pow).mono ?_)))))))))))
   rintro e_ w10 ⟨rfl, hb⟩
   refine cR ?_
   replace hcw := hcw.then_below hb
   replace hB := hB.bel hb
   replace hSn := hSn.bel hb
   replace hF := hF.bel hb
   replace hT := hT.bel hb
   replace hB2 := hB2.bel hb
   have hz_w10 := hb.size
   clear hb
   refine Wn (hQ_ _ _ (hB) ?_)
   clear hQ_ hP_ Q_
   refine oL rfl (fun Q_ hQ_ hP_ => (sc _ Tryz.func54 rfl (by kernel_rfl) rfl rfl ((wdisk (Sync_any gd D1 _ (nameP x.n) _ hF.own.at_ hg1.ok) hB hSn hF hT hcw (fun k hk => .inl hk) hS1).mono ?_)))
   clear hB hSn hF hT
   rintro e_ w11 ⟨rfl, S2, hB, hSn, hF, hT, hS1, hX2, hcw, hz2_⟩
   refine cR (Wn (hQ_ _ _ (hB) ?_))
   clear hQ_ hP_ Q_
   replace hB2 := hB2.chg hX2.2 (fun e => hS1x g2 e rfl)
   have hS2x : ∀ k, S2 k → k ≠ g2 := fun k hk e => by rcases hX2.1 k hk with h | h; exact hS1x k h e; omega
   clear hX2
   obtain ⟨e2, D2, hsy⟩ : ∃ e2 D2, syncM D1 (nameP x.n) = (e2, D2) := ⟨_, _, rfl⟩
   rw [hsy] at hF ⊢
   simp only at hF ⊢
   refine oY rfl (fun W_ hW_ => (X.assign rfl)) rfl (oN (nN (W_rs (sm rfl rfl (st (X.neq rfl rfl) rfl (Wn (tN (W_if rfl (fun h51 => ?_) (fun h51 => ?_)))))))))
   ·first | replace h51 := of_decide_eq_true h51 | replace h51 := of_decide_eq_false (notT h51) | replace h51 := notT h51 | skip
    rw [if_pos h51]
    refine W_rs (st (X.bld rfl (bidx0 _)) rfl (sm rfl rfl (ssBN rfl rfl hB2 siz25 rfl (by simp [Value.oneCell']) (fun w12 hB_ hc_ => ?_))))
    replace hB2 := hB_
    replace hB := hB.chg hc_ (by show ¬ gw = g2; omega)
    replace hSn := hSn.chg hc_ (by show ¬ gx = g2; omega) (by show ¬ gm = g2; omega) (fun k hk => by show ¬ k = g2; have := hv4 k hk; omega)
    replace hF := hF.chg hc_ (fun k hk => hS2x k hk)
    replace hcw := hcw.next hc_ (fun i hi => .inr (by omega))
    clear hB_ hc_
    refine sa rfl rfl (Wn (tN (W_ret (tR ?_))))
    exact (rCT rfl rfl hB2 Tryz.underlying25 rfl siz25 rfl ⟨_, _, S2, rfl, EntsAt.nil _, fun k hk => by simp [Value.ownBlock] at hk, ⟨hB, hSn, hF⟩, hS1, fun k hk => .inl hk, hcw⟩).1
   ·first | replace h51 := of_decide_eq_false h51 | replace h51 := of_decide_eq_true (notF h51) | replace h51 := notF h51 | skip
    rw [if_neg h51]
    refine W_skip (tN (W_rs (sm rfl rfl (st (X.nilChk rfl) rfl (st (X.fa fa112_3 rfl) rfl ?_)))))
    have hap2 := hF.ap gw (.inl rfl)
    have hlM : gw ≠ gm := by obtain ⟨m, hM, _⟩ := hSn.map; exact hB.neM hM
    have hlX : gx ≠ gw := by
     rintro rfl
     have e1 : _ = _ := hB
     rw [show _ = _ from hSn.blk] at e1
     injection e1 with e1
     injection e1 with _ e1
     exact absurd e1 (by decide)
    have hlV : ∀ k, (Value.slice q x.l.length cq).ownBlock = some k → ¬ k = gw := fun k hk e => hSn.row.ne2 hB (by decide) k hk e
    refine ssB rfl rfl hB siz4 rfl (by simp) (fun w13 hB_ hc_ => ?_)
    replace hB := hB_
    replace hB2 := hB2.chg hc_ (by show ¬ g2 = gw; omega)
    replace hSn := hSn.chg hc_ (by show ¬ gx = gw; exact hlX) (by show ¬ gm = gw; exact fun e => hlM e.symm) (fun k hk => hlV k hk)
    replace hF := hF.chg hc_ (fun k hk => by show ¬ k = gw; rintro rfl; exact hap2.1 hk)
    replace hT := hT.chg hc_ (fun k hk => by have h1 : k = gw := hk; have := hap2.2; omega)
    replace hcw := hcw.next hc_ (fun i hi => .inl (.inr (.inl hi)))
    have hz_w13 := hc_.size
    clear hB_ hc_
    refine Wn (tN (W_rs (sm rfl rfl (st (X.nilChk rfl) rfl (st (X.fa fa112_2 rfl) rfl (st (X.ldL rfl hB Tryz.underlying92 rfl rfl) rfl ?_))))))
    have hlo2 := hF.own.lo
    refine sc _ Tryz.func43 rfl (by kernel_rfl) rfl rfl ((index_any gx gm _ _ _ hSn hl).mono ?_)
    rintro e_ w14 ⟨u, rfl, hE, hO, hb⟩
    refine cR ?_
    replace hcw := hcw.then_below hb
    replace hB := hB.bel hb
    replace hSn := hSn.bel hb
    replace hF := hF.bel hb
    replace hT := hT.bel hb
    replace hB2 := hB2.bel hb
    have hz_w14 := hb.size
    clear hb
    obtain ⟨am, cm, rfl⟩ : ∃ am cm, u = .slice am (makeM x.l).1.length cm := by obtain ⟨_, am, cm, e, _⟩ := hE; exact ⟨am, cm, e⟩
    refine ssBN rfl rfl hB2 siz25 rfl (by simp [Value.oneCell']) (fun w15 hB_ hc_ => ?_)
    replace hE := EntsAt.chgI hE (make_S32 h32) hB2 hc_
    replace hB2 := hB_
    replace hB := hB.chg hc_ (by show ¬ gw = g2; omega)
    replace hSn := hSn.chg hc_ (by show ¬ gx = g2; omega) (by show ¬ gm = g2; omega) (fun k hk => by show ¬ k = g2; have := hv4 k hk; omega)
    replace hF := hF.chg hc_ (fun k hk => hS2x k hk)
    replace hcw := hcw.next hc_ (fun i hi => .inr (by omega))
    clear hB_ hc_
    refine sa rfl rfl (Wn (tN (W_ret ((rCT rfl rfl hB2 Tryz.underlying25 rfl siz25 rfl ⟨_, _, S2, rfl, hE, fun k hk => ⟨by have := hO k hk; omega, fun e => by have := hO k hk; have := (hlo2 k e).2; omega⟩, ⟨hB, hSn, hF⟩, hS1, fun k hk => .inl hk, hcw⟩).1))))
end
end Go.Proofs.YtnlabkogebnioaaGreatDoor
namespace Go.Proofs.YtnlabkogebnioaaGreatDoor
open Go.RowKit Sha
theorem pzer_eq (n : Nat) : (madeCells (Value.int IntKind.u8 0).cells (n * 1)).toList = (List.replicate n (0 : UInt8)).map bv := by
 rw [Nat.mul_one]
 apply List.ext_getElem
 ·simp [madeCells]
 ·intro i h1 h2
  have e : (Value.int IntKind.u8 0).cells = #[Value.int IntKind.u8 0] := rfl
  simp [madeCells, e, Nat.mod_one, bv]
def EOk (l : List Ent) : Prop := ∀ e ∈ l, 0 ≤ e.pos ∧ e.pos ≤ 16777216 ∧ 1 ≤ e.len ∧ e.len ≤ 1024
theorem stepP_eok {n : Int} {s : List UInt8} {x y : Scn} (h : stepP n s x = some y) (hs : s.length ≤ 16777216) (hg : x.good ≤ s.length) (hx : EOk x.l) : EOk y.l := by
 unfold stepP at h
 split at h
 ·cases h
 split at h
 ·cases h
 unfold takeP at h
 split at h
 ·split at h
  ·rename_i h5
   have h6 := openB_len h5.1
   injection h with h; subst h
   intro e he
   rcases List.mem_append.1 he with he | he
   ·exact hx e he
   ·rw [List.mem_singleton.1 he]
    simp only [entP]
    omega
  ·cases h
 split at h
 ·split at h
  ·injection h with h; subst h
   exact hx
  ·cases h
 ·cases h
theorem scanPN_eok {n : Int} {s : List UInt8} (hs : s.length ≤ 16777216) : ∀ (k : Nat) {x : Scn}, SOk s n x → EOk x.l → EOk (scanPN n s k x).l
 | 0, _, _, hx => hx
 | k + 1, x, ho, hx => by
  rw [scanPN]
  cases h : stepP n s x with
  | none => exact hx
  | some y => exact scanPN_eok hs k (stepP_ok h ho) (stepP_eok h hs ho.g hx)
theorem scanP_eok {s : List UInt8} (hs : s.length ≤ 16777216) (n : Int) : EOk (scanP s n).1.l := by
 unfold scanP
 split
 ·intro e he; cases he
 split
 ·intro e he; cases he
 ·rename_i h1 h2
  exact scanPN_eok hs _ (SOk.start (by simpa using h2)) (fun e he => by cases he)
section
variable {B gd gp gx gm : Nat} {w : World} {D : DiskD} {n : Int} {x : Scn} {v : Value} {S : Nat → Prop}
def pgetR (e : Ent) (a : List UInt8) (r : List UInt8 × Int) : List UInt8 × Int := if r.2 = 1 then ([], 35) else if r.2 ≠ 0 then ([], r.2) else gotM e.len a r.1
theorem pget_none {l : List Ent} {a : List UInt8} (h : findM l a = none) : pgetM D n l a = ([], 15) := by unfold pgetM; rw [h]
theorem readM_some {k : Key} {f : FileD} (h : mget D.files k = some f) {p q : Int} (hp : 0 ≤ p) (hq : 0 ≤ q) : readM D k p q = if (f.now.length : Int) < p then ([], 1) else ((f.now.drop p.toNat).take q.toNat, 0) := by
 unfold readM
 rw [h]
 show (if _ then _ else _) = _
 by_cases hl : (f.now.length : Int) < p
 ·rw [if_pos hl, if_pos (by omega)]
 ·rw [if_neg hl, if_neg (by omega)]
theorem readM_none {k : Key} (h : mget D.files k = none) (p q : Int) : readM D k p q = ([], 15) := by
 unfold readM
 rw [h]
theorem readM_len (hok : DOk D) (k : Key) (p q : Int) : (readM D k p q).1.length ≤ 16777216 := by
 unfold readM
 cases hm : mget D.files k with
 | none => simp
 | some f =>
  have := (hok.len hm).1
  show (if _ then _ else _ : List UInt8 × Int).1.length ≤ _
  split
  ·simp
  ·simp only [List.length_take, List.length_drop]
   omega
theorem pget_read {l : List Ent} {a : List UInt8} {e : Ent} (h : findM l a = some e) (hp : 0 ≤ e.pos) : pgetM D n l a = pgetR e a (readM D (nameP n) e.pos (longM e.len.toNat)) := by
 unfold pgetM pgetR
 rw [h]
 cases hm : mget D.files (nameP n) with
 | none =>
  rw [readM_none hm]
  rfl
 | some f =>
  rw [readM_some hm hp (by omega)]
  simp only
  by_cases hl : (f.now.length : Int) < e.pos
  ·rw [if_pos hl, if_pos hl]
   rfl
  ·rw [if_neg hl, if_neg hl]
   rfl
set_option maxRecDepth 10000 in
theorem pget_any (a : List UInt8) (h : PakAt w gd gp gx gm v n x) (hd : DiskAt w gd D S) (hok : DOk D) (hT : PTabs B w) (ha : a.length = 32) (he : EOk x.l) :
  Calls Tryz.prog 23 #[.pointer (some ⟨gp, 0, none⟩), .agg (a.map bv).toArray] w fun e w' => e = .returned (.tuple #[str (pgetM D n x.l a).1, .int .i64 (pgetM D n x.l a).2]) ∧ Below w.heap.size w w' := by
 have hB : Blk w gp 119 #[.pointer (some ⟨gd, 0, none⟩), .int .i64 n, .pointer (some ⟨gx, 0, none⟩)] := h.blk
 have hSn := h.scn
 have h32 := hSn.s32
 obtain ⟨m, hM, hm⟩ := hSn.map
 have hRow : Row w 66 35 v x.l.length (x.l.flatMap Ent.cells) := hSn.row
 obtain ⟨q, cq, rfl, hq1, hq2⟩ := hRow.shape
 clear hRow h
 refine W_enter (args := [.pointer (some ⟨gp, 0, none⟩), .agg (a.map bv).toArray]) 108 Tryz.func23 rfl rfl rfl (W_sub [(0, .pointer (some ⟨gp, 0, none⟩)), (1, .agg (a.map bv).toArray)] ?_ ⟨rfl, rfl, trivial⟩)
 have hbw := Below.refl w.heap.size w
 refine W_rs (sboxA rfl rfl (fun g3 w1 hB3 hg3 hb hl3 => ?_))
 replace hbw := bthen hbw hb
 have hz_w1 := hb.size
 clear hb
 refine sa rfl rfl (sa rfl rfl (Wn (tN (W_seq (W_rs (sm rfl rfl (st (X.kEq rfl) rfl (Wn (tN (W_no rfl (rfl) ?_))))))))))
 refine W_skip (tN ?_)
 have hBp := hB.bel hbw
 have hXp : Blk _ gx 97 #[.slice q x.l.length cq, .map (some gm), .int .i64 x.good, .bool x.whole] := (hSn.bel hbw).blk
 have h3p := hB3
 refine W_drsN (fun W_ => Below w1.heap.size w1 W_) [0, 1, 2, 3, 4, 5, 6, 7, 8, 9, 10, 11, 12, 13] [true, true, true, true, true, true, true, true, false, true, true, true, true, true] (by kernel_rfl) (by kernel_rfl) (bdrew (Below.refl _ _)) ?_
 obtain ⟨w2, hw_⟩ : ∃ w2 : World, w2 = World.drew w1 := ⟨_, rfl⟩
 rw [← hw_]
 have hb : Below w1.heap.size w1 w2 := by rw [hw_]; exact bdrew (Below.refl _ _)
 clear hw_
 have hS := hb
 replace hbw := bthen hbw hb
 replace hB3 := hB3.bel hb
 have hz_w2 := hb.size
 clear hb
 refine oY rfl (fun W_ hW_ => (X.move rfl)) rfl (oY rfl (fun W_ hW_ => (X.nilChk rfl)) rfl (oY rfl (fun W_ hW_ => (X.fa fa119_2 rfl)) rfl (oY rfl (fun W_ hW_ => (X.ldL rfl (hBp.bel hW_) Tryz.underlying92 rfl rfl)) rfl (oY rfl (fun W_ hW_ => (X.nilChk rfl)) rfl (oY rfl (fun W_ hW_ => (X.fa fa97_1 rfl)) rfl (oY rfl (fun W_ hW_ => (X.ldL rfl (hXp.bel hW_) Tryz.underlying95 rfl rfl)) rfl (oY rfl (fun W_ hW_ => (X.ldBN rfl (h3p.bel hW_) Tryz.underlying60 rfl (by rw [sumSize ha]; exact siz60))) rfl ?_)))))))
 refine oL rfl (fun Q_ hQ_ hP_ => (st (X.lookOk (z := .int .i64 0) keySum rfl ⟨a, ha⟩ rfl Tryz.underlying95 (by kernel_rfl) (hM.bel hbw)) rfl (Wn (hQ_ _ _ hS ?_))))
 clear hQ_ hP_ Q_
 refine oY rfl (fun W_ hW_ => (X.move rfl)) rfl (oY rfl (fun W_ hW_ => (X.ext rfl rfl)) rfl (oY rfl (fun W_ hW_ => (X.ext rfl rfl)) rfl (oY rfl (fun W_ hW_ => (X.assign rfl)) rfl (oY rfl (fun W_ hW_ => (X.assign rfl)) rfl ?_))))
 clear hBp hXp h3p
 refine oN (nN (W_seq (W_rs (sm rfl rfl (st (X.not rfl) rfl (Wn (tN (W_if rfl (fun h33 => ?_) (fun h33 => ?_)))))))))
 ·first | replace h33 := of_decide_eq_true h33 | replace h33 := of_decide_eq_false (notT h33) | replace h33 := notT h33 | skip
  refine W_rs (sa rfl rfl (sa rfl rfl (Wn (tN (W_ret (tR ?_))))))
  have hgn : mget m (⟨a, ha⟩ : Sum32) = none := by cases hg : mget m (⟨a, ha⟩ : Sum32) with | none => rfl | some z => rw [hg] at h33; simp at h33
  have hfn : findM x.l a = none := (has_none hm hgn).1
  exact (rTT rfl rfl rfl ⟨by rw [pget_none hfn]; rfl, hbw⟩).1
 ·first | replace h33 := of_decide_eq_false h33 | replace h33 := of_decide_eq_true (notF h33) | replace h33 := notF h33 | skip
  obtain ⟨i, hgi⟩ : ∃ i, mget m (⟨a, ha⟩ : Sum32) = some i := by cases hg : mget m (⟨a, ha⟩ : Sum32) with | none => rw [hg] at h33; simp at h33 | some z => exact ⟨z, rfl⟩
  obtain ⟨j, en, rfl, hj, hes, hfi⟩ := has_get hm hM.nodup hgi
  have hfi : findM x.l a = some en := hfi
  have hen : en.sum.length = 32 := h32 en (List.mem_of_getElem? hj)
  obtain ⟨hp0, hp1, hn0, hn1⟩ := he en (List.mem_of_getElem? hj)
  have hjl : j < x.l.length := (List.getElem?_eq_some_iff.1 hj).1
  rw [hgi, pget_read hfi hp0]
  obtain ⟨ln, hln⟩ : ∃ ln : Nat, en.len = ln := ⟨en.len.toNat, by omega⟩
  have hRr := hSn.row.reads
  obtain ⟨g1, o1, c', hvv, hg1⟩ := hRr.some_ (by show 0 < x.l.length; omega)
  injection hvv with e1 _ e3
  subst e1 e3
  have hRg := EntsAt.range (l := x.l) (hRr.bel hbw) h32 hj
  clear hRr
  refine W_skip (tN (W_rs (sm rfl rfl (st (X.nilChk rfl) rfl (st (X.fa fa119_2 rfl) rfl (st (X.ldL rfl (hB.bel hbw) Tryz.underlying92 rfl rfl) rfl (st (X.nilChk rfl) rfl (st (X.fa fa97_0 rfl) rfl (st (X.ldL rfl (hSn.bel hbw).blk Tryz.underlying23 rfl rfl) rfl (sm rfl rfl ?_))))))))))
  refine st (X.idxA rfl rfl Tryz.underlying23 siz66 rfl hjl) rfl (st (X.ldN (cs := en.cells) rfl Tryz.underlying66 rfl (by rw [Ent.cells_length hen]; exact siz66) hRg) rfl ?_)
  refine salA inf66 rfl (fun g8 w3 hB8 hg8 hb hl8 => ?_)
  replace hbw := bthen hbw hb
  replace hB3 := hB3.bel hb
  have hz_w3 := hb.size
  clear hb
  refine ssBN rfl rfl hB8 (by rw [Ent.size hen]; exact siz66) (by rw [Ent.size hen]; rfl) (Ent.cells_one en) (fun w4 hB_ hc_ => ?_)
  replace hB8 := hB_
  replace hB3 := hB3.chg hc_ (by show ¬ g3 = g8; omega)
  replace hbw := bset hbw hc_ (by omega)
  have hz_w4 := hc_.size
  clear hB_ hc_
  refine Wn (tN (W_rs (st (X.fa fa66_3 rfl) rfl (st (X.ldB rfl hB8 Tryz.underlying3 rfl (Ent.cell_ hen 2 _ rfl)) rfl ?_))))
  rw [hln]
  refine st (X.add64 rfl rfl (by omega)) rfl (smk (q := 32 + ln) rfl rfl (show 32 + (ln : Int) = ((32 + ln : Nat) : Int) by omega) (show 32 + (ln : Int) = ((32 + ln : Nat) : Int) by omega) Tryz.underlying123 inf5 (by omega) (by simp only [maxLen]; omega) rfl (fun g47 w5 hR47 hg47 hb => ?_))
  replace hB3 := hB3.bel hb
  replace hB8 := hB8.bel hb
  replace hbw := bthen hbw hb
  have hz_w5 := hb.size
  rw [pzer_eq] at hR47
  clear hb
  refine st (X.strOf (s := List.replicate (32 + ln) 0) rfl Tryz.underlying123 Tryz.underlying5 Tryz.underlying9 hR47.reads) rfl (sc _ Tryz.func52 rfl (by kernel_rfl) rfl rfl ((Seal_any 2 (List.replicate (32 + ln) 0) _ (by rw [List.length_replicate]; omega)).mono ?_))
  rintro e_ w6 ⟨rfl, hb⟩
  refine cR ?_
  replace hbw := bthen hbw hb
  replace hB3 := hB3.bel hb
  replace hB8 := hB8.bel hb
  have hz_w6 := hb.size
  clear hb
  refine st (X.lenS rfl rfl Tryz.underlying9) rfl (sa rfl rfl (Wn (tN ?_)))
  have hBp := hB.bel hbw
  have h8p := hB8
  refine W_drsN (fun W_ => Below w6.heap.size w6 W_) [0, 1, 2, 3, 4, 5, 6, 7, 9, 10, 11, 8, 12, 13, 14, 15, 16, 17] [true, true, true, true, true, true, true, true, true, true, true, false, false, true, true, true, true, true] (by kernel_rfl) (by kernel_rfl) (bdrew (Below.refl _ _)) ?_
  obtain ⟨w7, hw_⟩ : ∃ w7 : World, w7 = World.drew w6 := ⟨_, rfl⟩
  rw [← hw_]
  have hb : Below w6.heap.size w6 w7 := by rw [hw_]; exact bdrew (Below.refl _ _)
  clear hw_
  have hS := hb
  replace hbw := bthen hbw hb
  replace hB3 := hB3.bel hb
  replace hB8 := hB8.bel hb
  have hz_w7 := hb.size
  clear hb
  refine oY rfl (fun W_ hW_ => (X.move rfl)) rfl (oY rfl (fun W_ hW_ => (X.nilChk rfl)) rfl (oY rfl (fun W_ hW_ => (X.fa fa119_0 rfl)) rfl (oY rfl (fun W_ hW_ => (X.ldL rfl (hBp.bel hW_) Tryz.underlying41 rfl rfl)) rfl (oY rfl (fun W_ hW_ => (X.move rfl)) rfl (oY rfl (fun W_ hW_ => (X.nilChk rfl)) rfl (oY rfl (fun W_ hW_ => (X.fa fa119_1 rfl)) rfl (oY rfl (fun W_ hW_ => (X.ldL rfl (hBp.bel hW_) Tryz.underlying3 rfl rfl)) rfl (oY rfl (fun W_ hW_ => (X.fa fa66_2 rfl)) rfl (oY rfl (fun W_ hW_ => (X.ldB rfl (h8p.bel hW_) Tryz.underlying3 rfl (Ent.cell_ hen 1 _ rfl))) rfl (oY rfl (fun W_ hW_ => (X.move rfl)) rfl ?_))))))))))
  refine oL rfl (fun Q_ hQ_ hP_ => (sc _ Tryz.func21 rfl (by kernel_rfl) rfl rfl ((Name_p n _ (hT.bel hbw).pow).mono ?_)))
  rintro e_ w8 ⟨rfl, hb⟩
  refine cR ?_
  replace hS := bthen hS hb
  replace hbw := bthen hbw hb
  replace hB3 := hB3.bel hb
  replace hB8 := hB8.bel hb
  have hz_w8 := hb.size
  clear hb
  refine Wn (hQ_ _ _ hS ?_)
  clear hQ_ hP_ Q_
  refine oL rfl (fun Q_ hQ_ hP_ => (sc _ Tryz.func60 rfl (by kernel_rfl) rfl rfl ((Read_any gd D S (nameP n) en.pos (longM ln) _ (hd.bel hbw) hok).mono ?_)))
  rintro e_ w9 ⟨rfl, hb⟩
  refine cR ?_
  replace hS := bthen hS hb
  replace hbw := bthen hbw hb
  replace hB3 := hB3.bel hb
  replace hB8 := hB8.bel hb
  have hz_w9 := hb.size
  clear hb
  refine Wn (hQ_ _ _ hS ?_)
  clear hQ_ hP_ Q_
  refine oY rfl (fun W_ hW_ => (X.move rfl)) rfl (oY rfl (fun W_ hW_ => (X.ext rfl rfl)) rfl (oY rfl (fun W_ hW_ => (X.ext rfl rfl)) rfl (oY rfl (fun W_ hW_ => (X.assign rfl)) rfl (oY rfl (fun W_ hW_ => (X.assign rfl)) rfl (oN (nN (W_seq (W_block (W_rs ?_)))))))))
  rw [Int.toNat_natCast]
  have hrl := readM_len hok (nameP n) en.pos (longM ln)
  obtain ⟨r, hr⟩ : ∃ r, readM D (nameP n) en.pos (longM ln) = r := ⟨_, rfl⟩
  rw [hr] at hrl ⊢
  refine sm rfl rfl (st (X.eql rfl rfl) rfl (sa rfl rfl (Wn (tN (W_if rfl (fun h67 => ?_) (fun h67 => ?_))))))
  ·first | replace h67 := of_decide_eq_true h67 | replace h67 := of_decide_eq_false (notT h67) | replace h67 := notT h67 | skip
   refine W_rs (sa rfl rfl (sa rfl rfl (Wn (tN (W_ret (bR (tR ?_)))))))
   exact (rTT rfl rfl rfl ⟨by unfold pgetR; rw [if_pos h67]; rfl, hbw⟩).1
  ·first | replace h67 := of_decide_eq_false h67 | replace h67 := of_decide_eq_true (notF h67) | replace h67 := notF h67 | skip
   refine W_rs (sm rfl rfl (st (X.neq rfl rfl) rfl (sa rfl rfl (Wn (tN (W_if rfl (fun h70 => ?_) (fun h70 => ?_)))))))
   ·first | replace h70 := of_decide_eq_true h70 | replace h70 := of_decide_eq_false (notT h70) | replace h70 := notT h70 | skip
    refine W_rs (sm rfl rfl (sa rfl rfl (sa rfl rfl (Wn (tN (W_ret (bR (tR ?_))))))))
    exact (rTT rfl rfl rfl ⟨by unfold pgetR; rw [if_neg h67, if_pos h70]; rfl, hbw⟩).1
   ·first | replace h70 := of_decide_eq_false h70 | replace h70 := of_decide_eq_true (notF h70) | replace h70 := notF h70 | skip
    have hpg : pgetR en a r = gotM en.len a r.1 := by unfold pgetR; rw [if_neg h67, if_neg h70]
    rw [hpg]
    have hbl := nextM_body r.1
    refine W_skip (bN (tN (W_rs (sm rfl rfl (sc _ Tryz.func61 rfl (by kernel_rfl) rfl rfl ((Next_any r.1 _ (by omega)).mono ?_))))))
    rintro e_ w10 ⟨rfl, hb⟩
    refine cR ?_
    replace hbw := bthen hbw hb
    replace hB3 := hB3.bel hb
    replace hB8 := hB8.bel hb
    have hz_w10 := hb.size
    clear hb
    refine sm rfl rfl (st (X.ext rfl rfl) rfl (st (X.ext rfl rfl) rfl (st (X.ext rfl rfl) rfl (st (X.ext rfl rfl) rfl (sa rfl rfl (sa rfl rfl (sa rfl rfl (sa rfl rfl (Wn (tN ?_))))))))))
    refine W_seq (W_rs (sm rfl rfl (st (X.neq rfl rfl) rfl (sb rfl rfl (fun h83 => ?_) (fun h83 => ?_)))))
    ·first | replace h83 := of_decide_eq_true h83 | replace h83 := of_decide_eq_false (notT h83) | replace h83 := notT h83 | skip
     refine gN (g := 83) rfl rfl rfl rfl (gN (g := 83) rfl rfl rfl rfl (st (X.pickT rfl rfl) rfl (Wn (tN (W_yes rfl (rfl) (W_rs (sa rfl rfl (sa rfl rfl (Wn (tN ?_))))))))))
     refine W_ret (tR ?_)
     exact (rTT rfl rfl rfl ⟨by unfold gotM; rw [if_pos (.inl h83)]; rfl, hbw⟩).1
    ·first | replace h83 := of_decide_eq_false h83 | replace h83 := of_decide_eq_true (notF h83) | replace h83 := notF h83 | skip
     refine gY (g := 83) rfl rfl rfl (sm rfl rfl (gY (g := 83) rfl rfl rfl (st (X.neq rfl rfl) rfl (st (X.pickF rfl rfl) rfl (Wn (tN (W_if rfl (fun h86 => ?_) (fun h86 => ?_))))))))
     ·first | replace h86 := of_decide_eq_true h86 | replace h86 := of_decide_eq_false (notT h86) | replace h86 := notT h86 | skip
      have hk : (nextM r.1).1 ≠ 2 := fun e => by rw [e] at h86; exact h86 rfl
      refine W_rs (sa rfl rfl (sa rfl rfl (Wn (tN (W_ret (tR ?_))))))
      exact (rTT rfl rfl rfl ⟨by unfold gotM; rw [if_pos (.inr hk)]; rfl, hbw⟩).1
     ·first | replace h86 := of_decide_eq_false h86 | replace h86 := of_decide_eq_true (notF h86) | replace h86 := notF h86 | skip
      have hk : ¬ ((nextM r.1).2.2.2 ≠ 0 ∨ (nextM r.1).1 ≠ 2) := by rintro (e | e); exact h83 e; exact e (UInt8.toNat.inj (by show (nextM r.1).1.toNat = 2; omega))
      refine W_skip (tN (W_rs (sm rfl rfl (sc _ Tryz.func62 rfl (by kernel_rfl) rfl rfl ((opened_any (nextM r.1).2.1 _ (hT.bel hbw).sha (by omega)).mono ?_)))))
      rintro e_ w11 ⟨a2, d2, ok, rfl, ha2, hok2, hal2, hb⟩
      refine cR ?_
      replace hbw := bthen hbw hb
      replace hB3 := hB3.bel hb
      replace hB8 := hB8.bel hb
      have hz_w11 := hb.size
      clear hb
      refine sm rfl rfl (st (X.ext rfl rfl) rfl (st (X.ext rfl rfl) rfl (st (X.ext rfl rfl) rfl (salA inf60 rfl (fun g15 w12 hB15 hg15 hb hl15 => ?_)))))
      replace hbw := bthen hbw hb
      replace hB3 := hB3.bel hb
      replace hB8 := hB8.bel hb
      have hz_w12 := hb.size
      clear hb
      refine ssBN rfl rfl hB15 (by rw [sumSize ha2]; exact siz60) (by rw [sumSize ha2]; rfl) (sumOne _) (fun w13 hB_ hc_ => ?_)
      replace hB15 := hB_
      replace hB8 := hB8.chg hc_ (by show ¬ g8 = g15; omega)
      replace hB3 := hB3.chg hc_ (by show ¬ g3 = g15; omega)
      replace hbw := bset hbw hc_ (by omega)
      clear hB_ hc_
      refine sa rfl rfl (sa rfl rfl (Wn (tN (W_seq (W_rs (sm rfl rfl (st (X.not rfl) rfl (sb rfl rfl (fun h95 => ?_) (fun h95 => ?_)))))))))
      ·first | replace h95 := of_decide_eq_true h95 | replace h95 := of_decide_eq_false (notT h95) | replace h95 := notT h95 | skip
       refine gN (g := 95) rfl rfl rfl rfl (gN (g := 95) rfl rfl rfl rfl (gN (g := 95) rfl rfl rfl rfl (st (X.pickT rfl rfl) rfl (sm rfl rfl (gN (g := 100) rfl rfl rfl rfl (gN (g := 100) rfl rfl rfl rfl (gN (g := 100) rfl rfl rfl rfl (gN (g := 100) rfl rfl rfl rfl (gN (g := 100) rfl rfl rfl rfl (st (X.pickT rfl rfl) rfl ?_))))))))))
       refine Wn (tN (W_yes rfl (rfl) (W_rs (sa rfl rfl (sa rfl rfl (Wn (tN (W_ret (tR ?_)))))))))
       exact (rTT rfl rfl rfl ⟨by unfold gotM; rw [if_neg hk, if_neg (by rw [← hok2, h95]; simp)]; rfl, hbw⟩).1
      ·first | replace h95 := of_decide_eq_false h95 | replace h95 := of_decide_eq_true (notF h95) | replace h95 := notF h95 | skip
       obtain ⟨e1, e2⟩ := hal2 h95
       subst e1 e2
       refine gY (g := 95) rfl rfl rfl (st (X.ldBN rfl hB15 Tryz.underlying60 rfl (by rw [sumSize ha2]; exact siz60)) rfl ?_)
       refine gY (g := 95) rfl rfl rfl (st (X.ldBN rfl hB3 Tryz.underlying60 rfl (by rw [sumSize ha]; exact siz60)) rfl ?_)
       refine gY (g := 95) rfl rfl rfl (st (X.neSumF ha2 ha rfl rfl) rfl (st (X.pickF rfl rfl) rfl (sb rfl rfl (fun h100 => ?_) (fun h100 => ?_))))
       ·first | replace h100 := of_decide_eq_true h100 | replace h100 := of_decide_eq_false (notT h100) | replace h100 := notT h100 | skip
        refine gN (g := 100) rfl rfl rfl rfl (gN (g := 100) rfl rfl rfl rfl (gN (g := 100) rfl rfl rfl rfl (gN (g := 100) rfl rfl rfl rfl (gN (g := 100) rfl rfl rfl rfl (st (X.pickT rfl rfl) rfl (Wn (tN (W_yes rfl (rfl) (W_rs (sa rfl rfl ?_))))))))))
        refine sa rfl rfl (Wn (tN (W_ret (tR ?_))))
        exact (rTT rfl rfl rfl ⟨by unfold gotM; rw [if_neg hk, if_neg (by rintro ⟨_, e, _⟩; rw [e] at h100; simp at h100)]; rfl, hbw⟩).1
       ·first | replace h100 := of_decide_eq_false h100 | replace h100 := of_decide_eq_true (notF h100) | replace h100 := notF h100 | skip
        refine gY (g := 100) rfl rfl rfl (sm rfl rfl (gY (g := 100) rfl rfl rfl (st (X.lenS rfl rfl Tryz.underlying9) rfl (gY (g := 100) rfl rfl rfl (st (X.fa fa66_3 rfl) rfl (gY (g := 100) rfl rfl rfl (st (X.ldB rfl hB8 Tryz.underlying3 rfl (Ent.cell_ hen 2 _ rfl)) rfl (gY (g := 100) rfl rfl rfl (st (X.neq rfl rfl) rfl (st (X.pickF rfl rfl) rfl ?_))))))))))
        refine Wn (tN (W_if rfl (fun h106 => ?_) (fun h106 => ?_)))
        ·first | replace h106 := of_decide_eq_true h106 | replace h106 := of_decide_eq_false (notT h106) | replace h106 := notT h106 | skip
         refine W_rs (sa rfl rfl (sa rfl rfl (Wn (tN (W_ret (tR ?_))))))
         exact (rTT rfl rfl rfl ⟨by unfold gotM; rw [if_neg hk, if_neg (by rintro ⟨_, _, e⟩; rw [List.length_drop] at h106; omega)]; rfl, hbw⟩).1
        ·first | replace h106 := of_decide_eq_false h106 | replace h106 := of_decide_eq_true (notF h106) | replace h106 := notF h106 | skip
         refine W_skip (tN (W_rs (sm rfl rfl (sa rfl rfl (sa rfl rfl (Wn (tN (W_ret ?_))))))))
         exact (rTT rfl rfl rfl ⟨by unfold gotM; rw [if_neg hk, if_pos ⟨by rw [← hok2]; exact h95, by simpa using h100, by rw [List.length_drop] at h106; have := openB_len (by rw [← hok2]; exact h95 : openB (nextM r.1).2.1 = true); omega⟩], hbw⟩).1
end
end Go.Proofs.YtnlabkogebnioaaGreatDoor
namespace Go.Proofs.YtnlabkogebnioaaGreatDoor
open Go.RowKit
def Consec : Nat → List (Nat × List UInt8) → Prop
  | _, [] => True
  | n, p :: l => p.1 = n ∧ Consec (n + p.2.length) l
def flatP : List (Nat × List UInt8) → List UInt8
  | [] => []
  | p :: l => p.2 ++ flatP l
theorem flatP_length (l : List (Nat × List UInt8)) : (flatP l).length = pendLen l := by
 induction l with
 | nil => rfl
 | cons p l ih => simp only [flatP, pendLen, List.length_append, ih]
theorem flatP_append (l m : List (Nat × List UInt8)) : flatP (l ++ m) = flatP l ++ flatP m := by
 induction l with
 | nil => rfl
 | cons p l ih => simp only [List.cons_append, flatP, ih, List.append_assoc]
theorem Consec.snoc : ∀ {l : List (Nat × List UInt8)} {n : Nat} {d : List UInt8}, Consec n l → Consec n (l ++ [(n + pendLen l, d)])
 | [], _, _, _ => ⟨rfl, trivial⟩
 | p :: l, n, d, h => ⟨h.1, by
  have := Consec.snoc (d := d) h.2
  rwa [show n + p.2.length + pendLen l = n + (p.2.length + pendLen l) by omega] at this⟩
structure LastsAt (D : DiskD) (k : Key) (lim : Int) (s all : List UInt8) : Prop where
  ex : ∃ f, D.files = [(k, f)] ∧ f.last = s ∧ f.now = s ++ all ∧ Consec s.length f.pend ∧ flatP f.pend = all
  limit : D.limit = lim
  used : D.used = (s ++ all).length
  stops : D.stops = false
section
variable {D : DiskD} {s all d : List UInt8} {k b : Key} {lim : Int}
theorem mget_one {ν : Type} (k : Key) (f : ν) : mget [(k, f)] k = some f := if_pos rfl
theorem sput_one (k : Key) (f g : FileD) : sput [(k, f)] k g = [(k, g)] := if_pos rfl
theorem LastsAt.op (h : LastsAt D k lim s all) (c : DiskD → Int × DiskD) : opM D c = c D := by
 unfold opM tickM
 rw [if_neg (by rw [h.stops]; simp), if_neg (by rw [h.stops]; simp)]
theorem LastsAt.append (h : LastsAt D k lim s all) (hl : ((s ++ all).length : Int) + d.length ≤ lim) : (appendM D k d).1 = 0 ∧ LastsAt (appendM D k d).2 k lim s (all ++ d) := by
 obtain ⟨f, hf, h1, h2, h3, h4⟩ := h.ex
 unfold appendM
 rw [h.op, fileM_some (f := f) (by rw [hf]; exact mget_one _ _)]
 unfold putM
 split
 ·rename_i hd
  subst hd
  rw [List.append_nil]
  exact ⟨rfl, h⟩
 ·have hm : moreM f f.now.length d = d.length := by unfold moreM; omega
  rw [if_neg (by rw [hm, h.limit, h.used]; omega)]
  refine ⟨rfl, ⟨⟨laidM f f.now.length d, by rw [hf]; exact sput_one _ _ _, h1, ?_, ?_, ?_⟩, h.limit, ?_, h.stops⟩⟩
  ·show overM f.now f.now.length d = _
   rw [overM_end, h2, List.append_assoc]
  ·show Consec s.length (f.pend ++ [(f.now.length, d)])
   have := h3.snoc (d := d)
   rw [← flatP_length, h4] at this
   rw [h2, List.length_append]
   exact this
  ·show flatP (f.pend ++ [(f.now.length, d)]) = _
   rw [flatP_append, h4]
   simp [flatP]
  ·show D.used + _ = _
   rw [hm, h.used, ← List.append_assoc]
   simp only [List.length_append]
   omega
theorem LastsAt.sync (h : LastsAt D k lim s all) : LastsAt (syncM D k).2 k lim (s ++ all) [] := by
 obtain ⟨f, hf, h1, h2, h3, h4⟩ := h.ex
 unfold syncM
 rw [h.op, fileM_some (f := f) (by rw [hf]; exact mget_one _ _)]
 refine ⟨⟨lastsM f, by rw [hf]; exact sput_one _ _ _, h2, ?_, trivial, rfl⟩, h.limit, ?_, h.stops⟩
 ·show f.now = _
  rw [List.append_nil, h2]
 ·show D.used = _
  rw [List.append_nil, h.used]
theorem LastsAt.new (hk : nameOk k = true) : (createM (newM lim) k).1 = 0 ∧ LastsAt (createM (newM lim) k).2 k lim [] [] := by
 have h : createM (newM lim) k = (0, ⟨[(k, newFile)], lim, 0, 0, false, 0⟩) := by
  unfold createM opM
  rw [if_neg (by simp [newM])]
  show (if nameOk k = true then _ else _) = _
  rw [if_pos hk]
  rfl
 rw [h]
 exact ⟨rfl, ⟨newFile, rfl, rfl, rfl, trivial, rfl⟩, rfl, rfl, rfl⟩
end
end Go.Proofs.YtnlabkogebnioaaGreatDoor
namespace Go.Proofs.YtnlabkogebnioaaGreatDoor
open Go.RowKit Sha
def wents (n : Int) : Nat → List (List UInt8) → List Ent
  | _, [] => []
  | p, d :: l => ⟨sha d, n, p, d.length⟩ :: wents n (p + (chunkB d).length) l
def chunksB (l : List (List UInt8)) : List UInt8 := l.flatMap chunkB
theorem wents_length (n : Int) : ∀ (p : Nat) (l : List (List UInt8)), (wents n p l).length = l.length
 | _, [] => rfl
 | p, d :: l => by rw [wents, List.length_cons, wents_length n _ l, List.length_cons]
theorem wents_sums (n : Int) : ∀ (p : Nat) (l : List (List UInt8)), (wents n p l).map (·.sum) = l.map sha
 | _, [] => rfl
 | p, d :: l => by rw [wents, List.map_cons, wents_sums n _ l, List.map_cons]
theorem wents_snoc (n : Int) (d : List UInt8) : ∀ (p : Nat) (l : List (List UInt8)), wents n p (l ++ [d]) = wents n p l ++ [⟨sha d, n, ((p + (chunksB l).length : Nat) : Int), d.length⟩]
 | p, [] => by simp [wents, chunksB]
 | p, c :: l => by
  rw [List.cons_append, wents, wents, wents_snoc n d _ l, List.cons_append]
  simp only [chunksB, List.flatMap_cons, List.length_append]
  rw [Nat.add_assoc]
def DOkC (d : List UInt8) : Prop := d ≠ [] ∧ d.length ≤ 1024
theorem nextM_chunk {d : List UInt8} (hd : DOkC d) (t : List UInt8) : nextM (chunkB d ++ t) = (2, sha d ++ d, (chunkB d).length, 0) := nextM_seal t (by decide) (by rw [List.length_append, sha_length]; have := hd.2; omega)
theorem openB_sha {d : List UInt8} (hd : DOkC d) : openB (sha d ++ d) = true := by
 unfold openB
 rw [decide_eq_true_eq, List.length_append, sha_length, List.drop_left' (sha_length d), List.take_left' (sha_length d)]
 have := List.length_pos_iff.2 hd.1
 exact ⟨by omega, by have := hd.2; omega, rfl⟩
theorem chunkB_ge {d : List UInt8} (hd : DOkC d) : 38 ≤ (chunkB d).length := by
 unfold chunkB
 have := List.length_pos_iff.2 hd.1
 rw [seal_length (by decide) (by rw [List.length_append, sha_length]; have := hd.2; omega), List.length_append, sha_length]
 omega
theorem step_chunk {n : Int} {pre t d : List UInt8} {x : Scn} (hd : DOkC d) (hx : x.good = pre.length) (hw : x.whole = false) (hn : hadM x.l (sha d) = false) :
  stepP n (pre ++ (chunkB d ++ t)) x = some ⟨x.l ++ [⟨sha d, n, (pre.length : Nat), d.length⟩], pre.length + (chunkB d).length, false⟩ := by
 unfold stepP
 rw [if_neg (by rw [hw]; decide), hx, List.drop_left, nextM_chunk hd]
 simp only
 rw [if_neg (by decide)]
 unfold takeP
 rw [if_pos rfl, List.take_left' (sha_length d), if_pos ⟨openB_sha hd, hn⟩]
 unfold entP
 rw [List.take_left' (sha_length d), hx, hw, List.length_append, sha_length, show ((32 + d.length : Nat) : Int) - 32 = d.length by omega]
theorem hadM_snoc {l : List Ent} {e : Ent} {a : List UInt8} : hadM (l ++ [e]) a = (hadM l a || decide (e.sum = a)) := by
 simp [hadM]
theorem scan_chunks {n : Int} {t : List UInt8} : ∀ (l : List (List UInt8)) (pre : List UInt8) (x : Scn) (k : Nat), (∀ d ∈ l, DOkC d) → (l.map sha).Nodup → (∀ d ∈ l, hadM x.l (sha d) = false) → x.good = pre.length → x.whole = false → l.length ≤ k →
  scanPN n (pre ++ (chunksB l ++ t)) k x = scanPN n (pre ++ (chunksB l ++ t)) (k - l.length) ⟨x.l ++ wents n pre.length l, pre.length + (chunksB l).length, false⟩
 | [], pre, x, k, _, _, _, hx, hw, _ => by
  have : (⟨x.l ++ wents n pre.length [], pre.length + (chunksB []).length, false⟩ : Scn) = x := by
   cases x
   simp only at hx hw
   subst hx hw
   simp [wents, chunksB]
  rw [this]
  rfl
 | d :: l, pre, x, k, hl, hnd, hn, hx, hw, hk => by
  have hd := hl d (List.mem_cons_self ..)
  have h1 := step_chunk (n := n) (t := chunksB l ++ t) hd hx hw (hn d (List.mem_cons_self ..))
  rw [List.map_cons, List.nodup_cons] at hnd
  simp only [List.length_cons] at hk
  have e : pre ++ (chunksB (d :: l) ++ t) = pre ++ (chunkB d ++ (chunksB l ++ t)) := by simp [chunksB]
  have e2 : pre ++ (chunkB d ++ (chunksB l ++ t)) = (pre ++ chunkB d) ++ (chunksB l ++ t) := by rw [List.append_assoc]
  rw [e, scanPN_some h1 (by omega), e2]
  have ih := scan_chunks (n := n) (t := t) l (pre ++ chunkB d) ⟨x.l ++ [⟨sha d, n, (pre.length : Nat), d.length⟩], pre.length + (chunkB d).length, false⟩ (k - 1) (fun c hc => hl c (List.mem_cons_of_mem _ hc)) hnd.2
   (fun c hc => by
    simp only
    rw [hadM_snoc, hn c (List.mem_cons_of_mem _ hc), Bool.false_or, decide_eq_false_iff_not]
    intro e
    exact hnd.1 (List.mem_map.2 ⟨c, hc, e.symm⟩)) (by rw [List.length_append]) rfl (by omega)
  rw [ih]
  congr 1
  ·simp only [List.length_cons]; omega
  ·simp only [wents, chunksB, List.flatMap_cons, List.length_append, List.append_assoc, List.singleton_append, Nat.add_assoc]
theorem nextM_head (n : Int) (t : List UInt8) : nextM (headB n ++ t) = (1, four n, (headB n).length, 0) := nextM_seal t (by decide) (by rw [four_length]; omega)
theorem chunksB_ge : ∀ {l : List (List UInt8)}, (∀ d ∈ l, DOkC d) → l.length ≤ (chunksB l).length
 | [], _ => Nat.le_refl _
 | d :: l, h => by
  have h1 := chunkB_ge (h d (List.mem_cons_self ..))
  have h2 := chunksB_ge (fun c hc => h c (List.mem_cons_of_mem _ hc))
  simp only [chunksB, List.flatMap_cons, List.length_append, List.length_cons] at h2 ⊢
  omega
theorem nextM_foot (l : List Ent) (t : List UInt8) : nextM (footB l ++ t) = (3, four (l.length : Int), (footB l).length, 0) := nextM_seal t (by decide) (by rw [four_length]; omega)
theorem scan_closed {n : Int} {l : List (List UInt8)} {m : List Ent} {t : List UInt8} (hn : rightP n = true) (hl : ∀ d ∈ l, DOkC d) (hnd : (l.map sha).Nodup) (hm : m.length = l.length) :
  scanP (headB n ++ (chunksB l ++ (footB m ++ t))) n = (⟨wents n (headB n).length l, (headB n).length + (chunksB l).length + (footB m).length, true⟩, 0) := by
 unfold scanP
 have hh : headP n (headB n ++ (chunksB l ++ (footB m ++ t))) = true := by
  unfold headP
  rw [nextM_head]
  simp
 rw [if_neg (by rw [hn]; decide), if_neg (by rw [hh]; decide), nextM_head]
 simp only
 have hge := chunksB_ge hl
 have hf : 1 ≤ (footB m).length := by
  unfold footB
  rw [seal_length (by decide) (by rw [four_length]; omega)]
  omega
 rw [scan_chunks l (headB n) ⟨[], (headB n).length, false⟩ _ hl hnd (fun _ _ => rfl) rfl rfl (by simp only [List.length_append]; omega)]
 have hs : stepP n (headB n ++ (chunksB l ++ (footB m ++ t))) ⟨[] ++ wents n (headB n).length l, (headB n).length + (chunksB l).length, false⟩ = some ⟨wents n (headB n).length l, (headB n).length + (chunksB l).length + (footB m).length, true⟩ := by
  unfold stepP
  simp only
  rw [if_neg (by decide), ← List.length_append, ← List.append_assoc, List.drop_left, nextM_foot]
  simp only
  rw [if_neg (by decide)]
  unfold takeP
  rw [if_neg (by decide), if_pos rfl, List.nil_append, wents_length, hm, if_pos rfl]
 rw [scanPN_some hs (by simp only [List.length_append]; omega), scanPN_none]
 unfold stepP
 rw [if_pos rfl]
theorem wents_at {n : Int} : ∀ {l : List (List UInt8)} {p : Nat} {e : Ent}, e ∈ wents n p l → ∃ a d c, l = a ++ d :: c ∧ e = ⟨sha d, n, ((p + (chunksB a).length : Nat) : Int), d.length⟩
 | [], _, _, h => by cases h
 | d :: l, p, e, h => by
  rcases List.mem_cons.1 h with rfl | h
  ·exact ⟨[], d, l, rfl, by simp [chunksB]⟩
  ·obtain ⟨a, x, c, rfl, rfl⟩ := wents_at h
   exact ⟨d :: a, x, c, rfl, by simp [chunksB, Nat.add_assoc]⟩
end Go.Proofs.YtnlabkogebnioaaGreatDoor
namespace Go.Proofs.YtnlabkogebnioaaGreatDoor
open Go.RowKit Sha
theorem create_lasts {lim : Int} {k : Key} (hk : nameOk k = true) : (createM (newM lim) k).1 = 0 ∧ LastsAt (createM (newM lim) k).2 k lim [] [] := LastsAt.new hk
theorem begin_lasts {lim n : Int} (hn : rightP n = true) (hl : 20 ≤ lim) : (pbeginM (newM lim) n).1 = 0 ∧ LastsAt (pbeginM (newM lim) n).2 (nameP n) lim [] (headB n) := by
 obtain ⟨h1, h2⟩ := create_lasts (lim := lim) (name_ok hn)
 have hh := headB_len n
 obtain ⟨h3, h4⟩ := h2.append (d := headB n) (by simp; omega)
 unfold pbeginM
 rw [if_neg (by rw [hn]; decide), if_neg (by rw [h1]; decide), if_neg (by rw [h3]; decide)]
 exact ⟨h3, by simpa using h4⟩
theorem LastsAt.sizeOf {D : DiskD} {k : Key} {lim : Int} {s all : List UInt8} (h : LastsAt D k lim s all) : sizeM D k = (((s ++ all).length : Int), 0) := by
 obtain ⟨f, hf, h1, h2, h3, h4⟩ := h.ex
 unfold sizeM
 rw [show mget D.files k = some f by rw [hf]; exact mget_one _ _]
 simp only
 rw [h2]
theorem LastsAt.file {D : DiskD} {k : Key} {lim : Int} {s all : List UInt8} (h : LastsAt D k lim s all) : ∃ f, mget D.files k = some f ∧ f.now = s ++ all := by
 obtain ⟨f, hf, h1, h2, h3, h4⟩ := h.ex
 exact ⟨f, by rw [hf]; exact mget_one _ _, h2⟩
structure WrAt1 (lim : Int) (n : Int) (ds : List (List UInt8)) (D : DiskD) (x : Wri) : Prop where
  d : LastsAt D (nameP n) lim [] (headB n ++ chunksB ds)
  num : x.n = n
  l : x.l = wents n (headB n).length ds
  closed : x.closed = false
  ok : ∀ d ∈ ds, DOkC d
  nd : (ds.map sha).Nodup
theorem chunksB_snoc (ds : List (List UInt8)) (d : List UInt8) : chunksB (ds ++ [d]) = chunksB ds ++ chunkB d := by simp [chunksB]
theorem WrAt1.begin {lim n : Int} (hn : rightP n = true) (hl : 20 ≤ lim) : WrAt1 lim n [] (pbeginM (newM lim) n).2 ⟨n, [], false⟩ :=
 ⟨by simpa [chunksB] using (begin_lasts hn hl).2, rfl, rfl, rfl, (fun d h => by cases h), by simp⟩
section
variable {lim n : Int} {ds : List (List UInt8)} {D : DiskD} {x : Wri} {d : List UInt8}
theorem WrAt1.none (h : WrAt1 lim n ds D x) (hd : sha d ∉ ds.map sha) : findM x.l (sha d) = none := by
 refine List.find?_eq_none.2 fun e he => ?_
 simp only [decide_eq_true_eq]
 intro e2
 refine hd ?_
 rw [← wents_sums n (headB n).length ds, ← h.l]
 exact List.mem_map.2 ⟨e, he, e2⟩
theorem WrAt1.there (h : WrAt1 lim n ds D x) (hd : sha d ∈ ds.map sha) (hok : DOkC d) : ∃ e, findM x.l (sha d) = some e ∧ e.sum = sha d ∧ paddM D x d = ((e, 16), x, D) := by
 rw [← wents_sums n (headB n).length ds, ← h.l] at hd
 obtain ⟨e, he, hes⟩ := List.mem_map.1 hd
 cases hf : findM x.l (sha d) with
 | none =>
  have := List.find?_eq_none.1 hf e he
  simp [hes] at this
 | some e' =>
  have hs := List.find?_some hf
  simp only [decide_eq_true_eq] at hs
  refine ⟨e', rfl, hs, ?_⟩
  unfold paddM
  rw [if_neg (by rintro (e | e); rw [h.closed] at e; cases e; exact hok.1 e), if_neg (by have := hok.2; omega), hf]
theorem WrAt1.bad (h : WrAt1 lim n ds D x) (hok : ¬ DOkC d) : (paddM D x d).1.2 ≠ 0 ∧ (paddM D x d).2 = (x, D) := by
 unfold paddM
 by_cases h1 : d = []
 ·rw [if_pos (.inr h1)]
  exact ⟨by simp, rfl⟩
 ·rw [if_neg (by rintro (e | e); rw [h.closed] at e; cases e; exact h1 e), if_pos (by
   refine Classical.byContradiction fun h2 => hok ⟨h1, by omega⟩)]
  exact ⟨by simp, rfl⟩
theorem WrAt1.add (h : WrAt1 lim n ds D x) (hd : sha d ∉ ds.map sha) (hok : DOkC d) (hr : ((headB n ++ chunksB ds).length : Int) + 1074 ≤ lim) :
  (paddM D x d).1 = (⟨sha d, n, ((headB n).length + (chunksB ds).length : Nat), d.length⟩, 0) ∧ WrAt1 lim n (ds ++ [d]) (paddM D x d).2.2 (paddM D x d).2.1 := by
 have hcl := chunkB_len d (by have := hok.2; omega)
 have hd2 := hok.2
 obtain ⟨h1, h2⟩ := h.d.append (d := chunkB d) (by simp only [List.nil_append]; omega)
 have hsz := h.d.sizeOf
 unfold paddM
 rw [if_neg (by rintro (e | e); rw [h.closed] at e; cases e; exact hok.1 e), if_neg (by omega), h.none hd]
 simp only
 rw [h.num, hsz, if_neg (by simp), if_neg (by rw [h1]; simp)]
 refine ⟨?_, ?_, rfl, ?_, h.closed, ?_, ?_⟩
 ·simp only [List.nil_append, List.length_append]
 ·rw [chunksB_snoc, ← List.append_assoc]
  exact h2
 ·simp only
  rw [h.l, wents_snoc]
  simp only [List.nil_append, List.length_append]
 ·intro c hc
  rcases List.mem_append.1 hc with hc | hc
  ·exact h.ok c hc
  ·rw [List.mem_singleton.1 hc]; exact hok
 ·rw [List.map_append, List.nodup_append]
  exact ⟨h.nd, by simp, fun a ha b hb e => by
   rw [List.map_singleton, List.mem_singleton] at hb
   subst hb
   exact hd (e ▸ ha)⟩
end
def addsM (D : DiskD) (x : Wri) : List (List UInt8) → Wri × DiskD
  | [] => (x, D)
  | d :: l => addsM (paddM D x d).2.2 (paddM D x d).2.1 l
theorem addsM_snoc (d : List UInt8) : ∀ (l : List (List UInt8)) (D : DiskD) (x : Wri), addsM D x (l ++ [d]) = (paddM (addsM D x l).2 (addsM D x l).1 d).2
 | [], D, x => rfl
 | c :: l, D, x => by rw [List.cons_append, addsM, addsM_snoc d l, addsM]
theorem padd_l (D : DiskD) (x : Wri) (d : List UInt8) : (paddM D x d).2.1.n = x.n ∧ ((paddM D x d).1.2 = 0 → (paddM D x d).2.1.l = x.l ++ [(paddM D x d).1.1] ∧ (paddM D x d).1.1.sum = sha d ∧ (paddM D x d).1.1.pack = x.n ∧ (paddM D x d).1.1.len = d.length) ∧ ((paddM D x d).1.2 ≠ 0 → (paddM D x d).2.1 = x) := by
 unfold paddM
 split
 ·exact ⟨rfl, fun h => absurd h (by simp), fun _ => rfl⟩
 split
 ·exact ⟨rfl, fun h => absurd h (by simp), fun _ => rfl⟩
 split
 ·exact ⟨rfl, fun h => absurd h (by simp), fun _ => rfl⟩
 split
 ·rename_i h4
  exact ⟨rfl, fun h => absurd h h4, fun _ => rfl⟩
 split
 ·rename_i h5
  exact ⟨rfl, fun h => absurd h h5, fun _ => rfl⟩
 ·exact ⟨rfl, fun _ => ⟨rfl, rfl, rfl, rfl⟩, fun h => absurd rfl h⟩
theorem adds_written {lim n : Int} : ∀ {l : List (List UInt8)} {ds : List (List UInt8)} {D : DiskD} {x : Wri}, WrAt1 lim n ds D x → ((headB n ++ chunksB ds).length : Int) + 1074 * l.length ≤ lim →
  ∃ ds', WrAt1 lim n ds' (addsM D x l).2 (addsM D x l).1 ∧ (∀ d ∈ ds, d ∈ ds') ∧ (∀ d ∈ l, DOkC d → sha d ∈ ds'.map sha) ∧ (headB n ++ chunksB ds').length ≤ (headB n ++ chunksB ds).length + 1074 * l.length
 | [], ds, D, x, h, _ => ⟨ds, h, fun _ hd => hd, fun d hd => (by cases hd), by simp⟩
 | d :: l, ds, D, x, h, hr => by
  simp only [List.length_cons] at hr
  rw [addsM]
  by_cases hok : DOkC d
  ·by_cases hd : sha d ∈ ds.map sha
   ·obtain ⟨e, _, _, hp⟩ := h.there hd hok
    rw [hp]
    obtain ⟨ds', h1, h2, h3, h4⟩ := adds_written (l := l) h (by omega)
    refine ⟨ds', h1, h2, fun c hc hc2 => ?_, by simp only [List.length_cons]; omega⟩
    rcases List.mem_cons.1 hc with rfl | hc
    ·obtain ⟨q, hq, hqs⟩ := List.mem_map.1 hd
     exact List.mem_map.2 ⟨q, h2 q hq, hqs⟩
    ·exact h3 c hc hc2
   ·obtain ⟨_, hp⟩ := h.add hd hok (by omega)
    have hcl := chunkB_len d (by have := hok.2; omega)
    have hd2 := hok.2
    obtain ⟨ds', h1, h2, h3, h4⟩ := adds_written (l := l) hp (by rw [chunksB_snoc]; simp only [List.length_append] at hr ⊢; omega)
    refine ⟨ds', h1, fun c hc => h2 c (by simp [hc]), fun c hc hc2 => ?_, ?_⟩
    ·rcases List.mem_cons.1 hc with rfl | hc
     ·exact List.mem_map.2 ⟨c, h2 c (by simp), rfl⟩
     ·exact h3 c hc hc2
    ·rw [chunksB_snoc] at h4
     simp only [List.length_append, List.length_cons] at h4 ⊢
     omega
  ·obtain ⟨_, hp⟩ := h.bad hok
   rw [hp]
   obtain ⟨ds', h1, h2, h3, h4⟩ := adds_written (l := l) h (by omega)
   refine ⟨ds', h1, h2, fun c hc hc2 => ?_, by simp only [List.length_cons]; omega⟩
   rcases List.mem_cons.1 hc with rfl | hc
   ·exact absurd hc2 hok
   ·exact h3 c hc hc2
end Go.Proofs.YtnlabkogebnioaaGreatDoor
namespace Go.Proofs.YtnlabkogebnioaaGreatDoor
open Go.RowKit
theorem run_part1 {t : TypeId} {d : TypeDesc} {cs : Array Value} {off : Nat} {v : Value} {w : World} (hu : Tryz.prog.underlying t = some d) (hd : (match d with | .struct _ | .array _ _ => false | _ => true) = true) (hv : cs.toList[off]? = some v) : (part t cs off).run Tryz.prog w = .ok v w := by
 have hc : cs[off]? = some v := by rw [← hv]; simp
 cases d <;> simp at hd <;> simp [part, isAgg, run_underlying hu, hc]
theorem eqFields_cons {P : Program} {d : Nat} {xs ys : Array Value} {f : Field} {fs : List Field} {a b : Value} {r r' : Bool} {w : World} (hn : f.name ≠ "_") (ha : (part f.type xs f.offset).run P w = .ok a w) (hb : (part f.type ys f.offset).run P w = .ok b w) (he : (Op.equalIn d f.type a b).run P w = .ok r w) (hr : r = true → (Op.eqFields d xs ys fs).run P w = .ok r' w) :
  (Op.eqFields d xs ys (f :: fs)).run P w = .ok (r && r') w := by
 unfold Op.eqFields
 rw [if_pos hn]
 simp only [Sem.run_bind, ha, hb, he, Result.andThen_ok, Sem.run_ite]
 cases r with
 | false => simp
 | true => simpa using hr rfl
theorem eqFields_one {P : Program} {d : Nat} {xs ys : Array Value} {f : Field} {a b : Value} {r : Bool} {w : World} (hn : f.name ≠ "_") (ha : (part f.type xs f.offset).run P w = .ok a w) (hb : (part f.type ys f.offset).run P w = .ok b w) (he : (Op.equalIn d f.type a b).run P w = .ok r w) :
  (Op.eqFields d xs ys [f]).run P w = .ok r w := by
 have := eqFields_cons (fs := []) hn ha hb he (fun _ => (by simp [Op.eqFields] : (Op.eqFields d xs ys []).run P w = .ok true w))
 simpa using this
theorem eqSumE (l m : List UInt8) (hl : l.length = 32) (hm : m.length = 32) (w : World) : (Op.equalIn 9999 60 (.agg (l.map bv).toArray) (.agg (m.map bv).toArray)).run Tryz.prog w = .ok (l == m) w := by
 obtain ⟨i0, hi, hz0, hz1, hz2⟩ := info_parts info_u8'
 have := run_equalIn_array (P := Tryz.prog) w 9998 (l.map bv).toArray (m.map bv).toArray Tryz.underlying60 hi
 rw [cells_u8, run_eqItems_bytes 9997 l m w (List.range 32) (fun i h => by simp at h; omega), all_getD l m 32 hl hm] at this
 exact this
end Go.Proofs.YtnlabkogebnioaaGreatDoor
namespace Go.Proofs.YtnlabkogebnioaaGreatDoor
open Go.RowKit
theorem ent_decP (a b : Ent) : (a.sum == b.sum && (a.pack == b.pack && (a.pos == b.pos && a.len == b.len))) = decide (a = b) := by
 obtain ⟨a1, a2, a3, a4⟩ := a
 obtain ⟨b1, b2, b3, b4⟩ := b
 rw [Bool.eq_iff_iff]
 simp
theorem fieldsEntE : Tryz.prog.underlying 66 = some (.struct (Tryz.prog.fieldsOf 66)) := by kernel_rfl
set_option maxRecDepth 30000 in
theorem eqEnt (a b : Ent) (ha : a.sum.length = 32) (hb : b.sum.length = 32) (w : World) : (Op.equalIn 10000 66 (.agg a.cells.toArray) (.agg b.cells.toArray)).run Tryz.prog w = .ok (decide (a = b)) w := by
 refine (run_equalIn_struct w 9999 _ _ _ fieldsEntE (by kernel_rfl)).trans ?_
 have hf := Option.some.inj (fieldsEntE.symm.trans Tryz.underlying66)
 injection hf with hf
 rw [hf]
 have h1 : ∀ c : Ent, c.sum.length = 32 → (part 60 c.cells.toArray 0).run Tryz.prog w = .ok (.agg (c.sum.map bv).toArray) w := fun c hc => by
  simp [part, isAgg, run_underlying Tryz.underlying60]
  exact List.take_left' (by rw [List.length_map, hc])
 have h2 : ∀ c : Ent, c.sum.length = 32 → (part 3 c.cells.toArray 32).run Tryz.prog w = .ok (.int .i64 c.pack) w := fun c hc => run_part1 Tryz.underlying3 rfl (by simp [Ent.cells, hc])
 have h3 : ∀ c : Ent, c.sum.length = 32 → (part 3 c.cells.toArray 33).run Tryz.prog w = .ok (.int .i64 c.pos) w := fun c hc => run_part1 Tryz.underlying3 rfl (by simp [Ent.cells, hc])
 have h4 : ∀ c : Ent, c.sum.length = 32 → (part 3 c.cells.toArray 34).run Tryz.prog w = .ok (.int .i64 c.len) w := fun c hc => run_part1 Tryz.underlying3 rfl (by simp [Ent.cells, hc])
 have e2 : (Op.equalIn 9999 3 (.int .i64 a.pack) (.int .i64 b.pack)).run Tryz.prog w = .ok (a.pack == b.pack) w := run_equalIn_int w 9998 3 .i64 .i64 _ _ Tryz.underlying3
 have e3 : (Op.equalIn 9999 3 (.int .i64 a.pos) (.int .i64 b.pos)).run Tryz.prog w = .ok (a.pos == b.pos) w := run_equalIn_int w 9998 3 .i64 .i64 _ _ Tryz.underlying3
 have e4 : (Op.equalIn 9999 3 (.int .i64 a.len) (.int .i64 b.len)).run Tryz.prog w = .ok (a.len == b.len) w := run_equalIn_int w 9998 3 .i64 .i64 _ _ Tryz.underlying3
 rw [← ent_decP]
 exact eqFields_cons (by decide) (h1 a ha) (h1 b hb) (eqSumE a.sum b.sum ha hb w) (fun _ => eqFields_cons (by decide) (h2 a ha) (h2 b hb) e2 (fun _ => eqFields_cons (by decide) (h3 a ha) (h3 b hb) e3 (fun _ => eqFields_one (by decide) (h4 a ha) (h4 b hb) e4)))
theorem X.eqEnt {l : Env} {x y : Operand} {w : World} {t' ty : TypeId} {a b : Ent} (ha : a.sum.length = 32) (hb : b.sum.length = 32) (hx : ev l x = some (.agg a.cells.toArray)) (hy : ev l y = some (.agg b.cells.toArray)) : X Tryz.prog l (.binOp .eql 66 x y t') ty w (.bool (decide (a = b))) w :=
 X.bin hx hy (fun c d => run_eqGuard_agg w .eql _ c d _ _ (by kernel_rfl)) (by rw [run_eql_struct, Go.Proofs.YtnlabkogebnioaaGreatDoor.eqEnt a b ha hb]; simp [Result.andThen])
theorem ent_sumR {w : World} {g : Nat} {t : TypeId} {e : Ent} (hB : Blk w g t e.cells.toArray) : w.rangeAt g 0 (e.sum.map bv) := fun j v hv => by
 rw [hB.cell, Nat.zero_add, List.getElem?_toArray, Ent.cells, List.getElem?_append_left (List.getElem?_eq_some_iff.1 hv).1]
 exact hv
end Go.Proofs.YtnlabkogebnioaaGreatDoor
namespace Go.Proofs.YtnlabkogebnioaaGreatDoor
open Go.RowKit Sha
def abcB : List UInt8 := [97, 98, 99]
theorem abc_ok : DOkC abcB := ⟨by decide, by decide⟩
theorem name7 : nameP 7 = [112, 97, 99, 107, 45, 48, 48, 48, 48, 48, 55] := by decide
def ent7 : Ent := ⟨sha abcB, 7, ((headB 7).length : Int), 3⟩
theorem ent7_sum : ent7.sum.length = 32 := sha_length _
theorem aw_begin : (pbeginM (newM 5000) 7).1 = 0 ∧ WrAt1 5000 7 [] (pbeginM (newM 5000) 7).2 ⟨7, [], false⟩ := ⟨(begin_lasts rfl (by omega)).1, WrAt1.begin rfl (by omega)⟩
theorem aw_add : (paddM (pbeginM (newM 5000) 7).2 ⟨7, [], false⟩ abcB).1 = (ent7, 0) ∧ WrAt1 5000 7 [abcB] (paddM (pbeginM (newM 5000) 7).2 ⟨7, [], false⟩ abcB).2.2 (paddM (pbeginM (newM 5000) 7).2 ⟨7, [], false⟩ abcB).2.1 := by
 have hl := headB_len 7
 obtain ⟨h1, h2⟩ := aw_begin.2.add (d := abcB) (by simp) abc_ok (by simp [chunksB]; omega)
 have e : (⟨sha abcB, 7, (((headB 7).length + (chunksB []).length : Nat) : Int), (abcB.length : Nat)⟩ : Ent) = ent7 := by
  unfold ent7
  rw [show (chunksB []).length = 0 from rfl, Nat.add_zero, show ((abcB.length : Nat) : Int) = 3 from rfl]
 rw [e] at h1
 rw [List.nil_append] at h2
 refine ⟨h1, ?_⟩
 exact h2
theorem aw_again {D : DiskD} {x : Wri} (h : WrAt1 5000 7 [abcB] D x) : paddM D x abcB = ((ent7, 16), x, D) := by
 obtain ⟨e, h1, h2, h3⟩ := h.there (d := abcB) (by simp) abc_ok
 rw [h.l] at h1
 have : findM (wents 7 (headB 7).length [abcB]) (sha abcB) = some ent7 := by
  have e : wents 7 (headB 7).length [abcB] = [ent7] := by
   unfold ent7
   rfl
  rw [e]
  unfold findM
  exact List.find?_cons_of_pos (decide_eq_true rfl)
 rw [this] at h1
 rw [h3, ← Option.some.inj h1]
theorem head_pos (n : Int) : 0 < (headB n).length := by
 unfold headB
 have h4 : (four n).length = 4 := four_length n
 rw [seal_length (by decide) (by omega), h4]
 omega
end Go.Proofs.YtnlabkogebnioaaGreatDoor
namespace Go.Proofs.YtnlabkogebnioaaGreatDoor
open Go.RowKit Sha
theorem WrAll.lts {B gd gw gx gm : Nat} {w : World} {D : DiskD} {x : Wri} {v : Value} {S : Nat → Prop} (h : WrAll B w gd gw gx gm D x v S) : ∀ k, S k ∨ WrT gw gx gm v k → k < w.heap.size := fun k hk => hk.elim (fun e => (h.wf.own.lo k e).2) (fun e => h.lt k e)
theorem WrAll.lo {B gd gw gx gm : Nat} {w : World} {D : DiskD} {x : Wri} {v : Value} {S : Nat → Prop} (h : WrAll B w gd gw gx gm D x v S) : ∀ k, S k ∨ WrT gw gx gm v k → B ≤ k := fun k hk => hk.elim (fun e => (h.wf.own.lo k e).1) (fun e => (h.wf.ap k e).2)
theorem WrAll.chg {B gd gw gx gm : Nat} {w w' : World} {D : DiskD} {x : Wri} {v : Value} {S T : Nat → Prop} (h : WrAll B w gd gw gx gm D x v S) (hC : Chg T w w') (hn : ∀ k, S k ∨ WrT gw gx gm v k → ¬ T k) : WrAll B w' gd gw gx gm D x v S :=
 ⟨h.blk.chg hC (hn _ (.inr (.inl rfl))), h.scn.chg hC (hn _ (.inr (.inr (.inl rfl)))) (hn _ (.inr (.inr (.inr (.inl rfl))))) (fun _ hk => hn _ (.inr (.inr (.inr (.inr hk))))), h.wf.chg hC (fun k hk => hn k (.inl hk))⟩
theorem WrPost.keep {B gd gw gx gm : Nat} {w0 w w' : World} {D D' : DiskD} {x x' : Wri} {v : Value} {S : Nat → Prop} (h : WrPost B w gd gw gx gm D' x' v S w') (hW : WrAll B w gd gw gx gm D x v S) (hb : Below w0.heap.size w0 w) (hB : w0.heap.size ≤ B) :
  ∃ v' S', WrAll B w' gd gw gx gm D' x' v' S' ∧ Below w0.heap.size w0 w' ∧ (∀ k, S' k → S k ∨ w.heap.size ≤ k) ∧ (∀ k, WrT gw gx gm v' k → WrT gw gx gm v k ∨ w.heap.size ≤ k) ∧ Chg (fun k => S k ∨ WrT gw gx gm v k) w w' ∧ w.heap.size ≤ w'.heap.size := by
 obtain ⟨v', S', h1, h2, h3, h4⟩ := h
 refine ⟨v', S', h1, bchg hb h4 ?_, h2, ?_, h4, h4.size⟩
 ·rintro k (hk | hk)
  ·have := (hW.wf.own.lo k hk).1; omega
  ·have := (hW.wf.ap k hk).2; omega
 ·rintro k (e | e | e | e)
  ·exact .inl (.inl e)
  ·exact .inl (.inr (.inl e))
  ·exact .inl (.inr (.inr (.inl e)))
  ·exact (h3 k e).imp (fun h => .inr (.inr (.inr h))) id
set_option maxRecDepth 10000 in
theorem pawake_any (w : World) (hT : PTabs w.heap.size w) : Calls Tryz.prog 9 #[] w fun e w' => e = .returned (.bool true) ∧ Below w.heap.size w w' := by
 have hz : ent7.cells.toArray.size = 35 := Ent.size ent7_sum
 have hone : ent7.cells.toArray.toList.all (·.oneCell') = true := Ent.cells_one ent7
 refine W_enter (args := []) 69 Tryz.func9 rfl rfl rfl ?_
 have hbw := Below.refl w.heap.size w
 refine W_rs (sa rfl rfl (Wn (tN (W_rs (sc _ Tryz.func16 rfl (by kernel_rfl) rfl rfl ((New_ok 5000 _ (by omega)).mono ?_))))))
 rintro e_ w1 ⟨g, S0, rfl, h0, hS0, hb⟩
 refine cR ?_
 replace hbw := bthen hbw hb
 replace hT := hT.bel hb
 have hz_w1 := hb.size
 clear hb
 have hd : Own w.heap.size w1 g (newM 5000) S0 := ⟨h0, fun k hk => by have := hS0 k hk; have := hbw.size; omega⟩
 clear h0 hS0
 refine sm rfl rfl (st (X.ext rfl rfl) rfl (st (X.ext rfl rfl) rfl (sa rfl rfl (sa rfl rfl (Wn (tN (W_rs (sm rfl rfl (sc _ Tryz.func25 rfl (by kernel_rfl) rfl rfl ((pbegin_any w.heap.size g (newM 5000) S0 7 0 _ hd (Good.new (by omega)) (by omega) hbw.size hT).mono ?_))))))))))
 rintro e_ w2 ⟨p, S1, rfl, hd1, hS1, hX, hpn, hps⟩
 refine cR ?_
 obtain ⟨gw, gx, gm, v, rfl, hW, hWo⟩ := hps aw_begin.1
 have hbwn := bchg hbw hX (fun k hk => (hd.lo k hk).1)
 replace hT := hT.chg hX (fun k hk => (hd.lo k hk).1)
 rw [aw_begin.1]
 clear hps hpn hWo hd1 hd hbw hX
 have hbw := hbwn
 clear hbwn
 have haw := aw_add
 have hg1 := pbegin_good (Good.new (n := 0) (l := 5000) (by omega)) 7
 obtain ⟨D1, hD1⟩ : ∃ D1, (pbeginM (newM 5000) 7).2 = D1 := ⟨_, rfl⟩
 rw [hD1] at hW haw hg1
 refine sm rfl rfl (st (X.ext rfl rfl) rfl (st (X.ext rfl rfl) rfl (sa rfl rfl (sa rfl rfl (Wn (tN (W_seq (W_rs (sm rfl rfl (st (X.neq rfl rfl) rfl ?_))))))))))
 refine sbN rfl (rfl) rfl (gY (g := 20) rfl rfl rfl (sm rfl rfl (gY (g := 20) rfl rfl rfl (st (X.neq rfl rfl) rfl (st (X.pickF rfl rfl) rfl (sbN rfl (rfl) rfl (gY (g := 24) rfl rfl rfl (sm rfl rfl (gY (g := 24) rfl rfl rfl (st (X.wEq rfl) rfl ?_))))))))))
 refine st (X.pickF rfl rfl) rfl (Wn (tN (W_no rfl (rfl) (W_skip (tN (W_rs (sm rfl rfl (sc _ Tryz.func26 rfl (by kernel_rfl) rfl rfl ((padd_any abcB 30 hW hg1 (by omega) hT (by decide) (by simp)).mono ?_)))))))))
 rintro e_ w3 ⟨rfl, hWP⟩
 refine cR ?_
 have hloT : ∀ k, S1 k ∨ WrT gw gx gm v k → w.heap.size ≤ k := fun k hk => hk.elim (fun h => (hW.wf.own.lo k h).1) (fun h => (hW.wf.ap k h).2)
 obtain ⟨v2, S2, hW2, hbwn, hS2, hv2, hX2, hz5⟩ := hWP.keep hW hbw (Nat.le_refl _)
 replace hT := hT.chg hX2 hloT
 clear hWP hW hbw hX2 hloT
 have hW := hW2
 have hbw := hbwn
 clear hW2 hbwn
 have hg2 := padd_good hg1 ⟨7, [], false⟩ abcB
 rw [haw.1]
 obtain ⟨r, hr⟩ : ∃ r, paddM D1 ⟨7, [], false⟩ abcB = r := ⟨_, rfl⟩
 rw [hr] at hW haw hg2
 have hag := aw_again haw.2
 refine sm rfl rfl (st (X.ext rfl rfl) rfl (st (X.ext rfl rfl) rfl ?_))
 have hq5 := hW.lts
 have hw5 := hbw.size
 refine salA inf66 rfl (fun g5 w4 hB5 hg5 hb hl5 => ?_)
 replace hbw := bthen hbw hb
 replace hT := hT.bel hb
 replace hW := hW.bel hb
 have hz_w4 := hb.size
 clear hb
 refine ssBN rfl rfl hB5 (by rw [hz]; exact siz66) (by rw [hz]; rfl) hone (fun w5 hB_ hc_ => ?_)
 replace hB5 := hB_
 replace hW := hW.chg hc_ (fun k hk => by show ¬ k = g5; have := hq5 k hk; omega)
 replace hT := hT.chg hc_ (fun k hk => by have h1 : k = g5 := hk; have := hbw.size; omega)
 replace hbw := bset hbw hc_ (by omega)
 have hz_w5 := hc_.size
 clear hB_ hc_
 refine sa rfl rfl (Wn (tN (W_rs (sm rfl rfl ?_))))
 have hn5 : ¬ (S2 g5 ∨ WrT gw gx gm v2 g5) := fun e => by have := hq5 _ e; omega
 refine sc _ Tryz.func26 rfl (by kernel_rfl) rfl rfl ((padd_any abcB 1130 hW hg2 (by omega) hT (by decide) (by rw [haw.2.l]; simp [wents])).mono ?_)
 rintro e_ w6 ⟨rfl, hWP⟩
 refine cR ?_
 have hloT := hW.lo
 obtain ⟨v3, S3, hW3, hbwn, hS3, hv3, hX2, hz6⟩ := hWP.keep hW hbw (Nat.le_refl _)
 replace hT := hT.chg hX2 hloT
 replace hB5 := hB5.chg hX2 hn5
 clear hWP hW hbw hX2 hloT
 have hbw := hbwn
 clear hW3 hbwn
 rw [hag]
 refine sm rfl rfl (st (X.ext rfl rfl) rfl (st (X.ext rfl rfl) rfl (salA inf66 rfl (fun g7 w7 hB7 hg7 hb hl7 => ?_))))
 replace hbw := bthen hbw hb
 replace hT := hT.bel hb
 replace hB5 := hB5.bel hb
 have hz_w7 := hb.size
 clear hb
 refine ssBN rfl rfl hB7 (by rw [hz]; exact siz66) (by rw [hz]; rfl) hone (fun w8 hB_ hc_ => ?_)
 replace hB7 := hB_
 replace hB5 := hB5.chg hc_ (by show ¬ g5 = g7; omega)
 replace hT := hT.chg hc_ (fun k hk => by have h1 : k = g7 := hk; have := hbw.size; omega)
 replace hbw := bset hbw hc_ (by omega)
 have hz_w8 := hc_.size
 clear hB_ hc_
 refine sa rfl rfl (Wn (tN (W_drsN (fun W_ => Blk W_ g5 66 ent7.cells.toArray ∧ Blk W_ g7 66 ent7.cells.toArray) [0, 1, 2, 3, 4, 5, 6, 7, 8, 9, 10, 11, 12, 13, 14, 15, 16, 17, 18, 19, 20, 21, 22, 23, 24, 25, 26, 27, 28, 29, 30, 31] [false, true, true, true, true, true, true, true, true, true, true, true, true, true, true, true, true, true, true, false, true, true, true, true, true, true, true, true, true, true, true, true] (by kernel_rfl) (by kernel_rfl) (⟨hB5.drew, hB7.drew⟩) ?_)))
 obtain ⟨w9, hw_⟩ : ∃ w9 : World, w9 = World.drew w8 := ⟨_, rfl⟩
 rw [← hw_]
 have hb : Below w8.heap.size w8 w9 := by rw [hw_]; exact bdrew (Below.refl _ _)
 clear hw_
 have hS := hb
 replace hbw := bthen hbw hb
 replace hT := hT.bel hb
 replace hB5 := hB5.bel hb
 replace hB7 := hB7.bel hb
 have hz_w9 := hb.size
 clear hb
 refine oL rfl (fun Q_ hQ_ hP_ => (sc _ Tryz.func21 rfl (by kernel_rfl) rfl rfl ((Name_p 7 _ hT.pow).mono ?_)))
 rintro e_ w10 ⟨rfl, hb⟩
 refine cR ?_
 replace hbw := bthen hbw hb
 replace hT := hT.bel hb
 replace hB5 := hB5.bel hb
 replace hB7 := hB7.bel hb
 have hz_w10 := hb.size
 clear hb
 refine Wn (hQ_ _ _ (⟨hB5, hB7⟩) ?_)
 clear hQ_ hP_ Q_
 rw [name7]
 refine oY rfl (fun W_ hW_ => (X.eqS rfl rfl)) rfl (oY rfl (fun W_ hW_ => (X.mvB (c := true) rfl (rfl))) rfl (oYg (g := 40) rfl rfl rfl rfl (fun W_ hW_ => (X.move rfl)) rfl (oYg (g := 40) rfl rfl rfl rfl (fun W_ hW_ => (X.eql rfl rfl)) rfl (oY rfl (fun W_ hW_ => (X.pickT rfl rfl)) rfl (oY rfl (fun W_ hW_ => (X.mvB (c := true) rfl (rfl))) rfl (oYg (g := 44) rfl rfl rfl rfl (fun W_ hW_ => (X.fa fa66_3 rfl)) rfl (oYg (g := 44) rfl rfl rfl rfl (fun W_ hW_ => (X.ldB rfl hW_.1 Tryz.underlying3 rfl (Ent.cell_ ent7_sum 2 _ rfl))) rfl (oYg (g := 44) rfl rfl rfl rfl (fun W_ hW_ => (X.eql rfl rfl)) rfl (oY rfl (fun W_ hW_ => (X.pickT rfl rfl)) rfl (oY rfl (fun W_ hW_ => (X.mvB (c := true) rfl (rfl))) rfl ?_))))))))))
 refine oYg (g := 49) rfl rfl rfl rfl (fun W_ hW_ => (X.fa fa66_2 rfl)) rfl (oYg (g := 49) rfl rfl rfl rfl (fun W_ hW_ => (X.ldB rfl hW_.1 Tryz.underlying3 rfl (Ent.cell_ ent7_sum 1 _ rfl))) rfl (oYg (g := 49) rfl rfl rfl rfl (fun W_ hW_ => (X.gtr rfl rfl)) rfl (oY rfl (fun W_ hW_ => (X.pickT rfl rfl)) rfl (oY rfl (fun W_ hW_ => (X.mvB (c := true) rfl (decide_eq_true (by show (0 : Int) < ((headB 7).length : Int); have := head_pos 7; omega)))) rfl ?_))))
 refine oYg (g := 54) rfl rfl rfl rfl (fun W_ hW_ => (X.fa fa66_0 rfl)) rfl (oYg (g := 54) rfl rfl rfl rfl (fun W_ hW_ => (X.ldN (cs := ent7.sum.map bv) rfl Tryz.underlying60 rfl (by rw [List.length_map, ent7_sum]; exact siz60) (ent_sumR hW_.1))) rfl ?_)
 refine oL rfl (fun Q_ hQ_ hP_ => (gY (g := 54) rfl rfl rfl (sc _ Tryz.func24 rfl (by kernel_rfl) rfl rfl ((Of_list abcB _ hT.sha (by decide)).mono ?_))))
 rintro e_ w11 ⟨rfl, hb⟩
 refine cR ?_
 replace hbw := bthen hbw hb
 replace hT := hT.bel hb
 replace hB5 := hB5.bel hb
 replace hB7 := hB7.bel hb
 have hz_w11 := hb.size
 clear hb
 refine Wn (hQ_ _ _ (⟨hB5, hB7⟩) ?_)
 clear hQ_ hP_ Q_
 refine oYg (g := 54) rfl rfl rfl rfl (fun W_ hW_ => (X.eqSumF ent7_sum (sha_length _) rfl rfl)) rfl (oY rfl (fun W_ hW_ => (X.pickT rfl rfl)) rfl (oY rfl (fun W_ hW_ => (X.mvB (c := true) rfl ((beq_self_eq_true (sha abcB))))) rfl (oYg (g := 60) rfl rfl rfl rfl (fun W_ hW_ => (X.move rfl)) rfl (oYg (g := 60) rfl rfl rfl rfl (fun W_ hW_ => (X.eql rfl rfl)) rfl (oY rfl (fun W_ hW_ => (X.pickT rfl rfl)) rfl (oY rfl (fun W_ hW_ => (X.mvB (c := true) rfl (rfl))) rfl (oYg (g := 64) rfl rfl rfl rfl (fun W_ hW_ => (X.ldBN rfl hW_.2 Tryz.underlying66 rfl (by rw [hz]; exact siz66))) rfl ?_)))))))
 refine oYg (g := 64) rfl rfl rfl rfl (fun W_ hW_ => (X.ldBN rfl hW_.1 Tryz.underlying66 rfl (by rw [hz]; exact siz66))) rfl ?_
 refine oYg (g := 64) rfl rfl rfl rfl (fun W_ hW_ => (X.eqEnt ent7_sum ent7_sum rfl rfl)) rfl (oY rfl (fun W_ hW_ => (X.pickT rfl rfl)) rfl (oY rfl (fun W_ hW_ => (X.assign rfl)) rfl (oN (nN (W_ret ?_)))))
 exact (rT rfl rfl ⟨by rw [decide_eq_true rfl], hbw⟩).1
end Go.Proofs.YtnlabkogebnioaaGreatDoor
namespace Go.Proofs.YtnlabkogebnioaaGreatDoor
open Go.RowKit Sha
section
variable {D : DiskD} {s all : List UInt8} {k : Key} {lim : Int}
theorem LastsAt.sync0 (h : LastsAt D k lim s all) : (syncM D k).1 = 0 := by
 obtain ⟨f, hf, h1, h2, h3, h4⟩ := h.ex
 unfold syncM
 rw [h.op, fileM_some (f := f) (by rw [hf]; exact mget_one _ _)]
end
theorem got_honest {len : Int} {a s : List UInt8} : ((gotM len a s).2 = 0 → sha (gotM len a s).1 = a) ∧ ((gotM len a s).2 ≠ 0 → (gotM len a s).1 = [] ∧ (gotM len a s).2 = 35) := by
 unfold gotM
 split
 ·exact ⟨fun h => (by cases h), fun _ => ⟨rfl, rfl⟩⟩
 split
 ·rename_i h
  refine ⟨fun _ => ?_, fun h => absurd rfl h⟩
  have h1 := h.1
  unfold openB at h1
  rw [decide_eq_true_eq] at h1
  rw [← h.2.1]
  exact h1.2.2
 ·exact ⟨fun h => (by cases h), fun _ => ⟨rfl, rfl⟩⟩
theorem pget_honest {D : DiskD} {n : Int} {l : List Ent} {a : List UInt8} : ((pgetM D n l a).2 = 0 → sha (pgetM D n l a).1 = a) ∧ ((pgetM D n l a).2 ≠ 0 → (pgetM D n l a).1 = [] ∧ ((pgetM D n l a).2 = 35 ∨ (pgetM D n l a).2 = 15)) := by
 unfold pgetM
 split
 ·exact ⟨fun h => (by cases h), fun _ => ⟨rfl, .inr rfl⟩⟩
 split
 ·exact ⟨fun h => (by cases h), fun _ => ⟨rfl, .inr rfl⟩⟩
 split
 ·exact ⟨fun h => (by cases h), fun _ => ⟨rfl, .inl rfl⟩⟩
 ·exact ⟨got_honest.1, fun h => ⟨(got_honest.2 h).1, .inl (got_honest.2 h).2⟩⟩
theorem popen_there {D : DiskD} {n : Int} {f : FileD} (hn : rightP n = true) (hf : mget D.files (nameP n) = some f) : popenM D n = scanP f.now n := by
 have e : preadM D (nameP n) = (f.now, 0) := by unfold preadM; rw [hf]
 unfold popenM
 rw [if_neg (by rw [hn]; decide), e]
 simp only
 rw [if_neg (by simp)]
theorem scanP_code (s : List UInt8) {n : Int} (hn : rightP n = true) : (scanP s n).2 = 0 ∨ (scanP s n).2 = 12 := by
 unfold scanP
 rw [if_neg (by rw [hn]; decide)]
 split
 ·exact .inr rfl
 ·exact .inl rfl
theorem wents_fit {n : Int} (hn : rightP n = true) {l : List (List UInt8)} {p : Nat} (h : p + (chunksB l).length ≤ 1048576) (hl : ∀ d ∈ l, DOkC d) : (wents n p l).all fitE = true := by
 refine List.all_eq_true.2 fun e he => ?_
 obtain ⟨a, d, c, rfl, rfl⟩ := wents_at he
 have hd := (hl d (by simp)).2
 have h2 : (chunksB a).length ≤ (chunksB (a ++ d :: c)).length := by simp [chunksB]
 unfold rightP at hn
 rw [decide_eq_true_eq] at hn
 unfold fitE fitN
 simp only [Bool.and_eq_true, decide_eq_true_eq]
 omega
theorem wents_S32 (n : Int) (p : Nat) (l : List (List UInt8)) : S32 (wents n p l) := fun e he => by
 obtain ⟨a, d, c, _, rfl⟩ := wents_at he
 exact sha_length d
section
variable {n : Int} {ds : List (List UInt8)} {D : DiskD} {x : Wri}
theorem WrAt1.make (h : WrAt1 1048576 n ds D x) (hn : rightP n = true) (hr : (headB n ++ chunksB ds).length ≤ 40000) : makeM x.l = ((makeM x.l).1, 0) ∧ (makeM x.l).1.length = ds.length ∧ S32 x.l ∧ x.l.length = ds.length ∧ ds.length ≤ 40000 := by
 have hge := chunksB_ge h.ok
 rw [List.length_append] at hr
 have h1 : x.l.length = ds.length := by rw [h.l, wents_length]
 have h2 : x.l.all fitE = true := by rw [h.l]; exact wents_fit hn (by omega) h.ok
 have h3 : (x.l.map (·.sum)).Nodup := by rw [h.l, wents_sums]; exact h.nd
 have h4 : makeM x.l = (ordM x.l, 0) := by
  unfold makeM
  rw [if_neg (by omega), if_neg (by rw [h2]; simp), if_pos h3]
 rw [h4]
 exact ⟨rfl, by rw [(ordM_perm x.l).length_eq, h1], by rw [h.l]; exact wents_S32 _ _ _, h1, by omega⟩
theorem WrAt1.close (h : WrAt1 1048576 n ds D x) (_hn : rightP n = true) (hr : (headB n ++ chunksB ds).length ≤ 40000) :
  (pcloseM D x).1 = ((makeM x.l).1, 0) ∧ LastsAt (pcloseM D x).2.2 (nameP n) 1048576 (headB n ++ (chunksB ds ++ footB x.l)) [] := by
 have hfl := footB_len x.l
 obtain ⟨h1, h2⟩ := h.d.append (d := footB x.l) (by simp only [List.nil_append]; omega)
 have h3 := h2.sync0
 have h4 := h2.sync
 unfold pcloseM
 rw [h.num, if_neg (by rw [h.closed]; simp), if_neg (by rw [h1]; simp), if_neg (by rw [h3]; simp)]
 refine ⟨rfl, ?_⟩
 rw [List.nil_append, List.append_assoc] at h4
 exact h4
theorem closed_open {D' : DiskD} (hn : rightP n = true) (h : LastsAt D' (nameP n) 1048576 (headB n ++ (chunksB ds ++ footB x.l)) []) (hx : x.l = wents n (headB n).length ds) (hok : ∀ d ∈ ds, DOkC d) (hnd : (ds.map sha).Nodup) :
  popenM D' n = (⟨x.l, (headB n).length + (chunksB ds).length + (footB x.l).length, true⟩, 0) := by
 obtain ⟨f, hf, hfn⟩ := h.file
 rw [popen_there hn hf, hfn, List.append_nil]
 have := scan_closed (t := []) (m := x.l) hn hok hnd (by rw [hx, wents_length])
 rw [List.append_nil] at this
 rw [this, ← hx]
end
end Go.Proofs.YtnlabkogebnioaaGreatDoor
