/- fan: the order of addresses, by slices.Compare over their bytes. fan: slices.SortFunc at entries. fan: may. fan: Less. -/
import Derived.Test.YtnagmpnpgekhfaaSorted
import Derived.Test.YtnagmpnpgekhfaaFan0
namespace Go.Proofs.Ytnagmpnpgekhfaa
open Go.RowKit
theorem NaN_any (b : UInt8) (w : World) : Calls Try.prog 123 #[bv b] w fun e w' => e = .returned (.bool false) ∧ w' = w := by
  refine W_enter (args := [.int .u8 (b.toNat : Int)]) 6 Try.func123 rfl rfl rfl ?_
  refine W_sub [(0, .int .u8 (b.toNat : Int))] ?_ ⟨rfl, trivial⟩
  have hbw := Below.refl w.heap.size w
  refine W_rs ?_
  refine sa rfl rfl ?_
  refine Wn ?_
  refine tN ?_
  refine W_rs ?_
  refine sm rfl rfl ?_
  refine sm rfl rfl ?_
  refine st (X.neq rfl rfl) rfl ?_
  refine sa rfl rfl ?_
  refine Wn ?_
  refine tN ?_
  refine W_ret ?_
  exact (rT rfl rfl ⟨by simp, rfl⟩).1
def cmpU (a b : UInt8) : Int := if a < b then -1 else if b < a then 1 else 0
theorem CmpU_any (a b : UInt8) (w : World) : Calls Try.prog 114 #[bv a, bv b] w fun e w' => e = .returned (.int .i64 (cmpU a b)) ∧ w' = w := by
  refine W_enter (args := [.int .u8 (a.toNat : Int), .int .u8 (b.toNat : Int)]) 20 Try.func114 rfl rfl rfl ?_
  refine W_sub [(0, .int .u8 (a.toNat : Int)), (1, .int .u8 (b.toNat : Int))] ?_ ⟨rfl, rfl, trivial⟩
  have hbw := Below.refl w.heap.size w
  refine W_rs ?_
  refine sa rfl rfl ?_
  refine Wn ?_
  refine tN ?_
  refine W_rs ?_
  refine sm rfl rfl ?_
  refine sc _ Try.func123 rfl (by kernel_rfl) rfl rfl ((NaN_any a _).mono ?_)
  rintro e_ w_ ⟨rfl, rfl⟩
  refine cR ?_
  refine sa rfl rfl ?_
  refine Wn ?_
  refine tN ?_
  refine W_rs ?_
  refine sm rfl rfl ?_
  refine sc _ Try.func123 rfl (by kernel_rfl) rfl rfl ((NaN_any b _).mono ?_)
  rintro e_ w_ ⟨rfl, rfl⟩
  refine cR ?_
  refine sa rfl rfl ?_
  refine Wn ?_
  refine tN ?_
  refine W_seq ?_
  refine W_rs ?_
  refine sm rfl rfl ?_
  refine Wn ?_
  refine tN ?_
  refine W_no rfl (rfl) ?_
  refine W_skip ?_
  refine tN ?_
  refine W_seq ?_
  refine W_rs ?_
  refine sm rfl rfl ?_
  refine Wn ?_
  refine tN ?_
  refine W_no rfl (rfl) ?_
  refine W_skip ?_
  refine tN ?_
  refine W_seq ?_
  refine W_rs ?_
  refine sm rfl rfl ?_
  refine sm rfl rfl ?_
  refine st (X.lss rfl rfl) rfl ?_
  refine Wn ?_
  refine tN ?_
  refine W_if rfl (fun h16 => ?_) (fun h16 => ?_)
  · first | replace h16 := of_decide_eq_true h16 | replace h16 := of_decide_eq_false (notT h16) | replace h16 := notT h16 | skip
    refine W_rs ?_
    refine sa rfl rfl ?_
    refine Wn ?_
    refine tN ?_
    refine W_ret (tR ?_)
    refine (rT rfl rfl ⟨?_, rfl⟩).1
    rw [show cmpU a b = -1 from if_pos (UInt8.lt_iff_toNat_lt.2 (by omega))]
  · first | replace h16 := of_decide_eq_false h16 | replace h16 := of_decide_eq_true (notF h16) | replace h16 := notF h16 | skip
    refine W_skip ?_
    refine tN ?_
    refine W_seq ?_
    refine W_rs ?_
    refine sm rfl rfl ?_
    refine sm rfl rfl ?_
    refine st (X.gtr rfl rfl) rfl ?_
    refine Wn ?_
    refine tN ?_
    refine W_if rfl (fun h19 => ?_) (fun h19 => ?_)
    · first | replace h19 := of_decide_eq_true h19 | replace h19 := of_decide_eq_false (notT h19) | replace h19 := notT h19 | skip
      refine W_rs ?_
      refine sa rfl rfl ?_
      refine Wn ?_
      refine tN ?_
      refine W_ret (tR ?_)
      refine (rT rfl rfl ⟨?_, rfl⟩).1
      rw [show cmpU a b = 1 by unfold cmpU; rw [if_neg (fun h => by have := UInt8.lt_iff_toNat_lt.1 h; omega), if_pos (UInt8.lt_iff_toNat_lt.2 (by omega))]]
    · first | replace h19 := of_decide_eq_false h19 | replace h19 := of_decide_eq_true (notF h19) | replace h19 := notF h19 | skip
      refine W_skip ?_
      refine tN ?_
      refine W_rs ?_
      refine sa rfl rfl ?_
      refine Wn ?_
      refine tN ?_
      refine W_ret ?_
      refine (rT rfl rfl ⟨?_, rfl⟩).1
      rw [show cmpU a b = 0 by unfold cmpU; rw [if_neg (fun h => by have := UInt8.lt_iff_toNat_lt.1 h; omega), if_neg (fun h => by have := UInt8.lt_iff_toNat_lt.1 h; omega)]]
theorem cmpB_step {l1 l2 : List UInt8} {j : Nat} {x y : UInt8} (hx : l1[j]? = some x) (hy : l2[j]? = some y) : Lib.compareBytes (l1.drop j) (l2.drop j) = if cmpU x y ≠ 0 then cmpU x y else Lib.compareBytes (l1.drop (j + 1)) (l2.drop (j + 1)) := by
  obtain ⟨h1, rfl⟩ := List.getElem?_eq_some_iff.1 hx
  obtain ⟨h2, rfl⟩ := List.getElem?_eq_some_iff.1 hy
  rw [List.drop_eq_getElem_cons h1, List.drop_eq_getElem_cons h2]
  simp only [Lib.compareBytes, cmpU]
  split
  · simp
  · split <;> simp
theorem SCmp_any (g1 o1 c1 g2 o2 c2 : Nat) (l1 l2 : List UInt8) (w : World) (hl : l1.length = l2.length) (hn : l1.length ≤ 1000000) (h1 : ∀ j (hj : j < l1.length), w.cell? ⟨g1, o1 + j, none⟩ = some (.int .u8 (l1[j].toNat : Int))) (h2 : ∀ j (hj : j < l2.length), w.cell? ⟨g2, o2 + j, none⟩ = some (.int .u8 (l2[j].toNat : Int))) :
    Calls Try.prog 97 #[.slice (some ⟨g1, o1, none⟩) l1.length c1, .slice (some ⟨g2, o2, none⟩) l2.length c2] w fun e w' => e = .returned (.int .i64 (Lib.compareBytes l1 l2)) ∧ w' = w := by
  refine W_enter (args := [.slice (some ⟨g1, o1, none⟩) l1.length c1, .slice (some ⟨g2, o2, none⟩) l2.length c2]) 36 Try.func97 rfl rfl rfl ?_
  refine W_sub [(0, .slice (some ⟨g1, o1, none⟩) l1.length c1), (1, .slice (some ⟨g2, o2, none⟩) l2.length c2)] ?_ ⟨rfl, rfl, trivial⟩
  have hbw := Below.refl w.heap.size w
  refine W_rs ?_
  refine sa rfl rfl ?_
  refine Wn ?_
  refine tN ?_
  refine W_seq ?_
  refine W_rs ?_
  refine sm rfl rfl ?_
  refine st (X.lenL rfl rfl Try.underlying81) rfl ?_
  refine sm rfl rfl ?_
  refine Wn ?_
  refine tN ?_
  refine W_block ?_
  refine W_lp (fun nw1_ lw1_ w1 => ∃ j : Nat, nw1_ = l1.length - j ∧ lw1_ = ([(0, .slice (some ⟨g1, o1, none⟩) l1.length c1), (1, .slice (some ⟨g2, o2, none⟩) l2.length c2), (9, .slice (some ⟨g1, o1, none⟩) l1.length c1), (10, .int .i64 l1.length), (11, .int .i64 j)] : Env) ∧ (j ≤ l1.length) ∧ (Lib.compareBytes l1 l2 = Lib.compareBytes (l1.drop j) (l2.drop j)) ∧ (w1 = w) ∧ (Below w.heap.size w w1)) _ ⟨_, ⟨0, rfl, rfl, by omega, rfl, rfl, hbw⟩, ⟨rfl, rfl, rfl, rfl, rfl, trivial⟩⟩ ?_
  clear hbw
  rintro nw1_ lw1_ w1 ⟨j, rfl, rfl, hj, hq, hw, hbw⟩
  have hz_w1 := hbw.size
  refine W_rs ?_
  refine st (X.lss rfl rfl) rfl ?_
  refine Wn ?_
  refine tN ?_
  refine W_seq ?_
  refine W_if rfl (fun h12 => ?_) (fun h12 => ?_)
  · first | replace h12 := of_decide_eq_true h12 | replace h12 := of_decide_eq_false (notT h12) | replace h12 := notT h12 | skip
    obtain ⟨x, hx⟩ : ∃ x, l1[j]? = some x := ⟨_, List.getElem?_eq_getElem (by omega)⟩
    obtain ⟨y, hy⟩ : ∃ y, l2[j]? = some y := ⟨_, List.getElem?_eq_getElem (by omega)⟩
    have hst := cmpB_step hx hy
    have hcx : w.cell? ⟨g1, o1 + j, none⟩ = some (bv x) := by rw [h1 j (by omega), (List.getElem?_eq_some_iff.1 hx).2]; rfl
    have hcy : w.cell? ⟨g2, o2 + j, none⟩ = some (bv y) := by rw [h2 j (by omega), (List.getElem?_eq_some_iff.1 hy).2]; rfl
    refine W_skip ?_
    refine tN ?_
    refine W_seq ?_
    refine W_block ?_
    refine W_rs ?_
    refine sm rfl rfl ?_
    refine st (X.idxA rfl rfl Try.underlying81 siz5 rfl (by omega)) rfl ?_
    refine st (X.ld rfl Try.underlying5 rfl (by rw [hw, Nat.mul_one]; exact hcx)) rfl ?_
    refine sa rfl rfl ?_
    refine sa rfl rfl ?_
    refine Wn ?_
    refine tN ?_
    refine W_seq ?_
    refine W_rs ?_
    refine sm rfl rfl ?_
    refine sm rfl rfl ?_
    refine st (X.lenL rfl rfl Try.underlying81) rfl ?_
    refine st (X.geq rfl rfl) rfl ?_
    refine Wn ?_
    refine tN ?_
    refine W_if rfl (fun h19 => ?_) (fun h19 => ?_)
    · first | replace h19 := of_decide_eq_true h19 | replace h19 := of_decide_eq_false (notT h19) | replace h19 := notT h19 | skip
      omega
    · first | replace h19 := of_decide_eq_false h19 | replace h19 := of_decide_eq_true (notF h19) | replace h19 := notF h19 | skip
      refine W_skip ?_
      refine tN ?_
      refine W_rs ?_
      refine sm rfl rfl ?_
      refine sm rfl rfl ?_
      refine st (X.idxA rfl rfl Try.underlying81 siz5 rfl (by omega)) rfl ?_
      refine st (X.ld rfl Try.underlying5 rfl (by rw [hw, Nat.mul_one]; exact hcy)) rfl ?_
      refine sa rfl rfl ?_
      refine Wn ?_
      refine tN ?_
      refine W_rs ?_
      refine sm rfl rfl ?_
      refine sm rfl rfl ?_
      refine sc _ Try.func114 rfl (by kernel_rfl) rfl rfl ((CmpU_any x y _).mono ?_)
      rintro e_ w_ ⟨rfl, rfl⟩
      refine cR ?_
      refine sa rfl rfl ?_
      refine Wn ?_
      refine tN ?_
      refine W_rs ?_
      refine sm rfl rfl ?_
      refine st (X.neq rfl rfl) rfl ?_
      refine Wn ?_
      refine tN ?_
      refine W_if rfl (fun h28 => ?_) (fun h28 => ?_)
      · first | replace h28 := of_decide_eq_true h28 | replace h28 := of_decide_eq_false (notT h28) | replace h28 := notT h28 | skip
        refine W_rs ?_
        refine sm rfl rfl ?_
        refine sa rfl rfl ?_
        refine Wn ?_
        refine tN ?_
        refine W_ret (bR (tR (tR (bR (tR ?_)))))
        refine (rT rfl rfl ⟨?_, hw⟩).1
        rw [hq, hst, if_pos h28]
      · first | replace h28 := of_decide_eq_false h28 | replace h28 := of_decide_eq_true (notF h28) | replace h28 := notF h28 | skip
        refine W_skip ?_
        refine bN ?_
        refine tN ?_
        refine W_reg ?_
        refine st (X.add64 rfl rfl (by omega)) rfl ?_
        refine sm rfl rfl ?_
        refine Wn ?_
        refine tN ⟨_, _, ?_, ⟨j + 1, rfl, rfl, by omega, by rw [hq, hst, if_neg h28], hw, hbw⟩, ⟨rfl, rfl, rfl, rfl, rfl, trivial⟩⟩
        omega
  · first | replace h12 := of_decide_eq_false h12 | replace h12 := of_decide_eq_true (notF h12) | replace h12 := notF h12 | skip
    refine W_exit (tE (tE (bH ?_)))
    refine tN ?_
    refine W_seq ?_
    refine W_rs ?_
    refine sm rfl rfl ?_
    refine st (X.lenL rfl rfl Try.underlying81) rfl ?_
    refine sm rfl rfl ?_
    refine st (X.lenL rfl rfl Try.underlying81) rfl ?_
    refine st (X.lss rfl rfl) rfl ?_
    refine Wn ?_
    refine tN ?_
    refine W_if rfl (fun h35 => ?_) (fun h35 => ?_)
    · first | replace h35 := of_decide_eq_true h35 | replace h35 := of_decide_eq_false (notT h35) | replace h35 := notT h35 | skip
      omega
    · first | replace h35 := of_decide_eq_false h35 | replace h35 := of_decide_eq_true (notF h35) | replace h35 := notF h35 | skip
      refine W_skip ?_
      refine tN ?_
      refine W_rs ?_
      refine sa rfl rfl ?_
      refine Wn ?_
      refine tN ?_
      refine W_ret ?_
      obtain rfl : j = l1.length := by omega
      refine (rT rfl rfl ⟨?_, hw⟩).1
      rw [hq, List.drop_length, List.drop_of_length_le (by omega)]
      rfl
set_option maxRecDepth 10000 in
theorem Compare_fan (a b : List UInt8) (ha : a.length = 32) (hb : b.length = 32) (w : World) :
    Calls Try.prog 78 #[.agg (a.map bv).toArray, .agg (b.map bv).toArray] w (CmpIs w (cmpSum a b)) := by
  have k0 : Blk ((w.alloc (.cells (a.map bv).toArray 36)).alloc (.cells (b.map bv).toArray 36)) w.heap.size 36 (a.map bv).toArray := (Blk.new w _ _).alloc _
  have k1 : Blk ((w.alloc (.cells (a.map bv).toArray 36)).alloc (.cells (b.map bv).toArray 36)) (w.alloc (.cells (a.map bv).toArray 36)).heap.size 36 (b.map bv).toArray := Blk.new _ _ _
  have hG : Grows w ((w.alloc (.cells (a.map bv).toArray 36)).alloc (.cells (b.map bv).toArray 36)) := ((Grows.refl w).alloc _).alloc _
  refine W_enter (args := [.agg (a.map bv).toArray, .agg (b.map bv).toArray]) 8 Try.func78 rfl rfl rfl ?_
  refine W_sub [(0, .agg (a.map bv).toArray), (1, .agg (b.map bv).toArray)] ?_ ⟨rfl, rfl, trivial⟩
  refine W_rs ?_
  refine st (X.boxA rfl) rfl ?_
  refine st (X.boxA rfl) rfl ?_
  refine sa rfl rfl ?_
  refine Wn (tN ?_)
  generalize (w.alloc (.cells (a.map bv).toArray 36)).heap.size = g2 at k1 ⊢
  generalize (w.alloc (.cells (a.map bv).toArray 36)).alloc (.cells (b.map bv).toArray 36) = w2 at k0 k1 hG ⊢
  refine W_drsN (fun _ => True) [0, 1, 2, 3] [true, true, false, true] (by kernel_rfl) (by kernel_rfl) trivial ?_
  refine oY rfl (fun W_ hW_ => X.slArr rfl Try.underlying36 siz5) rfl ?_
  refine oY rfl (fun W_ hW_ => X.slArr rfl Try.underlying36 siz5) rfl ?_
  refine oL rfl (fun Q_ hQ_ hP_ => ?_)
  have hc := SCmp_any w.heap.size 0 32 g2 0 32 a b w2.drew (by rw [ha, hb]) (by omega) (blk_bytes k0.drew) (blk_bytes k1.drew)
  rw [ha, hb] at hc
  refine sc _ Try.func97 rfl (by kernel_rfl) rfl rfl (hc.mono ?_)
  rintro e_ w_ ⟨rfl, rfl⟩
  refine cR ?_
  refine Wn (hQ_ _ _ trivial ?_)
  refine oY rfl (fun W_ hW_ => X.assign rfl) rfl ?_
  refine oN ?_
  refine nN ?_
  refine W_ret ?_
  exact (rT rfl rfl ⟨rfl, hG.drew⟩).1
set_option maxRecDepth 10000 in
theorem MakeCmp_any (x y : Ent) (hx : x.sum.length = 32) (hy : y.sum.length = 32) (w : World) :
    Calls Try.prog 77 #[.agg x.cells.toArray, .agg y.cells.toArray] w (CmpIs w (cmpSum x.sum y.sum)) := by
  have k0 : Blk ((w.alloc (.cells x.cells.toArray 90)).alloc (.cells y.cells.toArray 90)) w.heap.size 90 x.cells.toArray := (Blk.new w _ _).alloc _
  have k1 : Blk ((w.alloc (.cells x.cells.toArray 90)).alloc (.cells y.cells.toArray 90)) (w.alloc (.cells x.cells.toArray 90)).heap.size 90 y.cells.toArray := Blk.new _ _ _
  have hG : Grows w ((w.alloc (.cells x.cells.toArray 90)).alloc (.cells y.cells.toArray 90)) := ((Grows.refl w).alloc _).alloc _
  refine W_enter (args := [.agg x.cells.toArray, .agg y.cells.toArray]) 10 Try.func77 rfl rfl rfl ?_
  refine W_sub [(0, .agg x.cells.toArray), (1, .agg y.cells.toArray)] ?_ ⟨rfl, rfl, trivial⟩
  refine W_rs ?_
  refine st (X.boxA rfl) rfl ?_
  refine st (X.boxA rfl) rfl ?_
  refine sa rfl rfl ?_
  refine Wn (tN ?_)
  generalize (w.alloc (.cells x.cells.toArray 90)).heap.size = g2 at k1 ⊢
  generalize (w.alloc (.cells x.cells.toArray 90)).alloc (.cells y.cells.toArray 90) = w2 at k0 k1 hG ⊢
  refine W_rs ?_
  refine st (X.fa fa90_0 rfl) rfl ?_
  refine st (X.ldN (cs := x.sum.map bv) rfl Try.underlying36 rfl (by rw [List.length_map, hx]; exact siz36) (entSum k0)) rfl ?_
  refine st (X.fa fa90_0 rfl) rfl ?_
  refine st (X.ldN (cs := y.sum.map bv) rfl Try.underlying36 rfl (by rw [List.length_map, hy]; exact siz36) (entSum k1)) rfl ?_
  refine sc _ Try.func78 rfl (by kernel_rfl) rfl rfl ((Compare_fan x.sum y.sum hx hy _).mono ?_)
  rintro e_ w3 ⟨rfl, hG2⟩
  refine cR ?_
  refine sa rfl rfl ?_
  refine Wn ?_
  refine tN ?_
  refine W_ret ?_
  exact (rT rfl rfl ⟨rfl, hG.trans hG2⟩).1
end Go.Proofs.Ytnagmpnpgekhfaa
namespace Go.Proofs.Ytnagmpnpgekhfaa
open Go.RowKit Go.Shelf
def sortRenEnt : Ren :=
  { f := fun x => match x with | 6 => 76 | 15 => 96 | 14 => 95 | 28 => 112 | 29 => 113 | 20 => 104 | 21 => 105 | 22 => 106 | 23 => 107 | 24 => 108 | 25 => 109 | 26 => 110 | 27 => 111 | 46 => 118 | 47 => 119 | 48 => 120 | 49 => 121 | 50 => 122 | 57 => 133 | n => n
    t := fun x => match x with | 22 => 69 | 24 => 90 | 25 => 122 | 3 => 3 | 39 => 137 | 0 => 0 | 53 => 114 | 55 => 159 | 4 => 4 | 46 => 151 | 45 => 150 | 50 => 155 | 5 => 5 | 9 => 9 | 66 => 165 | 70 => 169 | 76 => 178 | 77 => 179 | n => n
    g := fun x => x }
set_option maxRecDepth 100000 in
theorem sortLaysEnt : SlLaysF0.n6 Try.prog sortRenEnt := by
  constructor
  all_goals first | exact bears_of (by kernel_rfl) (by kernel_rfl) | kernel_rfl | exact fun _ => by kernel_rfl
abbrev Ent32 := { e : Ent // e.sum.length = 32 }
def cmpE (x y : Ent32) : Int := cmpSum x.1.sum y.1.sum
theorem ltOf_cmpE (x y : Ent32) : ltOf cmpE x y = decide (x.1.sum < y.1.sum) := by
  unfold ltOf cmpE cmpSum
  rw [decide_eq_decide]
  exact cmp_lt x.1.sum y.1.sum
theorem swoEnt : Sort.SWO (ltOf cmpE) where
  irrefl x := by rw [ltOf_cmpE]; exact decide_eq_false (klt_irrefl _)
  trans x y z h1 h2 := by rw [ltOf_cmpE] at *; exact decide_eq_true (klt_trans (of_decide_eq_true h1) (of_decide_eq_true h2))
  ntrans x y z h1 h2 := by
    rw [ltOf_cmpE] at *
    refine decide_eq_false fun h => ?_
    have h1 := of_decide_eq_false h1
    have h2 := of_decide_eq_false h2
    rcases klt_tri x.1.sum y.1.sum with k | k | k
    · exact h1 k
    · exact h2 (k ▸ h)
    · exact h2 (klt_trans k h)
instance : Inhabited Ent32 := ⟨⟨⟨List.replicate 32 0, 0, 0, 0⟩, by simp⟩⟩
def encE (k : Ent32) : List Value := k.1.cells
theorem encE_len (k : Ent32) : (encE k).length = 35 := Ent.cells_length k.2
theorem encE_one (k : Ent32) : ∀ v ∈ encE k, v.oneCell' = true := by
  intro v hv
  simp only [encE, Ent.cells, List.mem_append, List.mem_map, List.mem_cons, List.not_mem_nil, or_false] at hv
  rcases hv with ⟨u, _, rfl⟩ | rfl | rfl | rfl <;> rfl
set_option maxRecDepth 10000 in
theorem SortEnts_any (v : Value) (l : List Ent32) (w : World) (hR : Row w 90 35 v l.length (l.flatMap encE)) (hl : l.length ≤ 1000000) :
    Calls Try.prog 76 #[v, .func (.func 77) #[] #[]] w fun e w' => ∃ xs : List Ent32, e = .returned (.tuple #[]) ∧ xs.Perm l ∧ xs.Pairwise (fun x y => ¬ y.1.sum < x.1.sum) ∧ Row w' 90 35 v xs.length (xs.flatMap encE) ∧ Chg (fun k => v.ownBlock = some k) w w' := by
  rcases Nat.eq_zero_or_pos l.length with h0 | h0
  · obtain rfl : l = [] := List.eq_nil_of_length_eq_zero h0
    obtain ⟨a, c, rfl, _, _⟩ := hR.shape
    refine (AnyF.slices_SortFunc_none sortLaysEnt a c _ w).mono ?_
    rintro e w' ⟨rfl, rfl⟩
    exact ⟨[], rfl, .refl _, .nil, hR, Chg.refl _ _⟩
  · obtain ⟨g, o, c, rfl, hg⟩ := hR.reads.some_ h0
    have hcmp : CmpLays Try.prog 77 #[] encE 35 cmpE g o l.toArray.size w := fun m os dk hdk x y => by
      refine (MakeCmp_any x.1 y.1 x.2 y.2 _).mono ?_
      rintro e w' ⟨rfl, hG⟩
      exact ⟨rfl, hG⟩
    have hsz : l.toArray.size = l.length := by simp
    refine (AnyQ.slices_SortFunc (α := Ent32) sortLaysEnt 35 (fun _ => by kernel_rfl) (fun _ => by kernel_rfl) encE encE_len encE_one cmpE swoEnt 77 #[] g o c l.toArray w (enters_of Try.func77 (by kernel_rfl) rfl) hcmp (row_holds encE_len hR rfl) hg (by rw [hsz]; omega)).mono ?_
    rintro e w' ⟨rfl, d', n', os, hp, hs, hw⟩
    have hdz : d'.size = l.length := by rw [hp.1]; exact hsz
    have hperm : d'.toList.Perm l := by
      have h3 := hp.2.2
      rw [hsz] at h3
      have e1 : (d'.extract 0 l.length).toList = d'.toList := by simp [← hdz]
      have e2 : (l.toArray.extract 0 l.length).toList = l := by simp [List.extract_eq_take_drop]
      rw [e1, e2] at h3
      exact h3
    obtain ⟨hRow, hC⟩ := sort_row encE_len hR rfl hdz hw
    refine ⟨d'.toList, rfl, hperm, ?_, ?_, hC.mono (fun k _ hk => by subst hk; rfl)⟩
    · rw [List.pairwise_iff_getElem]
      intro i j hi hj hij
      have hi' : i < d'.size := by simpa using hi
      have hj' : j < d'.size := by simpa using hj
      have h4 := hs i j (Nat.zero_le _) hij (by rw [hsz, ← hdz]; exact hj')
      rw [ltOf_cmpE, getElem!_pos d' j hj', getElem!_pos d' i hi'] at h4
      have h5 := of_decide_eq_false h4
      simpa only [Array.getElem_toList] using h5
    · have e3 : d'.toList.length = l.length := by simpa using hdz
      rw [e3]
      exact hRow
end Go.Proofs.Ytnagmpnpgekhfaa
namespace Go.Proofs.Ytnagmpnpgekhfaa
open Go.RowKit
theorem all_at {p : Int → Bool} {l : List Int} {j : Nat} {x : Int} (h : l[j]? = some x) : (l.drop j).all p = (p x && (l.drop (j + 1)).all p) := by
  obtain ⟨hj, rfl⟩ := List.getElem?_eq_some_iff.1 h
  rw [List.drop_eq_getElem_cons hj, List.all_cons]
theorem May_any (v : Value) (ns : List Int) (w : World) (h : Reads w 1 v ns.length (ns.map (Value.int .i64))) : Calls Try.prog 74 #[v] w fun e w' => e = .returned (.bool (ns.all fitN)) ∧ Below w.heap.size w w' := by
  obtain ⟨a, cp, rfl, hn, hcp⟩ := h.shape
  refine W_enter (args := [.slice a ns.length cp]) 18 Try.func74 rfl rfl rfl ?_
  refine W_sub [(0, .slice a ns.length cp)] ?_ ⟨rfl, trivial⟩
  have hbw := Below.refl w.heap.size w
  refine W_rs ?_
  refine sa rfl rfl ?_
  refine Wn ?_
  refine tN ?_
  refine W_seq ?_
  refine W_rs ?_
  refine sm rfl rfl ?_
  refine st (X.lenL rfl rfl Try.underlying140) rfl ?_
  refine sm rfl rfl ?_
  refine Wn ?_
  refine tN ?_
  refine W_block ?_
  refine W_lp (fun nw1_ lw1_ w1 => ∃ j : Nat, nw1_ = ns.length - j ∧ lw1_ = ([(5, .slice a ns.length cp), (6, .int .i64 ns.length), (7, .int .i64 j)] : Env) ∧ (j ≤ ns.length) ∧ (ns.all fitN = (ns.drop j).all fitN) ∧ (Below w.heap.size w w1)) _ ⟨_, ⟨0, rfl, rfl, by omega, rfl, hbw⟩, ⟨rfl, rfl, rfl, trivial⟩⟩ ?_
  clear hbw
  rintro nw1_ lw1_ w1 ⟨j, rfl, rfl, hj, hq, hbw⟩
  have hz_w1 := hbw.size
  refine W_rs ?_
  refine st (X.lss rfl rfl) rfl ?_
  refine Wn ?_
  refine tN ?_
  refine W_seq ?_
  refine W_if rfl (fun h8 => ?_) (fun h8 => ?_)
  · first | replace h8 := of_decide_eq_true h8 | replace h8 := of_decide_eq_false (notT h8) | replace h8 := notT h8 | skip
    obtain ⟨x, hx⟩ : ∃ x, ns[j]? = some x := ⟨_, List.getElem?_eq_getElem (by omega)⟩
    have hxv : (ns.map (Value.int .i64))[j]? = some (.int .i64 x) := by rw [List.getElem?_map, hx]; rfl
    obtain ⟨g1, o1, c', hv, hg1⟩ := (h.bel hbw).some_ (by omega)
    injection hv with e1 _ e3
    subst e1 e3
    refine W_skip ?_
    refine tN ?_
    refine W_seq ?_
    refine W_block ?_
    refine W_rs ?_
    refine st (X.idxA rfl rfl Try.underlying140 siz3 rfl (by omega)) rfl ?_
    refine st (X.ld rfl Try.underlying3 rfl (by rw [Nat.mul_one]; exact (h.bel hbw).cellAt (by omega) hxv)) rfl ?_
    refine sa rfl rfl ?_
    refine Wn ?_
    refine tN ?_
    refine W_rs ?_
    refine sm rfl rfl ?_
    refine st (X.lss rfl rfl) rfl ?_
    refine sb rfl rfl (fun h13 => ?_) (fun h13 => ?_)
    · first | replace h13 := of_decide_eq_true h13 | replace h13 := of_decide_eq_false (notT h13) | replace h13 := notT h13 | skip
      refine gN (g := 13) rfl rfl rfl rfl ?_
      refine gN (g := 13) rfl rfl rfl rfl ?_
      refine st (X.pickT rfl rfl) rfl ?_
      refine Wn ?_
      refine tN ?_
      refine W_yes rfl (rfl) ?_
      refine W_rs ?_
      refine sa rfl rfl ?_
      refine Wn ?_
      refine tN ?_
      refine W_ret (bR (tR (tR (bR (tR ?_)))))
      refine (rT rfl rfl ⟨?_, hbw⟩).1
      rw [hq, all_at hx, show fitN x = false from decide_eq_false (by omega)]
      rfl
    · first | replace h13 := of_decide_eq_false h13 | replace h13 := of_decide_eq_true (notF h13) | replace h13 := notF h13 | skip
      refine gY (g := 13) rfl rfl rfl ?_
      refine sm rfl rfl ?_
      refine gY (g := 13) rfl rfl rfl ?_
      refine st (X.gtr rfl rfl) rfl ?_
      refine st (X.pickF rfl rfl) rfl ?_
      refine Wn ?_
      refine tN ?_
      refine W_if rfl (fun h16 => ?_) (fun h16 => ?_)
      · first | replace h16 := of_decide_eq_true h16 | replace h16 := of_decide_eq_false (notT h16) | replace h16 := notT h16 | skip
        refine W_rs ?_
        refine sa rfl rfl ?_
        refine Wn ?_
        refine tN ?_
        refine W_ret (bR (tR (tR (bR (tR ?_)))))
        refine (rT rfl rfl ⟨?_, hbw⟩).1
        rw [hq, all_at hx, show fitN x = false from decide_eq_false (by omega)]
        rfl
      · first | replace h16 := of_decide_eq_false h16 | replace h16 := of_decide_eq_true (notF h16) | replace h16 := notF h16 | skip
        refine W_skip ?_
        refine bN ?_
        refine tN ?_
        refine W_reg ?_
        refine st (X.add64 rfl rfl (by omega)) rfl ?_
        refine sm rfl rfl ?_
        refine Wn ?_
        refine tN ⟨_, _, ?_, ⟨j + 1, rfl, rfl, by omega, by rw [hq, all_at hx, show fitN x = true from decide_eq_true (by omega)]; rfl, hbw⟩, ⟨rfl, rfl, rfl, trivial⟩⟩
        omega
  · first | replace h8 := of_decide_eq_false h8 | replace h8 := of_decide_eq_true (notF h8) | replace h8 := notF h8 | skip
    refine W_exit (tE (tE (bH ?_)))
    refine tN ?_
    refine W_rs ?_
    refine sa rfl rfl ?_
    refine Wn ?_
    refine tN ?_
    refine W_ret ?_
    obtain rfl : j = ns.length := by omega
    refine (rT rfl rfl ⟨?_, hbw⟩).1
    rw [hq, List.drop_length]
    rfl
theorem eqSlNil (w : World) (a : Addr) (n c : Nat) : (binOp .eql 69 (.slice (some a) n c) (.slice none 0 0)).run Try.prog w = .ok (.bool false) w := by kernel_rfl
theorem eqSlNil0 (w : World) (n c : Nat) : (binOp .eql 69 (.slice none n c) (.slice none 0 0)).run Try.prog w = .ok (.bool true) w := by kernel_rfl
theorem X.slNil {l : Env} {x : Operand} {w : World} {t' ty : TypeId} {a : Addr} {n c : Nat} (hx : ev l x = some (.slice (some a) n c)) : X Try.prog l (.binOp .eql 69 x (.const (.slice none 0 0)) t') ty w (.bool false) w :=
  X.bin hx rfl (fun _ _ => by unfold eqGuard; simp) (eqSlNil w a n c)
theorem X.slNil0 {l : Env} {x : Operand} {w : World} {t' ty : TypeId} {n c : Nat} (hx : ev l x = some (.slice none n c)) : X Try.prog l (.binOp .eql 69 x (.const (.slice none 0 0)) t') ty w (.bool true) w :=
  X.bin hx rfl (fun _ _ => by unfold eqGuard; simp) (eqSlNil0 w n c)
theorem bsl0 (w : World) : (Instr.buildSlice 69 0 #[]).run Try.prog w = .ok (.slice (some ⟨w.heap.size, 0, none⟩) 0 0) (w.alloc (.cells #[] 90)) := by kernel_rfl
theorem EntClone_any (v : Value) (l : List Ent) (w : World) (h : Reads w 35 v l.length (l.flatMap Ent.cells)) (h32 : ∀ e ∈ l, e.sum.length = 32) (hl : l.length ≤ 1000000) : Calls Try.prog 75 #[v] w fun e w' => ∃ v', e = .returned v' ∧ Row w' 90 35 v' l.length (l.flatMap Ent.cells) ∧ (∀ k, v'.ownBlock = some k → w.heap.size ≤ k) ∧ Below w.heap.size w w' := by
  obtain ⟨a, cp, rfl, hn, hcp⟩ := h.shape
  have hone : ∀ u ∈ l.flatMap Ent.cells, u.oneCell' = true := fun u hu => by
    obtain ⟨e, he, hu⟩ := List.mem_flatMap.1 hu
    exact encE_one ⟨e, h32 e he⟩ u hu
  rcases a with _ | a
  · have h0 : l = [] := by
      refine List.eq_nil_of_length_eq_zero (Nat.eq_zero_of_not_pos fun hp => ?_)
      obtain ⟨g1, o1, c', hv, _⟩ := h.some_ hp
      injection hv with e1
      cases e1
    subst h0
    refine W_enter (args := [.slice none 0 cp]) 8 Try.func75 rfl rfl rfl ?_
    refine W_sub [(0, .slice none 0 cp)] ?_ ⟨rfl, trivial⟩
    have hbw := Below.refl w.heap.size w
    refine W_rs ?_
    refine sa rfl rfl ?_
    refine Wn ?_
    refine tN ?_
    refine W_seq ?_
    refine W_rs ?_
    refine sm rfl rfl ?_
    refine st (X.slNil0 rfl) rfl ?_
    refine Wn ?_
    refine tN ?_
    refine W_yes rfl (rfl) ?_
    refine W_rs ?_
    refine sa rfl rfl ?_
    refine Wn ?_
    refine tN ?_
    refine W_ret (tR ?_)
    exact (rT rfl rfl ⟨_, rfl, Row.nil _ _ _, fun k hk => by simp [Value.ownBlock] at hk, hbw⟩).1
  · skip
    refine W_enter (args := [.slice (some a) l.length cp]) 8 Try.func75 rfl rfl rfl ?_
    refine W_sub [(0, .slice (some a) l.length cp)] ?_ ⟨rfl, trivial⟩
    have hbw := Below.refl w.heap.size w
    refine W_rs ?_
    refine sa rfl rfl ?_
    refine Wn ?_
    refine tN ?_
    refine W_seq ?_
    refine W_rs ?_
    refine sm rfl rfl ?_
    refine st (X.slNil rfl) rfl ?_
    refine Wn ?_
    refine tN ?_
    refine W_no rfl (rfl) ?_
    refine W_skip ?_
    refine tN ?_
    refine W_rs ?_
    refine sbs (ps := []) 35 rfl (bsl0 _) (by simp [maxLen]) rfl rfl (fun g5 w1 hR5 hg5 hb => ?_)
    replace hbw := bthen hbw hb
    have hz30 := hb.size
    clear hb
    refine sm rfl rfl ?_
    refine sapp rfl rfl Try.underlying69 inf90 rfl (by decide) hR5 ((h.bel hbw).src Try.underlying69 hone) (by simp only [maxLen]; omega) (by omega) rfl (fun v' w2 hR' hCc hv' => ?_)
    replace hbw := bapp hbw hCc (fun k hk => by simp [Value.ownBlock] at hk; omega)
    have hO' := own_next hv' (B := w.heap.size) (fun k hk => by simp [Value.ownBlock] at hk; omega) (by omega)
    clear hCc hv'
    refine sa rfl rfl ?_
    refine Wn ?_
    refine tN ?_
    refine W_ret ?_
    exact (rT rfl rfl ⟨v', rfl, by simpa using hR', hO', hbw⟩).1
end Go.Proofs.Ytnagmpnpgekhfaa
namespace Go.Proofs.Ytnagmpnpgekhfaa
open Go.RowKit
theorem CompareB_any (a b : List UInt8) (ha : a.length = 32) (hb : b.length = 32) (w : World) :
    Calls Try.prog 78 #[.agg (a.map bv).toArray, .agg (b.map bv).toArray] w fun e w' => e = .returned (.int .i64 (cmpSum a b)) ∧ Below w.heap.size w w' := (Compare_fan a b ha hb w).mono fun _ _ h => ⟨h.1, h.2.bel⟩
theorem Less_any (a b : List UInt8) (ha : a.length = 32) (hb_ : b.length = 32) (w : World) :
    Calls Try.prog 59 #[.agg (a.map bv).toArray, .agg (b.map bv).toArray] w fun e w' => e = .returned (.bool (decide (a < b))) ∧ Below w.heap.size w w' := by
  refine W_enter (args := [.agg (a.map bv).toArray, .agg (b.map bv).toArray]) 9 Try.func59 rfl rfl rfl ?_
  refine W_sub [(0, .agg (a.map bv).toArray), (1, .agg (b.map bv).toArray)] ?_ ⟨rfl, rfl, trivial⟩
  have hbw := Below.refl w.heap.size w
  refine W_rs ?_
  refine sboxA rfl rfl (fun g2 w1 hB2 hg2 hb hl2 => ?_)
  replace hbw := bthen hbw hb
  have hz_w1 := hb.size
  clear hb
  refine sboxA rfl rfl (fun g3 w2 hB3 hg3 hb hl3 => ?_)
  replace hbw := bthen hbw hb
  replace hB2 := hB2.bel hb
  have hz_w2 := hb.size
  clear hb
  refine sa rfl rfl ?_
  refine Wn ?_
  refine tN ?_
  refine W_rs ?_
  refine st (X.ldBN (cs := (a.map bv).toArray) rfl hB2 Try.underlying36 rfl (by rw [encSum_size ⟨a, ha⟩]; exact siz36)) rfl ?_
  refine st (X.ldBN (cs := (b.map bv).toArray) rfl hB3 Try.underlying36 rfl (by rw [encSum_size ⟨b, hb_⟩]; exact siz36)) rfl ?_
  refine sc _ Try.func78 rfl (by kernel_rfl) rfl rfl ((CompareB_any a b ha hb_ _).mono ?_)
  rintro e_ w3 ⟨rfl, hb⟩
  refine cR ?_
  replace hbw := bthen hbw hb
  replace hB2 := hB2.bel hb
  replace hB3 := hB3.bel hb
  have hz_w3 := hb.size
  clear hb
  refine st (X.lss rfl rfl) rfl ?_
  refine sa rfl rfl ?_
  refine Wn ?_
  refine tN ?_
  refine W_ret ?_
  refine (rT rfl rfl ⟨?_, hbw⟩).1
  congr 2
  rw [decide_eq_decide]
  exact cmp_lt a b
theorem ILen_any (v : Value) (l : List Ent) (w : World) (h : Reads w 35 v l.length (l.flatMap Ent.cells)) : Calls Try.prog 51 #[.agg #[v]] w fun e w' => e = .returned (.int .i64 l.length) ∧ Below w.heap.size w w' := by
  obtain ⟨a, cp, rfl, hn, hcp⟩ := h.shape
  refine W_enter (args := [.agg #[.slice a l.length cp]]) 6 Try.func51 rfl rfl rfl ?_
  refine W_sub [(0, .agg #[.slice a l.length cp])] ?_ ⟨rfl, trivial⟩
  have hbw := Below.refl w.heap.size w
  refine W_rs ?_
  refine sboxA rfl rfl (fun g1 w1 hB1 hg1 hb hl1 => ?_)
  replace hbw := bthen hbw hb
  have hz_w1 := hb.size
  clear hb
  refine sa rfl rfl ?_
  refine Wn ?_
  refine tN ?_
  refine W_rs ?_
  refine st (X.fa fa71_0 rfl) rfl ?_
  refine st (X.ldL rfl hB1 Try.underlying69 rfl rfl) rfl ?_
  refine st (X.lenL rfl rfl Try.underlying69) rfl ?_
  refine sa rfl rfl ?_
  refine Wn ?_
  refine tN ?_
  refine W_ret ?_
  exact (rT rfl rfl ⟨rfl, hbw⟩).1
theorem IAll_any (v : Value) (l : List Ent) (w : World) (h : Reads w 35 v l.length (l.flatMap Ent.cells)) (h32 : ∀ e ∈ l, e.sum.length = 32) (hl : l.length ≤ 1000000) : Calls Try.prog 54 #[.agg #[v]] w fun e w' => ∃ v', e = .returned v' ∧ Row w' 90 35 v' l.length (l.flatMap Ent.cells) ∧ (∀ k, v'.ownBlock = some k → w.heap.size ≤ k) ∧ Below w.heap.size w w' := by
  obtain ⟨a, cp, rfl, hn, hcp⟩ := h.shape
  refine W_enter (args := [.agg #[.slice a l.length cp]]) 6 Try.func54 rfl rfl rfl ?_
  refine W_sub [(0, .agg #[.slice a l.length cp])] ?_ ⟨rfl, trivial⟩
  have hbw := Below.refl w.heap.size w
  refine W_rs ?_
  refine sboxA rfl rfl (fun g1 w1 hB1 hg1 hb hl1 => ?_)
  replace hbw := bthen hbw hb
  have hz_w1 := hb.size
  clear hb
  refine sa rfl rfl ?_
  refine Wn ?_
  refine tN ?_
  refine W_rs ?_
  refine st (X.fa fa71_0 rfl) rfl ?_
  refine st (X.ldL rfl hB1 Try.underlying69 rfl rfl) rfl ?_
  refine sc _ Try.func75 rfl (by kernel_rfl) rfl rfl ((EntClone_any _ l _ (h.bel hbw) h32 hl).mono ?_)
  rintro e_ w2 ⟨v', rfl, hR, hO, hb⟩
  refine cR ?_
  replace hbw := bthen hbw hb
  replace hB1 := hB1.bel hb
  have hz_w2 := hb.size
  clear hb
  refine sa rfl rfl ?_
  refine Wn ?_
  refine tN ?_
  refine W_ret ?_
  exact (rT rfl rfl ⟨v', rfl, hR, fun k hk => by have := hO k hk; omega, hbw⟩).1
end Go.Proofs.Ytnagmpnpgekhfaa
