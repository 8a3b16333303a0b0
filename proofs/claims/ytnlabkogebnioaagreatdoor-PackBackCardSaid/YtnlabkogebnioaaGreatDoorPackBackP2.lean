/- What PackBack needs, part 2. -/
import Derived.Defers
import Derived.Recover
import Derived.Maps.RangeRun
import Derived.RangeFuncNested
import Derived.RangeFuncCalls
import Derived.RangeFuncLeaves
import Derived.Shelf.SlIter.Sorted
import Derived.Shelf.SlIter.Keys
import Derived.Shelf.SortM.Plain
import Derived.Shelf.SortM.SortNone
import Derived.Test.YtnlabkogebnioaaGreatDoorRows
import Derived.WalkKit
import Derived.ProofKit
import Derived.OpenShut
import Derived.Deep.DeepHandedRow
import Derived.Lib.LaidTab
import Derived.ShutString
import Derived.ChangeOld
import Derived.SliceStrings
import Derived.Deep.Slices
import Derived.Lib.SmallJoins
import Derived.Scope
import Derived.Laws.IdiomStrings
import Derived.Below
import Derived.Test.YtnlabkogebnioaaGreatDoorPackBackP1
namespace Go.Proofs.YtnlabkogebnioaaGreatDoor
open Go.RowKit
theorem halved_any (x : UInt32) (w : World) : Calls Tryz.prog 217 #[.int .u32 x.toNat] w fun e w' => e = .returned (.int .u32 (Crc.half x).toNat) ∧ w = w' := by
 have h1 : ((x.toNat : Int) / 2) = ((x >>> 1).toNat : Int) := shr_u32 x 1 (by omega)
 refine W_enter (args := [.int .u32 x.toNat]) 11 Tryz.func217 rfl rfl rfl (W_sub [(0, .int .u32 x.toNat)] ?_ ⟨rfl, trivial⟩)
 refine W_rs (sa rfl rfl (Wn (tN (W_seq (W_rs (sm rfl rfl (st (X.bits (by simp) rfl rfl (and_u32 x 1)) rfl ?_)))))))
 refine st (X.eql rfl rfl) rfl (Wn (tN (W_if rfl (fun h5 => ?_) (fun h5 => ?_))))
 ·first | replace h5 := of_decide_eq_true h5 | replace h5 := of_decide_eq_false (notT h5) | replace h5 := notT h5 | skip
  refine W_rs (sm rfl rfl (st (X.shrz (q := 2) rfl rfl (by decide) (by decide) rfl rfl h1) rfl (st (X.bits (by simp) rfl rfl (xor_u32 _ Crc.poly)) rfl ?_)))
  refine sa rfl rfl (Wn (tN (W_ret (tR ((rT rfl rfl ⟨?_, rfl⟩).1)))))
  unfold Crc.half; rw [if_pos (UInt32.toNat.inj (by show _ = 1; omega))]
 ·first | replace h5 := of_decide_eq_false h5 | replace h5 := of_decide_eq_true (notF h5) | replace h5 := notF h5 | skip
  refine W_skip (tN (W_rs (sm rfl rfl (st (X.shrz (q := 2) rfl rfl (by decide) (by decide) rfl rfl h1) rfl (sa rfl rfl (Wn (tN (W_ret ((rT rfl rfl ⟨?_, rfl⟩).1)))))))))
  unfold Crc.half; rw [if_neg (fun e => h5 (by rw [e]; rfl))]
def halfN : Nat → UInt32 → UInt32
  | 0, x => x
  | n + 1, x => Crc.half (halfN n x)
theorem row_any (b : UInt8) (w : World) : Calls Tryz.prog 183 #[.int .u8 b.toNat] w fun e w' => e = .returned (.int .u32 (Crc.row b).toNat) ∧ w = w' := by
 refine W_enter (args := [.int .u8 b.toNat]) 12 Tryz.func183 rfl rfl rfl (W_sub [(0, .int .u8 b.toNat)] ?_ ⟨rfl, trivial⟩)
 refine W_rs (sa rfl rfl (Wn (tN (W_rs (sm rfl rfl (st (X.convI rfl Tryz.underlying5 Tryz.underlying145 ((w32 _).trans (u8_to_u32 b))) rfl (sa rfl rfl (Wn (tN (W_seq ?_))))))))))
 refine W_rs (sm rfl rfl (Wn (tN (W_block (W_lp (fun nw1_ lw1_ w1 => ∃ j : Nat, nw1_ = 8 - j ∧ lw1_ = ([(3, .int .u32 (halfN j b.toUInt32).toNat), (6, .int .i64 j)] : Env) ∧ (j ≤ 8) ∧ (w = w1)) _ ⟨_, ⟨0, rfl, rfl, by omega, rfl⟩, ⟨rfl, rfl, trivial⟩⟩ ?_)))))
 rintro nw1_ lw1_ w1 ⟨j, rfl, rfl, hj, hw⟩
 refine W_rs (st (X.lss rfl rfl) rfl (Wn (tN (W_seq (W_if rfl (fun h7 => ?_) (fun h7 => ?_))))))
 ·first | replace h7 := of_decide_eq_true h7 | replace h7 := of_decide_eq_false (notT h7) | replace h7 := notT h7 | skip
  refine W_skip (tN (W_seq (W_block (W_reg (sm rfl rfl (sc _ Tryz.func217 rfl (by kernel_rfl) rfl rfl ((halved_any (halfN j b.toUInt32) _).mono ?_)))))))
  rintro e_ w_ ⟨rfl, rfl⟩
  refine cR (sa rfl rfl (Wn (bN (tN (W_reg (st (X.add64 rfl rfl (by omega)) rfl (sm rfl rfl (Wn (tN ⟨_, _, ?_, ⟨j + 1, rfl, rfl, by omega, hw⟩, ⟨rfl, rfl, trivial⟩⟩)))))))))
  omega
 ·first | replace h7 := of_decide_eq_false h7 | replace h7 := of_decide_eq_true (notF h7) | replace h7 := notF h7 | skip
  refine W_exit (tE (tE (bH (tN (W_rs (sm rfl rfl (sa rfl rfl (Wn (tN (W_ret ((rT rfl rfl ⟨?_, hw⟩).1)))))))))))
  obtain rfl : j = 8 := by omega
  rfl
theorem rep_size (n : Nat) (v : Value) : (List.replicate n v).toArray.size = n := by simp
def tabV : Array Value := ((List.range 256).map fun k => Value.int .u32 (Crc.row (UInt8.ofNat k)).toNat).toArray
theorem tabV_size : tabV.size = 256 := by simp [tabV]
theorem tabV_at (k : Nat) (h : k < 256) : tabV[k]? = some (.int .u32 (Crc.row (UInt8.ofNat k)).toNat) := by
 simp [tabV, h]
theorem tabV_one : tabV.toList.all (·.oneCell') = true := by
 simp [tabV, Value.oneCell']
def TabTo (cs : Array Value) (j : Nat) : Prop := cs.size = 256 ∧ ∀ k, k < j → cs[k]? = some (.int .u32 (Crc.row (UInt8.ofNat k)).toNat)
theorem TabTo.all {cs : Array Value} (h : TabTo cs 256) : cs = tabV := by
 apply Array.ext_getElem?
 intro k
 by_cases hk : k < 256
 ·rw [h.2 k hk, tabV_at k hk]
 ·rw [Array.getElem?_eq_none (by rw [h.1]; omega), Array.getElem?_eq_none (by rw [tabV_size]; omega)]
theorem TabTo.next {cs : Array Value} {j : Nat} (h : TabTo cs j) (hj : j < 256) : TabTo (cs.setIfInBounds j (.int .u32 (Crc.row (UInt8.ofNat j)).toNat)) (j + 1) := by
 refine ⟨by simpa using h.1, fun k hk => ?_⟩
 rw [Array.getElem?_setIfInBounds]
 by_cases e : j = k
 ·subst e; rw [if_pos rfl, if_pos (by rw [h.1]; exact hj)]
 ·rw [if_neg e]; exact h.2 k (by omega)
theorem table_any (w : World) : Calls Tryz.prog 156 #[] w fun e w' => e = .returned (.agg tabV) ∧ Below w.heap.size w w' := by
 refine W_enter (args := []) 13 Tryz.func156 rfl rfl rfl ?_
 have hbw := Below.refl w.heap.size w
 refine W_rs (salA inf231 rfl (fun g0 w1 hB0 hg0 hb hl0 => ?_))
 replace hbw := bthen hbw hb
 have hz_w1 := hb.size
 clear hb
 refine Wn (tN (W_rs (salA inf231 rfl (fun g1 w2 hB1 hg1 hb hl1 => ?_))))
 replace hbw := bthen hbw hb
 replace hB0 := hB0.bel hb
 have hz_w2 := hb.size
 clear hb
 refine Wn (tN (W_seq (W_rs (sm rfl rfl (Wn (tN (W_block (W_lp (fun nw3_ lw3_ w3 => ∃ j : Nat, ∃ cs : Array Value, nw3_ = 256 - j ∧ lw3_ = ([(0, .pointer (some ⟨g0, 0, none⟩)), (1, .pointer (some ⟨g1, 0, none⟩)), (3, .int .i64 j)] : Env) ∧ (j ≤ 256) ∧ (TabTo cs j) ∧ (Blk w3 g0 231 (List.replicate 256 (.int .u32 0)).toArray) ∧ (Blk w3 g1 231 cs) ∧ (Below w.heap.size w w3)) _ ⟨_, ⟨0, _, rfl, rfl, by omega, ⟨rep_size 256 _, fun k hk => by omega⟩, hB0, hB1, hbw⟩, ⟨rfl, rfl, rfl, trivial⟩⟩ ?_))))))))
 clear hB0 hB1 hbw
 rintro nw3_ lw3_ w3 ⟨j, cs, rfl, rfl, hj, hcs, hB0, hB1, hbw⟩
 have hz_w3 := hbw.size
 have hlt_hB0_w3 := hB0.lt
 have hlt_hB1_w3 := hB1.lt
 refine W_rs (st (X.lss rfl rfl) rfl (Wn (tN (W_seq (W_if rfl (fun h4 => ?_) (fun h4 => ?_))))))
 ·first | replace h4 := of_decide_eq_true h4 | replace h4 := of_decide_eq_false (notT h4) | replace h4 := notT h4 | skip
  skip
  refine W_skip (tN (W_seq (W_block (W_rs (sm rfl rfl (sa rfl rfl (Wn (tN (W_reg (sm rfl rfl ?_))))))))))
  refine sm rfl rfl (st (X.convI rfl Tryz.underlying3 Tryz.underlying5 ((w8 _).trans (show ((j : Int) % 256) = ((UInt8.ofNat j).toNat : Int) by rw [UInt8.toNat_ofNat']; omega))) rfl ?_)
  refine sc _ Tryz.func183 rfl (by kernel_rfl) rfl rfl ((row_any (UInt8.ofNat j) _).mono ?_)
  rintro e_ w_ ⟨rfl, rfl⟩
  refine cR (st (X.idxArr rfl rfl Tryz.underlying231 siz145 rfl (by omega)) rfl (ssB rfl rfl hB1 siz145 rfl (by rw [hcs.1]; omega) (fun w4 hB_ hc_ => ?_)))
  rw [Nat.zero_add, Nat.mul_one] at hB_
  replace hB0 := hB0.chg hc_ (by show ¬ _ = _; omega)
  replace hB1 := hB_
  replace hbw := bset hbw hc_ (by omega)
  clear hB_ hc_
  refine Wn (bN (tN (W_reg (st (X.add64 rfl rfl (by omega)) rfl (sm rfl rfl (Wn (tN ⟨_, _, ?_, ⟨j + 1, _, rfl, rfl, by omega, hcs.next (by omega), hB0, hB1, hbw⟩, ⟨rfl, rfl, rfl, trivial⟩⟩)))))))
  omega
 ·first | replace h4 := of_decide_eq_false h4 | replace h4 := of_decide_eq_true (notF h4) | replace h4 := notF h4 | skip
  obtain rfl : j = 256 := by omega
  obtain rfl := hcs.all
  refine W_exit (tE (tE (bH (tN (W_rs (st (X.ldBN rfl hB1 Tryz.underlying231 rfl (by rw [tabV_size]; exact siz231)) rfl ?_))))))
  refine ssBN rfl rfl hB0 (by rw [tabV_size]; exact siz231) (by rw [tabV_size]; exact rep_size 256 _) tabV_one (fun w5 hB_ hc_ => ?_)
  replace hB0 := hB_
  clear hB_
  replace hB1 := hB1.chg hc_ (by first | (show ¬ _ = _; omega) | (intro k_ hk_; simp [Value.ownBlock] at hk_; subst hk_; show ¬ _ = _; omega) | assumption | trivial)
  replace hbw := bset hbw hc_ (by omega)
  have hz_w5 := hc_.size
  clear hc_
  refine Wn (tN (W_ret ?_))
  exact (rC rfl rfl hB0 Tryz.underlying231 rfl (by rw [tabV_size]; exact siz231) ⟨rfl, hbw⟩).1
theorem xor_ones (x : UInt32) : bits .xor .u32 (x.toNat : Int) 4294967295 = ((x ^^^ Crc.ones).toNat : Int) := xor_u32 x Crc.ones
theorem toU8_xor (x : UInt32) (b : UInt8) : bits .xor .u8 ((x.toUInt8).toNat : Int) (b.toNat : Int) = ((x.toUInt8 ^^^ b).toNat : Int) := xor_u8 _ b
theorem More_any (c : UInt32) (s : List UInt8) (w : World) (hs : s.length ≤ 9223372036854775807) : Calls Tryz.prog 119 #[.int .u32 c.toNat, str s] w fun e w' => e = .returned (.int .u32 ((s.foldl Crc.step (c ^^^ Crc.ones)) ^^^ Crc.ones).toNat) ∧ Below w.heap.size w w' := by
 refine W_enter (args := [.int .u32 c.toNat, str s]) 30 Tryz.func119 rfl rfl rfl (W_sub [(0, .int .u32 c.toNat), (1, str s)] ?_ ⟨rfl, rfl, trivial⟩)
 have hbw := Below.refl w.heap.size w
 refine W_rs (sa rfl rfl (Wn (tN (W_rs (sc _ Tryz.func156 rfl (by kernel_rfl) rfl rfl ((table_any _).mono ?_))))))
 rintro e_ w1 ⟨rfl, hb⟩
 refine cR ?_
 replace hbw := bthen hbw hb
 have hz_w1 := hb.size
 clear hb
 refine sm rfl rfl (st (X.bits (by simp) rfl rfl (xor_ones c)) rfl ?_)
 refine salA inf231 rfl (fun g5 w2 hB5 hg5 hb hl5 => ?_)
 replace hbw := bthen hbw hb
 have hz_w2 := hb.size
 clear hb
 refine ssBN rfl rfl hB5 (by rw [tabV_size]; exact siz231) (by rw [tabV_size]; exact rep_size 256 _) tabV_one (fun w3 hB_ hc_ => ?_)
 replace hB5 := hB_
 clear hB_
 replace hbw := bset hbw hc_ (by omega)
 have hz_w3 := hc_.size
 clear hc_
 refine sa rfl rfl (Wn (tN (W_seq (W_rs (sm rfl rfl (st (X.lenS rfl rfl Tryz.underlying9) rfl (sm rfl rfl (Wn (tN (W_block ?_))))))))))
 refine W_lp (fun nw4_ lw4_ w4 => ∃ j : Nat, nw4_ = s.length - j ∧ lw4_ = ([(1, str s), (5, .pointer (some ⟨g5, 0, none⟩)), (6, .int .u32 ((s.take j).foldl Crc.step (c ^^^ Crc.ones)).toNat), (12, .int .i64 s.length), (13, .int .i64 j)] : Env) ∧ (j ≤ s.length) ∧ (Blk w4 g5 231 tabV) ∧ (Below w.heap.size w w4)) _ ⟨_, ⟨0, rfl, rfl, by omega, hB5, hbw⟩, ⟨rfl, rfl, rfl, rfl, rfl, trivial⟩⟩ ?_
 clear hB5 hbw
 rintro nw4_ lw4_ w4 ⟨j, rfl, rfl, hj, hB5, hbw⟩
 have hz_w4 := hbw.size
 have hlt_hB5_w4 := hB5.lt
 refine W_rs (st (X.lss rfl rfl) rfl (Wn (tN (W_seq (W_if rfl (fun h14 => ?_) (fun h14 => ?_))))))
 ·first | replace h14 := of_decide_eq_true h14 | replace h14 := of_decide_eq_false (notT h14) | replace h14 := notT h14 | skip
  obtain ⟨x, hx⟩ : ∃ x, (s.take j).foldl Crc.step (c ^^^ Crc.ones) = x := ⟨_, rfl⟩
  have htk : (s.take (j + 1)).foldl Crc.step (c ^^^ Crc.ones) = Crc.step x (s.getD j 0) := by
   rw [List.take_succ_eq_append_getElem (by omega), List.foldl_append, hx]; simp [List.getD, List.getElem?_eq_getElem (show j < s.length by omega)]
  rw [hx]
  refine W_skip (tN (W_seq (W_block (W_rs (sm rfl rfl (sa rfl rfl (Wn (tN (W_reg (sm rfl rfl ?_))))))))))
  refine st (X.shrz (q := 256) rfl rfl (by decide) (by decide) rfl rfl (shr_u32 x 8 (by omega))) rfl (sm rfl rfl (st (X.convI rfl Tryz.underlying145 Tryz.underlying5 ((w8 _).trans (u32_to_u8 x))) rfl (sm rfl rfl (sm rfl rfl (st (X.idxS rfl rfl Tryz.underlying9 rfl (by omega)) rfl (st (X.bits (by simp) rfl rfl (toU8_xor x _)) rfl ?_))))))
  refine st (X.idxArr (j := (x.toUInt8 ^^^ s.getD j 0).toNat) rfl rfl Tryz.underlying231 siz145 rfl (UInt8.toNat_lt _)) rfl (st (X.ldB rfl hB5 Tryz.underlying145 rfl (by rw [Nat.zero_add, Nat.mul_one, tabV_at _ (UInt8.toNat_lt _), UInt8.ofNat_toNat])) rfl ?_)
  refine st (X.bits (by simp) rfl rfl (xor_u32 _ _)) rfl ?_
  refine sa rfl rfl (Wn (bN (tN (W_reg (st (X.add64 rfl rfl (by omega)) rfl (sm rfl rfl (Wn (tN ⟨_, _, ?_, ⟨j + 1, rfl, rfl, by omega, hB5, hbw⟩, ⟨rfl, rfl, by rw [htk]; rfl, rfl, rfl, trivial⟩⟩))))))))
  omega
 ·first | replace h14 := of_decide_eq_false h14 | replace h14 := of_decide_eq_true (notF h14) | replace h14 := notF h14 | skip
  refine W_exit (tE (tE (bH (tN (W_rs (sm rfl rfl (st (X.bits (by simp) rfl rfl (xor_ones _)) rfl ?_)))))))
  refine sa rfl rfl (Wn (tN (W_ret ((rT rfl rfl ⟨?_, hbw⟩).1))))
  rw [List.take_of_length_le (by omega)]
theorem Crc_any (s : List UInt8) (w : World) (hs : s.length ≤ 9223372036854775807) : Calls Tryz.prog 78 #[str s] w fun e w' => e = .returned (.int .u32 (Crc.crc s).toNat) ∧ Below w.heap.size w w' := by
 refine W_enter (args := [str s]) 5 Tryz.func78 rfl rfl rfl (W_sub [(0, str s)] ?_ ⟨rfl, trivial⟩)
 have hbw := Below.refl w.heap.size w
 refine W_rs (sa rfl rfl (Wn (tN (W_rs (sm rfl rfl (sc _ Tryz.func119 rfl (by kernel_rfl) rfl rfl ((More_any 0 s _ hs).mono ?_)))))))
 rintro e_ w1 ⟨rfl, hb⟩
 refine cR ?_
 replace hbw := bthen hbw hb
 have hz_w1 := hb.size
 clear hb
 refine sa rfl rfl (Wn (tN (W_ret ?_)))
 exact (rT rfl rfl ⟨rfl, hbw⟩).1
end Go.Proofs.YtnlabkogebnioaaGreatDoor
namespace Go.Proofs.YtnlabkogebnioaaGreatDoor
open Go.RowKit
section
variable {α : Type} {f : α → List Value} {q : TypeId} {k : Nat}
theorem Reads.rec_ {w : World} {g o c : Nat} {l : List α} (h : Reads w k (.slice (some ⟨g, o, none⟩) l.length c) l.length (l.flatMap f)) (hk : ∀ a ∈ l, (f a).length = k) {j : Nat} {x : α} (hx : l[j]? = some x) : w.rangeAt g (o + j * k) (f x) := by
 have hj := (List.getElem?_eq_some_iff.1 hx).1
 have := h.range j hj
 rwa [flat_at f k l j x hk hx] at this
end
end Go.Proofs.YtnlabkogebnioaaGreatDoor
namespace Go.Proofs.YtnlabkogebnioaaGreatDoor
open Go.RowKit
section
variable {P : Program} {ops : Array Oper} {Q : Exit → Act → World → Prop} {S : Array Bool → World → Prop} {n : Nat} {w0 : World}
def Shut (ops : Array Oper) (L : Array Bool) : Prop := ∀ (j : Nat) (oj : Oper), ops[j]? = some oj → L.getD j false = true → ∀ e ∈ oj.after, Region.binds .any e = true → L.getD e.on false = true
theorem Shut.set {L : Array Bool} {i : Nat} (h : Shut ops L) (hi : i ∈ Region.ready .any ops L) : Shut ops (L.setIfInBounds i true) := by
 obtain ⟨_, oi, hoi, hall⟩ := mem_ready.1 hi
 intro j oj hj hl e he hb
 by_cases hij : i = j
 ·subst hij
  obtain rfl : oj = oi := Option.some.inj (hj.symm.trans hoi)
  exact getD_set_true (hall e he hb)
 ·rw [getD_set_ne false hij] at hl
  exact getD_set_true (h j oj hj hl e he hb)
def wpAnyL' (P : Program) (ops : Array Oper) (Q : Exit → Act → World → Prop) (S : Array Bool → World → Prop) : Nat → Array Bool → Act → World → Prop
  | 0, L, a, w => Region.ready .any ops L = [] ∧ Q .normal a w
  | f + 1, L, a, w => (Region.ready .any ops L = [] → Q .normal a w) ∧ ∀ i ∈ Region.ready .any ops L, wpOp P ops Q i (fun a' w' => S (L.setIfInBounds i true) w' ∧ wpAnyL' P ops Q S f (L.setIfInBounds i true) a' w') a w
theorem wpAny_of_L' : ∀ (f : Nat) (L : Array Bool) (a : Act) (w : World), wpAnyL' P ops Q S f L a w → wpAny P .any ops Q f L a w
 | 0, _, _, _, h => h
 | f + 1, _, _, _, h => ⟨h.1, fun i hi => wpOp_mono (fun a' w' h' => wpAny_of_L' f _ a' w' h'.2) (h.2 i hi)⟩
def When (ops : Array Oper) (S : Array Bool → World → Prop) (i : Nat) (w : World) : Prop := ∃ L, Shut ops L ∧ L.getD i true = false ∧ S L w
theorem getD_both' {L : Array Bool} {i : Nat} (h : L.getD i true = false) : L.getD i false = false := by
 rcases Nat.lt_or_ge i L.size with h' | h'
 ·simp [h'] at h ⊢; exact h
 ·simp [Array.getElem?_eq_none h'] at h
theorem wpAnyL'_first {i : Nat} {oi : Oper} {v : Value} (hi : ops[i]? = some oi) (hsel : ∀ (j : Nat) (o : Oper) cs b, ops[j]? = some o → o.op ≠ .select cs b)
  (hQ : ∀ c a w, Q (.panic c) (a.put oi.dst v) w → Q (.panic c) a w) (hS : ∀ L w, S (L.setIfInBounds i true) w ↔ S L w) :
  ∀ (f : Nat) (L : Array Bool) (a : Act) (w : World), Shut ops L →
   (∀ j oj, ops[j]? = some oj → j ≠ i → L.getD j true = false → (∀ e ∈ oj.after, Region.binds .any e = true → e.on ≠ i) → oi.apart ops oj = true) →
   i ∈ Region.ready .any ops L → YieldsIf P ops (When ops S i) oi v a → S L w →
   wpAnyL' P ops Q S f (L.setIfInBounds i true) (a.put oi.dst v) w → wpAnyL' P ops Q S (f + 1) L a w := by
 intro f
 induction f with
 | zero =>
  intro L a w hL _ hr hy hs H
  refine ⟨fun h => (by rw [h] at hr; cases hr), fun j hj => ?_⟩
  by_cases hji : j = i
  ·subst hji
   exact hy.wpOp hi ⟨L, hL, (mem_ready.1 hr).1, hs⟩ ⟨(hS L w).2 hs, H⟩
  ·have := ready_mono hj hji
   rw [H.1] at this
   cases this
 | succ f ih =>
  intro L a w hL hfree hr hy hs H
  refine ⟨fun h => (by rw [h] at hr; cases hr), fun j hj => ?_⟩
  by_cases hji : j = i
  ·subst hji
   exact hy.wpOp hi ⟨L, hL, (mem_ready.1 hr).1, hs⟩ ⟨(hS L w).2 hs, H⟩
  ·have h1 := H.2 j (ready_mono hj hji)
   obtain ⟨hjun, oj, hoj, hall⟩ := mem_ready.1 hj
   have hnot : ∀ e ∈ oj.after, Region.binds .any e = true → e.on ≠ i := fun e he hb heq => by
    have h1 := hall e he hb
    rw [heq, getD_both' (mem_ready.1 hr).1] at h1
    cases h1
   have h2 := wpOp_putIf hoj (hfree j oj hoj hji hjun hnot) (fun cs b => hsel i oi cs b hi) (fun cs b => hsel j oj cs b hoj) hQ hy h1
   have hfree' : ∀ k ok, ops[k]? = some ok → k ≠ i → (L.setIfInBounds j true).getD k true = false →
     (∀ e ∈ ok.after, Region.binds .any e = true → e.on ≠ i) → oi.apart ops ok = true := fun k ok hk hki hun hno => by
    refine hfree k ok hk hki ?_ hno
    by_cases hjk : j = k
    ·subst hjk; exact hjun
    ·rw [getD_set_ne true hjk] at hun; exact hun
   refine wpOp_mono (fun a' w' h3 => ?_) h2
   rw [Array.setIfInBounds_comm _ _ (Ne.symm hji)] at h3
   have h4 := (hS _ _).1 h3.2.1
   exact ⟨h4, ih (L.setIfInBounds j true) a' w' (hL.set hj) hfree' (ready_mono hr (Ne.symm hji)) h3.1 h4 h3.2.2⟩
def isMove (o : Oper) : Bool := (match o.op with | .move _ => true | _ => false)
theorem move_yields {o : Oper} {v : Value} {a : Act} {S : World → Prop} (h : YieldsIf P ops (fun w => w = w0) o v a) (hm : isMove o = true) : YieldsIf P ops S o v a := by
 unfold isMove at hm
 rcases h with ⟨h1, h2⟩ | h
 ·refine .inl ⟨h1, fun w _ => ?_⟩
  have h3 := h2 w0 rfl
  unfold execOp at h3 ⊢
  split at hm
  ·rename_i x hx
   rw [hx] at h3 ⊢
   simp only [Sem.run_pure] at h3 ⊢
   injection h3 with h4 _
   rw [h4]
  ·cases hm
 ·exact .inr h
def wpHead (P : Program) (ops : Array Oper) (w0 : World) (K : Act → Prop) : List Oper → Act → Prop
  | [], a => K a
  | o :: l, a => ∃ v, YieldsIf P ops (fun w => w = w0) o v a ∧ wpHead P ops w0 K l (a.put o.dst v)
def headOk (ops : Array Oper) (g : Nat) : Nat → Nat → Array Bool → Bool
  | 0, k, L => Region.seqB .any ops g k L
  | f + 1, k, L => (Region.ready .any ops L).contains k && Region.free .any ops L k && headOk ops g f (k + 1) (L.setIfInBounds k true)
inductive Led (ops : Array Oper) (n : Nat) : Nat → Prop
  | here : Led ops n n
  | step {i j : Nat} (h : Led ops n j) (hw : Region.waitsFor .any ops j i = true) : Led ops n i
theorem Led.listed {i : Nat} (h : Led ops n i) {L : Array Bool} (hL : Shut ops L) (hn : L.getD n false = true) : L.getD i false = true := by
 induction h with
 | here => exact hn
 | step h hw ih =>
  obtain ⟨oj, hoj, e, he, hb, hon⟩ := Region.waitsFor_spec hw
  rw [← hon]
  exact hL _ oj hoj ih e he hb
def ledB (ops : Array Oper) : Nat → List Nat → List Nat
  | 0, r => r
  | k + 1, r => ledB ops k (if r.any (fun j => Region.waitsFor .any ops j k) then k :: r else r)
theorem ledB_spec : ∀ (k : Nat) (r : List Nat), (∀ i ∈ r, Led ops n i) → ∀ i ∈ ledB ops k r, Led ops n i
 | 0, _, h => h
 | k + 1, r, h => by
  refine ledB_spec k _ (fun i hi => ?_)
  split at hi
  ·rename_i hw
   obtain ⟨j, hj, hjk⟩ := List.any_eq_true.1 hw
   rcases List.mem_cons.1 hi with rfl | hi
   ·exact .step (h j hj) hjk
   ·exact h i hi
  ·exact h i hi
def sunk (ops : Array Oper) (n : Nat) : Bool :=
  let r := ledB ops n [n]
  (List.range n).all fun i => (match ops[i]? with | some o => isMove o | none => false) || r.contains i
theorem sunk_spec (h : sunk ops n = true) {i : Nat} (hi : i < n) {o : Oper} (ho : ops[i]? = some o) : isMove o = true ∨ Led ops n i := by
 have h1 := List.all_eq_true.1 h i (List.mem_range.2 hi)
 simp only [ho, Bool.or_eq_true] at h1
 refine h1.imp id fun hc => ?_
 exact ledB_spec n [n] (fun i hi => by rw [List.mem_singleton.1 hi]; exact .here) i (by simpa using hc)
def Still (n : Nat) (w0 : World) (L : Array Bool) (w : World) : Prop := L.getD n false = true ∨ w = w0
theorem wpAnyL'_of_seq : ∀ (l : List Oper) (k : Nat) (L : Array Bool) (a : Act) (w : World), (∀ j, l[j]? = ops[k + j]?) → n < L.size →
  Region.seqB .any ops l.length k L = true → (k = n ∨ L.getD n false = true) → wpList P ops Q l a w → wpAnyL' P ops Q (Still n w0) l.length L a w
 | [], _, _, _, _, _, _, hB, _, h => ⟨by simpa [Region.seqB] using hB, h⟩
 | o :: l, k, L, a, w, hl, hsz, hB, hk, h => by
  have h0 : ops[k]? = some o := by simpa using (hl 0).symm
  simp only [List.length_cons, Region.seqB, Bool.and_eq_true, decide_eq_true_eq] at hB
  refine ⟨fun h1 => (by rw [hB.1] at h1; cases h1), fun i hi => ?_⟩
  rw [hB.1] at hi
  obtain rfl : i = k := by simpa using hi
  have hn : (L.setIfInBounds i true).getD n false = true := by
   rcases hk with rfl | hk
   ·simp [hsz]
   ·exact getD_set_true hk
  have hw : wpOp P ops Q i (wpList P ops Q l) a w := by unfold wpOp; simp only [h0]; exact h
  exact wpOp_mono (fun a' w' h' => ⟨.inl hn, wpAnyL'_of_seq l (i + 1) _ a' w' (fun j => by have := hl (j + 1); simpa [Nat.add_assoc, Nat.add_comm 1 j] using this) (by simpa using hsz) hB.2 (.inr hn) h'⟩) hw
theorem wpAnyL'_of_head (hsel : Region.noSelect ops = true) (hs : sunk ops n = true) (hQ : ∀ c a d v w, Q (.panic c) (a.put d v) w → Q (.panic c) a w) (r : List Oper) (hr : ∀ j, r[j]? = ops[n + j]?) :
  ∀ (l : List Oper) (k : Nat) (L : Array Bool) (a : Act), (∀ j, j < l.length → l[j]? = ops[k + j]?) → k + l.length = n → n < L.size → Shut ops L →
  headOk ops r.length l.length k L = true → wpHead P ops w0 (fun a => wpList P ops Q r a w0) l a → wpAnyL' P ops Q (Still n w0) (l.length + r.length) L a w0
 | [], k, L, a, _, hk, hsz, _, hB, h => by
  obtain rfl : k = n := by simpa using hk
  rw [List.length_nil, Nat.zero_add]
  exact wpAnyL'_of_seq r k L a w0 hr hsz (by simpa [headOk] using hB) (.inl rfl) h
 | o :: l, k, L, a, hl, hk, hsz, hL, hB, h => by
  have h0 : ops[k]? = some o := by simpa using (hl 0 (by simp)).symm
  simp only [List.length_cons, headOk, Bool.and_eq_true] at hB
  obtain ⟨⟨hrd, hf⟩, hB'⟩ := hB
  have hkn : k < n := by simp only [List.length_cons] at hk; omega
  have hrd' : k ∈ Region.ready .any ops L := by simpa using hrd
  obtain ⟨v, hy, hK⟩ := h
  have hy' : YieldsIf P ops (When ops (Still n w0) k) o v a := by
   rcases sunk_spec hs hkn h0 with hm | hled
   ·exact move_yields hy hm
   ·rcases hy with ⟨h1, h2⟩ | h1
    ·refine .inl ⟨h1, fun w hw => ?_⟩
     obtain ⟨L', hL', hk', hS⟩ := hw
     rcases hS with hS | rfl
     ·have := hled.listed hL' hS
      rw [getD_both' hk'] at this
      cases this
     ·exact h2 _ rfl
    ·exact .inr h1
  rw [List.length_cons, show l.length + 1 + r.length = (l.length + r.length) + 1 by omega]
  refine wpAnyL'_first h0 (Region.noSelect_spec hsel) (fun c a w => hQ c a _ _ w) (fun L w => ?_) _ L a w0 hL (Region.free_spec h0 hf) hrd' hy' (.inr rfl)
   (wpAnyL'_of_head hsel hs hQ r hr l (k + 1) _ _ (fun j hj => by have := hl (j + 1) (by simp; omega); simpa [Nat.add_assoc, Nat.add_comm 1 j] using this) (by simp only [List.length_cons] at hk; omega) (by simpa using hsz) (hL.set hrd') hB' hK)
  unfold Still
  rw [getD_set_ne false (by omega : k ≠ n)]
def floatB (ops : Array Oper) (n : Nat) : Bool := Region.noSelect ops && decide (n < ops.size) && sunk ops n && headOk ops (ops.size - n) n 0 (Array.replicate ops.size false)
theorem wp_region_float {id : Nat} {a : Act} {w : World} {l : List Oper} (n : Nat) (hm : P.follows .mixedOrders = true) (hB : floatB l.toArray n = true)
  (hQ : ∀ c a d v w, Q (.panic c) (a.put d v) w → Q (.panic c) a w)
  (h : wpHead P l.toArray w.drew (fun a' => wpList P l.toArray Q (l.drop n) a' w.drew) (l.take n) a) : (Code.region id l.toArray true).wp P Q a w := by
 simp only [floatB, Bool.and_eq_true, decide_eq_true_eq] at hB
 obtain ⟨⟨⟨hsel, hn⟩, hs⟩, hh⟩ := hB
 have hn' : n < l.length := by simpa using hn
 have htl : (l.take n).length = n := by simp; omega
 have hdl : (l.drop n).length = l.toArray.size - n := by simp
 refine wp_region_any hm ?_
 have H := wpAnyL'_of_head (w0 := w.drew) hsel hs hQ (l.drop n) (fun j => by simp [List.getElem?_drop]) (l.take n) 0 (Array.replicate l.toArray.size false) a (fun j hj => by
  have hj' : j < n := by rw [htl] at hj; exact hj
  simp [hj']) (by simpa using htl) (by simpa using hn') (fun j oj _ hl => (by rw [getD_replicate_false] at hl; cases hl)) (by rw [htl, hdl]; exact hh) h
 rw [htl, hdl, show n + (l.toArray.size - n) = l.toArray.size by omega] at H
 exact wpAny_of_L' _ _ _ _ H
end
section
variable {P : Program} {N : Nat} {ds : List Deferred} {Q : Post} {K : Env → Prop} {os rest : List Oper} {ops : Array Oper} {l : Env} {w : World} {op : Op} {ty : TypeId} {pos : String} {aft : Array Edge} {d : Nat} {v : Value}
def WF (P : Program) (N : Nat) (ds : List Deferred) (ops : Array Oper) (Q : Env → Prop) (os : List Oper) (l : Env) (w : World) : Prop := ∀ a, Rep N ds l a → wpHead P ops w (fun a' => ∃ l', Rep N ds l' a' ∧ Q l') os a
theorem fN (h : K l) : WF P N ds ops K [] l w := fun _ ha => ⟨_, ha, h⟩
theorem fY (hx : X P l op ty w v w) (hd : Nat.blt d N = true) (h : WF P N ds ops K rest ((d, v) :: l) w) : WF P N ds ops K (⟨some d, op, ty, pos, aft, none⟩ :: rest) l w := fun a ha =>
 ⟨v, .inl ⟨rfl, fun _ hw => by rw [hw]; exact hx _ ha.knows⟩, h _ (ha.put hd v)⟩
theorem wpHead_imp {A B : Act → Prop} (h : ∀ a, A a → B a) : ∀ (os : List Oper) (a : Act), wpHead P ops w A os a → wpHead P ops w B os a
 | [], _, hh => h _ hh
 | _ :: rest, _, ⟨v, hy, hh⟩ => ⟨v, hy, wpHead_imp h rest _ hh⟩
theorem W_float {id : Nat} (n : Nat) (hm : P.follows .mixedOrders = true) (hB : floatB os.toArray n = true)
  (h : WF P N ds os.toArray (fun l => WL P N ds os.toArray (onlyN (fun l w => Q .normal l w)) (os.drop n) l w.drew) (os.take n) l w.drew) : W P N ds Q (.region id os.toArray true) l w := fun a ha =>
 Code.wp_mono (fun e a w hq => by
  obtain ⟨l', hr, hq⟩ := hq
  refine ⟨l', hr, ?_⟩
  cases e with
  | normal => exact hq
  | _ => exact hq.elim) (wp_region_float (Q := lift N ds (onlyN (fun l w => Q .normal l w))) n hm hB (fun c a d v w hq => by
   obtain ⟨_, _, hq⟩ := hq
   exact hq.elim) (wpHead_imp (fun a' h' => by
    obtain ⟨l', hr, hq⟩ := h'
    exact hq a' hr) _ _ (h a ha)))
end
section
variable {P : Program} {ops : Array Oper} {Q : Exit → Act → World → Prop} {n : Nat} {S0 : World → Prop}
def wpHeadS (P : Program) (ops : Array Oper) (Q : Exit → Act → World → Prop) (S0 : World → Prop) (K : Act → World → Prop) : List Oper → List Bool → Act → World → Prop
  | [], _, a, w => K a w
  | o :: l, true :: r, a, w => ∃ v, YieldsIf P ops S0 o v a ∧ wpHeadS P ops Q S0 K l r (a.put o.dst v) w
  | o :: l, r, a, w => Region.wanted o (yielded ops a.tmps) = true ∧ o.wp P a w (fun a' w' => S0 w' ∧ wpHeadS P ops Q S0 K l r.tail a' w') Q
def sunkAt (ops : Array Oper) (n k : Nat) : Bool := (match ops[k]? with | some o => isMove o | none => false) || (ledB ops n [n]).contains k
theorem sunkAt_spec {k : Nat} (h : sunkAt ops n k = true) {o : Oper} (ho : ops[k]? = some o) : isMove o = true ∨ Led ops n k := by
 unfold sunkAt at h
 simp only [ho, Bool.or_eq_true] at h
 refine h.imp id fun hc => ?_
 exact ledB_spec n [n] (fun i hi => by rw [List.mem_singleton.1 hi]; exact .here) k (by simpa using hc)
def headOkS (ops : Array Oper) (n g : Nat) : List Bool → Nat → Array Bool → Bool
  | [], k, L => Region.seqB .any ops g k L
  | true :: r, k, L => (Region.ready .any ops L).contains k && Region.free .any ops L k && sunkAt ops n k && headOkS ops n g r (k + 1) (L.setIfInBounds k true)
  | false :: r, k, L => decide (Region.ready .any ops L = [k]) && headOkS ops n g r (k + 1) (L.setIfInBounds k true)
def Kept_ (n : Nat) (S0 : World → Prop) (L : Array Bool) (w : World) : Prop := L.getD n false = true ∨ S0 w
theorem wpAnyL'_of_seqS : ∀ (l : List Oper) (k : Nat) (L : Array Bool) (a : Act) (w : World), (∀ j, l[j]? = ops[k + j]?) → n < L.size →
  Region.seqB .any ops l.length k L = true → (k = n ∨ L.getD n false = true) → wpList P ops Q l a w → wpAnyL' P ops Q (Kept_ n S0) l.length L a w
 | [], _, _, _, _, _, _, hB, _, h => ⟨by simpa [Region.seqB] using hB, h⟩
 | o :: l, k, L, a, w, hl, hsz, hB, hk, h => by
  have h0 : ops[k]? = some o := by simpa using (hl 0).symm
  simp only [List.length_cons, Region.seqB, Bool.and_eq_true, decide_eq_true_eq] at hB
  refine ⟨fun h1 => (by rw [hB.1] at h1; cases h1), fun i hi => ?_⟩
  rw [hB.1] at hi
  obtain rfl : i = k := by simpa using hi
  have hn : (L.setIfInBounds i true).getD n false = true := by
   rcases hk with rfl | hk
   ·simp [hsz]
   ·exact getD_set_true hk
  have hw : wpOp P ops Q i (wpList P ops Q l) a w := by unfold wpOp; simp only [h0]; exact h
  exact wpOp_mono (fun a' w' h' => ⟨.inl hn, wpAnyL'_of_seqS l (i + 1) _ a' w' (fun j => by have := hl (j + 1); simpa [Nat.add_assoc, Nat.add_comm 1 j] using this) (by simpa using hsz) hB.2 (.inr hn) h'⟩) hw
theorem wpAnyL'_of_headS (hsel : Region.noSelect ops = true) (hQ : ∀ c a d v w, Q (.panic c) (a.put d v) w → Q (.panic c) a w) (r : List Oper) (hr : ∀ j, r[j]? = ops[n + j]?) :
  ∀ (l : List Oper) (bs : List Bool) (k : Nat) (L : Array Bool) (a : Act) (w : World), (∀ j, j < l.length → l[j]? = ops[k + j]?) → bs.length = l.length → k + l.length = n → n < L.size → Shut ops L →
  headOkS ops n r.length bs k L = true → S0 w → wpHeadS P ops Q S0 (fun a w => wpList P ops Q r a w) l bs a w → wpAnyL' P ops Q (Kept_ n S0) (l.length + r.length) L a w
 | [], [], k, L, a, w, _, _, hk, hsz, _, hB, _, h => by
  obtain rfl : k = n := by simpa using hk
  rw [List.length_nil, Nat.zero_add]
  exact wpAnyL'_of_seqS r k L a w hr hsz (by simpa [headOkS] using hB) (.inl rfl) h
 | [], _ :: _, _, _, _, _, _, hb, _, _, _, _, _, _ => by cases hb
 | _ :: _, [], _, _, _, _, _, hb, _, _, _, _, _, _ => by cases hb
 | o :: l, true :: bs, k, L, a, w, hl, hb, hk, hsz, hL, hB, hS, h => by
  have h0 : ops[k]? = some o := by simpa using (hl 0 (by simp)).symm
  simp only [headOkS, Bool.and_eq_true] at hB
  obtain ⟨⟨⟨hrd, hf⟩, hsk⟩, hB'⟩ := hB
  have hkn : k < n := by simp only [List.length_cons] at hk; omega
  have hrd' : k ∈ Region.ready .any ops L := by simpa using hrd
  obtain ⟨v, hy, hK⟩ := h
  have hy' : YieldsIf P ops (When ops (Kept_ n S0) k) o v a := by
   rcases sunkAt_spec hsk h0 with hm | hled
   ·rcases hy with ⟨h1, h2⟩ | h1
    ·exact move_yields (w0 := w) (.inl ⟨h1, fun _ e => by rw [e]; exact h2 w hS⟩) hm
    ·exact .inr h1
   ·rcases hy with ⟨h1, h2⟩ | h1
    ·refine .inl ⟨h1, fun w' hw => ?_⟩
     obtain ⟨L', hL', hk', hS'⟩ := hw
     rcases hS' with hS' | hS'
     ·have := hled.listed hL' hS'
      rw [getD_both' hk'] at this
      cases this
     ·exact h2 _ hS'
    ·exact .inr h1
  rw [List.length_cons, show l.length + 1 + r.length = (l.length + r.length) + 1 by omega]
  refine wpAnyL'_first h0 (Region.noSelect_spec hsel) (fun c a w => hQ c a _ _ w) (fun L w => ?_) _ L a w hL (Region.free_spec h0 hf) hrd' hy' (.inr hS)
   (wpAnyL'_of_headS hsel hQ r hr l bs (k + 1) _ _ w (fun j hj => by have := hl (j + 1) (by simp; omega); simpa [Nat.add_assoc, Nat.add_comm 1 j] using this) (by simpa using hb) (by simp only [List.length_cons] at hk; omega) (by simpa using hsz) (hL.set hrd') hB' hS hK)
  unfold Kept_
  rw [getD_set_ne false (by omega : k ≠ n)]
 | o :: l, false :: bs, k, L, a, w, hl, hb, hk, hsz, hL, hB, hS, h => by
  have h0 : ops[k]? = some o := by simpa using (hl 0 (by simp)).symm
  simp only [headOkS, Bool.and_eq_true, decide_eq_true_eq] at hB
  have hrd' : k ∈ Region.ready .any ops L := by rw [hB.1]; simp
  rw [List.length_cons, show l.length + 1 + r.length = (l.length + r.length) + 1 by omega]
  refine ⟨fun h1 => (by rw [hB.1] at h1; cases h1), fun i hi => ?_⟩
  rw [hB.1] at hi
  obtain rfl : i = k := by simpa using hi
  have hw : wpOp P ops Q i (fun a' w' => S0 w' ∧ wpHeadS P ops Q S0 (fun a w => wpList P ops Q r a w) l bs a' w') a w := by
   unfold wpOp
   simp only [h0]
   rw [if_pos h.1]
   exact .inl h.2
  exact wpOp_mono (fun a' w' h' => ⟨.inr h'.1, wpAnyL'_of_headS hsel hQ r hr l bs (i + 1) _ _ w' (fun j hj => by have := hl (j + 1) (by simp; omega); simpa [Nat.add_assoc, Nat.add_comm 1 j] using this) (by simpa using hb) (by simp only [List.length_cons] at hk; omega) (by simpa using hsz) (hL.set hrd') hB.2 h'.1 h'.2⟩) hw
def phaseB (ops : Array Oper) (n : Nat) (bs : List Bool) : Bool := Region.noSelect ops && decide (n < ops.size) && (bs.length == n) && headOkS ops n (ops.size - n) bs 0 (Array.replicate ops.size false)
theorem wp_region_phase {id : Nat} {a : Act} {w : World} {l : List Oper} (S0 : World → Prop) (n : Nat) (bs : List Bool) (hm : P.follows .mixedOrders = true) (hB : phaseB l.toArray n bs = true)
  (hQ : ∀ c a d v w, Q (.panic c) (a.put d v) w → Q (.panic c) a w) (hS : S0 w.drew)
  (h : wpHeadS P l.toArray Q S0 (fun a' w' => wpList P l.toArray Q (l.drop n) a' w') (l.take n) bs a w.drew) : (Code.region id l.toArray true).wp P Q a w := by
 simp only [phaseB, Bool.and_eq_true, decide_eq_true_eq, beq_iff_eq] at hB
 obtain ⟨⟨⟨hsel, hn⟩, hbl⟩, hh⟩ := hB
 have hn' : n < l.length := by simpa using hn
 have htl : (l.take n).length = n := by simp; omega
 have hdl : (l.drop n).length = l.toArray.size - n := by simp
 refine wp_region_any hm ?_
 have H := wpAnyL'_of_headS (n := n) (S0 := S0) hsel hQ (l.drop n) (fun j => by simp [List.getElem?_drop]) (l.take n) bs 0 (Array.replicate l.toArray.size false) a w.drew (fun j hj => by
  have hj' : j < n := by rw [htl] at hj; exact hj
  simp [hj']) (by rw [htl, hbl]) (by simpa using htl) (by simpa using hn') (fun j oj _ hl => (by rw [getD_replicate_false] at hl; cases hl)) (by rw [hdl]; exact hh) hS h
 rw [htl, hdl, show n + (l.toArray.size - n) = l.toArray.size by omega] at H
 exact wpAny_of_L' _ _ _ _ H
end
section
variable {P : Program} {N : Nat} {ds : List Deferred} {Q : Post} {K : Env → World → Prop} {S0 : World → Prop} {os rest : List Oper} {bs : List Bool} {ops : Array Oper} {l : Env} {w : World} {op : Op} {ty : TypeId} {pos : String} {aft : Array Edge} {d : Nat} {v : Value}
def WP (P : Program) (N : Nat) (ds : List Deferred) (ops : Array Oper) (Q : Post) (S0 : World → Prop) (K : Env → World → Prop) (os : List Oper) (bs : List Bool) (l : Env) (w : World) : Prop :=
  ∀ a, Rep N ds l a → wpHeadS P ops (lift N ds Q) S0 (fun a' w' => ∃ l', Rep N ds l' a' ∧ K l' w') os bs a w
theorem pN (h : K l w) : WP P N ds ops Q S0 K [] [] l w := fun _ ha => ⟨_, ha, h⟩
theorem pY (hx : ∀ w, S0 w → X P l op ty w v w) (hd : Nat.blt d N = true) (h : WP P N ds ops Q S0 K rest bs ((d, v) :: l) w) : WP P N ds ops Q S0 K (⟨some d, op, ty, pos, aft, none⟩ :: rest) (true :: bs) l w := fun _ ha =>
 ⟨v, .inl ⟨rfl, fun w hw => hx w hw _ ha.knows⟩, h _ (ha.put hd v)⟩
theorem pL {od : Option Nat} (h : ∀ Q', (∀ l w, S0 w → WP P N ds ops Q S0 K rest bs l w → Q' .normal l w) → (∀ c l w, Q (.panic c) l w → Q' (.panic c) l w) → WL P N ds ops Q' [⟨od, op, ty, pos, aft, none⟩] l w) : WP P N ds ops Q S0 K (⟨od, op, ty, pos, aft, none⟩ :: rest) (false :: bs) l w := fun a ha => by
 have := h (fun e l w => match e with | .normal => S0 w ∧ WP P N ds ops Q S0 K rest bs l w | .panic c => Q (.panic c) l w | _ => False) (fun l w hs h => ⟨hs, h⟩) (fun c l w h => h) a ha
 unfold wpList at this
 have hw : Region.wanted ⟨od, op, ty, pos, aft, none⟩ (yielded ops a.tmps) = true := rfl
 rw [if_pos hw] at this
 refine ⟨hw, ?_⟩
 rcases this with this | ⟨_, a0, w0, hq⟩
 ·unfold Oper.wp at this ⊢
  revert this
  generalize (execOp a.eval ⟨od, op, ty, pos, aft, none⟩).run P w = res
  intro this
  unfold Oper.upon at this ⊢
  split at this
  ·simp only [wpList] at this; obtain ⟨l', hr, hs, h⟩ := this; exact ⟨hs, h _ hr⟩
  ·simp only [wpList] at this; obtain ⟨l', hr, hs, h⟩ := this; exact ⟨hs, h _ hr⟩
  ·simp only [wpList] at this; obtain ⟨l', hr, hs, h⟩ := this; exact ⟨hs, h _ hr⟩
  ·refine Calls.mono this fun e w' h => ?_
   cases e with
   | returned v => simp only [wpList] at h; obtain ⟨l', hr, hs, h⟩ := h; exact ⟨hs, h _ hr⟩
   | panicked c => exact h
   | outgrown => obtain ⟨a0, w0, l0, h1, h2⟩ := h; exact h2.elim
  ·refine Rows.mono this fun v w' h => ?_
   simp only [wpList] at h; obtain ⟨l', hr, hs, h⟩ := h; exact ⟨hs, h _ hr⟩
  ·exact this
  ·exact this.elim
 ·obtain ⟨l0, _, h2⟩ := hq; exact h2.elim
theorem wpHeadS_imp {Q' : Exit → Act → World → Prop} {A B : Act → World → Prop} (h : ∀ a w, A a w → B a w) : ∀ (os : List Oper) (bs : List Bool) (a : Act) (w : World), wpHeadS P ops Q' S0 A os bs a w → wpHeadS P ops Q' S0 B os bs a w
 | [], _, _, _, hh => h _ _ hh
 | _ :: rest, true :: bs, _, _, ⟨v, hy, hh⟩ => ⟨v, hy, wpHeadS_imp h rest bs _ _ hh⟩
 | _ :: rest, false :: bs, _, _, hh => ⟨hh.1, Oper.wp_mono (fun _ _ h' => ⟨h'.1, wpHeadS_imp h rest bs _ _ h'.2⟩) hh.2⟩
 | _ :: rest, [], _, _, hh => ⟨hh.1, Oper.wp_mono (fun _ _ h' => ⟨h'.1, wpHeadS_imp h rest [] _ _ h'.2⟩) hh.2⟩
theorem W_phase {id : Nat} (S0 : World → Prop) (n : Nat) (bs : List Bool) (hm : P.follows .mixedOrders = true) (hB : phaseB os.toArray n bs = true) (hS : S0 w.drew)
  (h : WP P N ds os.toArray (onlyN (fun l w => Q .normal l w)) S0 (fun l w => WL P N ds os.toArray (onlyN (fun l w => Q .normal l w)) (os.drop n) l w) (os.take n) bs l w.drew) : W P N ds Q (.region id os.toArray true) l w := fun a ha =>
 Code.wp_mono (fun e a w hq => by
  obtain ⟨l', hr, hq⟩ := hq
  refine ⟨l', hr, ?_⟩
  cases e with
  | normal => exact hq
  | _ => exact hq.elim) (wp_region_phase (Q := lift N ds (onlyN (fun l w => Q .normal l w))) S0 n bs hm hB (fun c a d v w hq => by
   obtain ⟨_, _, hq⟩ := hq
   exact hq.elim) hS (wpHeadS_imp (fun a' w' h' => by
    obtain ⟨l', hr, hq⟩ := h'
    exact hq a' hr) _ _ _ _ (h a ha)))
theorem W_phase_s {id : Nat} {y : Code} (S0 : World → Prop) (n : Nat) (bs : List Bool) (hm : P.follows .mixedOrders = true) (hB : phaseB os.toArray n bs = true) (hS : S0 w.drew)
  (h : WP P N ds os.toArray (onlyN (W P N ds Q y)) S0 (fun l w => WL P N ds os.toArray (onlyN (W P N ds Q y)) (os.drop n) l w) (os.take n) bs l w.drew) : W P N ds Q (.seq (.region id os.toArray true) y) l w :=
 W_seq (W_phase S0 n bs hm hB hS h)
end
end Go.Proofs.YtnlabkogebnioaaGreatDoor
namespace Go.Proofs.YtnlabkogebnioaaGreatDoor
open Go.RowKit
def okL : Env → Array Value → Prop
  | [], _ => True
  | (t, v) :: r, a => a.getD t undef = v ∧ okL r a
theorem okL_val : ∀ {l : Env} {a : Array Value}, okL l a → ∀ t v, lk l t = some v → a.getD t undef = v
 | [], _, _, _, _, h => by cases h
 | (d, u) :: r, a, hs, t, v, h => by
  unfold lk at h
  cases ht : Nat.beq t d with
  | true =>
   rw [ht] at h
   have e : t = d := Nat.eq_of_beq_eq_true ht
   subst e
   simp only [cond_true, Option.some.injEq] at h
   subst h
   exact hs.1
  | false =>
   rw [ht] at h
   exact okL_val hs.2 t v h
theorem W_out {P : Program} {N : Nat} {ds : List Deferred} {Q : Post} {Q' : Exit → Act → World → Prop} {c : Code} {l : Env} {w : World} {a : Act} (h : W P N ds Q c l w) (hs : a.tmps.size = N) (hd : a.defers = ds) (hv : okL l a.tmps)
  (hq : ∀ e l a w, Rep N ds l a → Q e l w → Q' e a w) : c.wp P Q' a w :=
 Code.wp_mono (fun e a w hx => by obtain ⟨l, hr, hx⟩ := hx; exact hq e l a w hr hx) (h a ⟨hs, hd, okL_val hv⟩)
end Go.Proofs.YtnlabkogebnioaaGreatDoor
namespace Go.Proofs.YtnlabkogebnioaaGreatDoor
open Go.RowKit
open Go.ChangeMaps (setBlock)
structure IterAt {κ ν : Type} [DecidableEq κ] (w : World) (r b : Nat) (enc : κ → Value) (encv : ν → Value) (m : List (κ × ν)) (pre : List κ) : Prop where
  nodup : (m.map (·.1)).Nodup
  mem : ∀ k ∈ pre, k ∈ m.map (·.1)
  pnod : pre.Nodup
  obj : ∃ (ts : List Nat) (clock : Nat) (seen : Array Nat), ts.length = m.length ∧ ts.Nodup ∧ (∀ t ∈ ts, t < clock) ∧ w.heap[b]? = some (.map ((m.zip ts).map fun p => (⟨enc p.1.1, encv p.1.2, p.2⟩ : MapEntry)).toArray clock) ∧
    w.heap[r]? = some (.mapIter (some b) clock seen clock) ∧ ∀ p ∈ m.zip ts, p.2 ∈ seen.toList ↔ p.1.1 ∈ pre
section
variable {κ ν : Type} [DecidableEq κ] {w w' : World} {r b : Nat} {enc : κ → Value} {encv : ν → Value} {m : List (κ × ν)} {pre : List κ} {P : Program}
theorem IterAt.of_walks (h : IterAt w r b enc encv m pre) (hk : KeepsWalks w w') : IterAt w' r b enc encv m pre := by
 obtain ⟨ts, clock, seen, h1, h2, h3, h4, h5, h6⟩ := h.obj
 exact ⟨h.nodup, h.mem, h.pnod, ts, clock, seen, h1, h2, h3, hk.same _ _ h4 rfl, hk.same _ _ h5 rfl, h6⟩
theorem IterAt.walk (h : IterAt w r b enc encv m pre) : ∃ o : Obj, w.heap[r]? = some o ∧ o.isWalk = true := by
 obtain ⟨ts, clock, seen, h1, h2, h3, h4, h5, h6⟩ := h.obj
 exact ⟨_, h5, rfl⟩
omit [DecidableEq κ] in
theorem zip_inj_key {m : List (κ × ν)} {ts : List Nat} (hm : (m.map (·.1)).Nodup) {p q : (κ × ν) × Nat} (hp : p ∈ m.zip ts) (hq : q ∈ m.zip ts) (he : p.1.1 = q.1.1) : p = q := by
 obtain ⟨i, hi, rfl⟩ := List.mem_iff_getElem.1 hp
 obtain ⟨j, hj, rfl⟩ := List.mem_iff_getElem.1 hq
 simp only [List.getElem_zip] at he ⊢
 have hi' : i < m.length := by rw [List.length_zip] at hi; omega
 have hj' : j < m.length := by rw [List.length_zip] at hj; omega
 have : i = j := by
  have := (List.getElem_inj (xs := m.map (·.1)) (h₀ := by simpa using hi') (h₁ := by simpa using hj') hm).1 (by simpa using he)
  exact this
 subst this
 rfl
omit [DecidableEq κ] in
theorem zip_inj_ts {m : List (κ × ν)} {ts : List Nat} (ht : ts.Nodup) {p q : (κ × ν) × Nat} (hp : p ∈ m.zip ts) (hq : q ∈ m.zip ts) (he : p.2 = q.2) : p = q := by
 obtain ⟨i, hi, rfl⟩ := List.mem_iff_getElem.1 hp
 obtain ⟨j, hj, rfl⟩ := List.mem_iff_getElem.1 hq
 simp only [List.getElem_zip] at he ⊢
 have hi' : i < ts.length := by rw [List.length_zip] at hi; omega
 have hj' : j < ts.length := by rw [List.length_zip] at hj; omega
 have : i = j := (List.getElem_inj (xs := ts) (h₀ := hi') (h₁ := hj') ht).1 he
 subst this
 rfl
theorem IterAt.next (h : IterAt w r b enc encv m pre) (ty : TypeId) :
  (pre.Perm (m.map (·.1)) ∧ (Instr.next (.pointer (some ⟨r, 0, none⟩)) false ty).run P w = .ok (.tuple #[.bool false]) w) ∨
  ∃ k v w', k ∉ pre ∧ (k, v) ∈ m ∧ (Instr.next (.pointer (some ⟨r, 0, none⟩)) false ty).run P w = .ok (.tuple #[.bool true, enc k, encv v]) w' ∧
   (Instr.entry (.pointer (some ⟨r, 0, none⟩))).run P w' = .ok (.tuple #[enc k, encv v]) w' ∧ IterAt w' r b enc encv m (pre ++ [k]) ∧ Chg (fun q => q = r) w w' := by
 obtain ⟨ts, clock, seen, h1, h2, h3, h4, h5, h6⟩ := h.obj
 have hbr : b ≠ r := by rintro rfl; rw [h4] at h5; cases h5
 have hold : ∀ x ∈ (((m.zip ts).map fun p => (⟨enc p.1.1, encv p.1.2, p.2⟩ : MapEntry)).toArray).toList, x.born < clock := by
  intro x hx
  simp only [List.mem_map] at hx
  obtain ⟨p, hp, rfl⟩ := hx
  exact h3 _ (List.of_mem_zip hp).2
 rcases run_next_at (P := P) w ty r b clock clock seen _ clock h5 h4 hold (Nat.le_refl _) with ⟨h0, hr⟩ | ⟨e, he, w1, hw1, hr⟩
 ·left
  refine ⟨?_, hr⟩
  have hall : ∀ p ∈ m.zip ts, p.2 ∈ seen.toList := by
   intro p hp
   refine Classical.byContradiction fun hn => ?_
   have : leftOf ((m.zip ts).map fun p => (⟨enc p.1.1, encv p.1.2, p.2⟩ : MapEntry)).toArray seen ≠ #[] := by
    intro hz
    have hmem : (⟨enc p.1.1, encv p.1.2, p.2⟩ : MapEntry) ∈ leftOf ((m.zip ts).map fun p => (⟨enc p.1.1, encv p.1.2, p.2⟩ : MapEntry)).toArray seen := by
     unfold leftOf
     rw [Array.mem_filter]
     refine ⟨?_, ?_⟩
     ·simp only [List.mem_toArray, List.mem_map]
      exact ⟨p, hp, rfl⟩
     ·simpa using hn
    rw [hz] at hmem
    simp at hmem
   exact this (Array.eq_empty_of_size_eq_zero h0)
  refine (List.perm_ext_iff_of_nodup h.pnod h.nodup).2 fun k => ⟨h.mem k, fun hk => ?_⟩
  obtain ⟨q, hq, rfl⟩ := List.mem_map.1 hk
  obtain ⟨i, hi, rfl⟩ := List.mem_iff_getElem.1 hq
  have hz : (m[i], ts[i]'(by omega)) ∈ m.zip ts := by
   rw [List.mem_iff_getElem]
   exact ⟨i, by rw [List.length_zip]; omega, by simp⟩
  exact (h6 _ hz).1 (hall _ hz)
 ·right
  have he' : e ∈ ((m.zip ts).map fun p => (⟨enc p.1.1, encv p.1.2, p.2⟩ : MapEntry)) ∧ e.born ∉ seen.toList := by
   have := he
   unfold leftOf at this
   rw [Array.toList_filter, List.mem_filter] at this
   refine ⟨by simpa using this.1, ?_⟩
   have h2 := this.2
   simpa using h2
  obtain ⟨p, hp, rfl⟩ := List.mem_map.1 he'.1
  have hns := he'.2
  simp only at hns hr
  have hkp : p.1.1 ∉ pre := fun hk => hns ((h6 p hp).2 hk)
  have hz := List.of_mem_zip hp
  have hs1 : w1.heap = w.heap := by rcases hw1 with rfl | rfl <;> rfl
  have hsz : r < w1.heap.size := by rw [hs1]; exact (Array.getElem?_eq_some_iff.1 h5).1
  have hr' : (setBlock w1 r (.mapIter (some b) clock (seen.push p.2) clock)).heap[r]? = some (.mapIter (some b) clock (seen.push p.2) clock) := by
   simp [setBlock, hsz]
  have hb' : (setBlock w1 r (.mapIter (some b) clock (seen.push p.2) clock)).heap[b]? = some (.map ((m.zip ts).map fun p => (⟨enc p.1.1, encv p.1.2, p.2⟩ : MapEntry)).toArray clock) := by
   show (w1.heap.setIfInBounds r _)[b]? = _
   rw [Array.getElem?_setIfInBounds, if_neg (fun e => hbr e.symm), hs1]
   exact h4
  refine ⟨p.1.1, p.1.2, _, hkp, hz.1, hr, ?_, ⟨h.nodup, ?_, ?_, ts, clock, seen.push p.2, h1, h2, h3, hb', hr', ?_⟩, ?_⟩
  ·refine run_entry_at (P := P) _ r b clock seen _ clock ⟨enc p.1.1, encv p.1.2, p.2⟩ hr' hb' (by simpa using he'.1) ?_
   simp only [List.map_map]
   have : (m.zip ts).map ((fun x => x.born) ∘ fun p => (⟨enc p.1.1, encv p.1.2, p.2⟩ : MapEntry)) = ts := by
    rw [show ((fun x => x.born) ∘ fun p => (⟨enc p.1.1, encv p.1.2, p.2⟩ : MapEntry)) = (Prod.snd : (κ × ν) × Nat → Nat) from rfl]
    exact List.map_snd_zip (by omega)
   rw [this]
   exact h2
  ·intro k hk
   rw [List.mem_append, List.mem_singleton] at hk
   rcases hk with hk | rfl
   ·exact h.mem k hk
   ·exact List.mem_map.2 ⟨p.1, hz.1, rfl⟩
  ·rw [List.nodup_append]
   exact ⟨h.pnod, by simp, fun a ha c hc => by simp at hc; subst hc; rintro rfl; exact hkp ha⟩
  ·intro q hq
   rw [Array.toList_push, List.mem_append, List.mem_append, List.mem_singleton, List.mem_singleton, h6 q hq]
   constructor
   ·rintro (h7 | h7)
    ·exact .inl h7
    ·exact .inr (by rw [zip_inj_ts h2 hq hp h7])
   ·rintro (h7 | h7)
    ·exact .inl h7
    ·exact .inr (by rw [zip_inj_key h.nodup hq hp h7])
  ·have hc0 : Chg (fun q => q = r) w w1 := by rcases hw1 with rfl | rfl; exact Chg.refl _ _; exact (Chg.refl _ w).drew
   exact hc0.next (chgSet w1 r _) (fun i hi => .inl hi)
theorem MapAt.iter (h : MapAt w b enc encv m) (t : TypeId) {kt e : TypeId} (ht : P.underlying t = some (.map kt e)) :
  ∃ w', (Instr.range t (.map (some b))).run P w = .ok (.pointer (some ⟨w.heap.size, 0, none⟩)) w' ∧ IterAt w' w.heap.size b enc encv m [] ∧ Below w.heap.size w w' := by
 obtain ⟨ts, clock, h1, h2, h3, h4⟩ := h.obj
 have hb : Below w.heap.size w (w.alloc (.mapIter (some b) clock #[] clock)) := (Below.refl _ _).alloc (Nat.le_refl _) _
 refine ⟨w.alloc (.mapIter (some b) clock #[] clock), ?_, ⟨h.nodup, fun k hk => by simp at hk, by simp, ts, clock, #[], h1, h2.imp (fun h => Nat.ne_of_lt h), h3, (hb.block b h.lt).trans h4, World.alloc_heap_new w _, fun p _ => by simp⟩, hb⟩
 unfold Instr.range
 simp only [Sem.run_bind, run_underlying ht, Result.andThen_ok, getMap h4, Sem.run_pure, newObj, World.alloc]
 rfl
theorem IterAt.more {k : κ} (h : IterAt w r b enc encv m (pre ++ [k])) : pre.length < m.length := by
 have := List.Nodup.length_le_of_subset h.pnod (fun a ha => h.mem a ha)
 rw [List.length_append, List.length_map] at this
 simp at this
 omega
end
theorem grown_of_bel {w w' : World} (h : Below w.heap.size w w') : w.grownBy w' none := ⟨h.os, h.tape, h.output, h.size, fun k hk _ => h.block k hk⟩
theorem grown_of_chg {w w' : World} {r : Nat} (h : Chg (fun q => q = r) w w') : w.grownBy w' (some r) := ⟨h.os, h.tape, h.output, h.size, fun k hk hn => h.block k hk (fun e => hn (by rw [e]))⟩
theorem chg_of_grown {w w' : World} {row : Option Nat} (h : w.grownBy w' row) : Chg (fun k => row = some k) w w' := ⟨h.os, h.tape, h.output, h.size, fun k hk hn => h.block k hk (fun e => hn e.symm)⟩
def OnCells (S : Nat → Prop) (w : World) : Prop := ∀ k o, S k → w.heap[k]? = some o → o.isCells = true
theorem keepsFrom_of {S : Nat → Prop} {w w' : World} (h : Chg S w w') (hs : OnCells S w) (B : Nat) : KeepsFrom B w w' :=
 ⟨h.size, fun k o _ hk ho => (h.block k (Array.getElem?_eq_some_iff.1 hk).1 (fun e => by have := hs k o e hk; rw [ho] at this; cases this)).trans hk⟩
theorem Blk.onCells {w : World} {g : Nat} {t : TypeId} {cs : Array Value} (h : Blk w g t cs) : OnCells (fun k => k = g) w := fun k o hk ho => by
 subst hk
 have h : w.heap[k]? = some (.cells cs t) := h
 rw [ho] at h
 injection h with h
 subst h
 rfl
theorem Row.onCells {w : World} {e : TypeId} {size n : Nat} {v : Value} {xs : List Value} (h : Row w e size v n xs) : OnCells (fun k => v.ownBlock = some k) w := fun k o hk ho => by
 rcases h.2 with ⟨rfl, _⟩ | ⟨g, off, cap, cur, fz, rfl, hg, _⟩
 ·simp [Value.ownBlock] at hk
 ·simp [Value.ownBlock] at hk
  subst hk
  rw [ho] at hg
  injection hg with hg
  subst hg
  rfl
theorem Blk.grown {w w' : World} {g : Nat} {t : TypeId} {cs : Array Value} (h : Blk w g t cs) {row : Option Nat} (hg : w.grownBy w' row) (hr : ∀ r, row = some r → ∃ o : Obj, w.heap[r]? = some o ∧ o.isCells = false) : Blk w' g t cs :=
 h.chg (chg_of_grown hg) (fun e => by
  obtain ⟨o, ho, hn⟩ := hr g e
  have := h.onCells g o rfl ho
  rw [hn] at this
  cases this)
def WLI (F : Fence) (n : Nat) (P : Program) (N : Nat) (ds : List Deferred) (ops : Array Oper) (Q : Post) (os : List Oper) (l : Env) (w : World) : Prop := ∀ a, Rep N ds l a → wpListIn F n P ops (lift N ds Q) os a w
section
variable {F : Fence} {n : Nat} {P : Program} {N : Nat} {ds : List Deferred} {Q : Post} {l : Env} {w w' : World} {ops : Array Oper} {rest : List Oper} {op : Op} {ty : TypeId} {pos : String} {aft : Array Edge} {d : Nat} {v : Value} {id : Nat}
def Wide (F : Fence) : Prop := ∀ f, F.fn f
theorem semAt_of (ro : Option Nat) (ρ : Operand → Value) (o : Oper) (h : ∀ c, o.op ≠ .defer c) : Oper.semAt ro ρ o = execOp ρ o := by
 cases ro with
 | none => rfl
 | some l => exact Oper.semAt_some l ρ o h
theorem WIn (h : Q .normal l w) : WLI F n P N ds ops Q [] l w := fun _ ha => ⟨_, ha, h⟩
theorem stI (hF : Wide F) (hop : ∀ c, op ≠ .defer c) (hx : X P l op ty w v w') (hd : Nat.blt d N = true) (h : WLI F n P N ds ops Q rest ((d, v) :: l) w') : WLI F n P N ds ops Q (⟨some d, op, ty, pos, aft, none⟩ :: rest) l w := by
 intro a ha
 refine wpListIn_plain rfl fun K hK => ⟨fun f _ => hF f, ?_⟩
 rw [semAt_of _ _ _ hop]
 have : (execOp a.eval ⟨some d, op, ty, pos, aft, none⟩).run P w = .ok (.value v) w' := hx _ ha.knows
 rw [this]
 exact hK _ _ (h _ (ha.put hd v))
theorem W_regI {os : List Oper} (h : WLI Fence.wide n P N ds os.toArray Q os l w) : W P N ds Q (.region id os.toArray false) l w := fun a ha => wpIn_wide.1 (wpIn_region_lit (h a ha))
theorem syield {x : Operand} {args : List Operand} {ats : Array TypeId} {lp : Nat} (vs : List Value) (hF : Wide F) (hdp : F.depth.isSome = false) (hx : ev l x = some (.func (.yield lp) #[] #[])) (hvs : evs l args = some vs) (hd : Nat.blt d N = true)
  (hy : YieldAt F (n - 1) P lp vs.toArray w fun e w' => match e with | .returned v => WLI F n P N ds ops Q rest ((d, v) :: l) w' | _ => False) :
  WLI F n P N ds ops Q (⟨some d, .call { callee := .value x, args := args.toArray, argTypes := ats }, ty, pos, aft, none⟩ :: rest) l w := by
 intro a ha
 refine wpListIn_plain rfl fun K hK => ⟨fun f _ => hF f, ?_⟩
 rw [semAt_of _ _ _ (fun c h => by cases h)]
 have hx' := ha.knows _ _ hx
 have hvs' := evs_map ha.knows hvs
 have e1 : List.map (fun x => a.eval x) args = vs := hvs'
 obtain ⟨fn, tmps, assign, body, hr, hR⟩ := hy
 have e2 : (execOp a.eval ⟨some d, .call { callee := .value x, args := args.toArray, argTypes := ats }, ty, pos, aft, none⟩).run P w = .ok (.round lp fn tmps assign body) w := by
  unfold execOp
  simp only [resolve, invoke, hx']
  simp [Deferred.ofValue, e1, hr]
 rw [e2, Oper.uponIn_round]
 refine ⟨fun h => (by rw [hdp] at h; cases h), RoundIn.mono hR (fun e w' h => ?_)⟩
 cases e with
 | returned v => exact hK _ _ (h _ (ha.put hd v))
 | panicked c => exact h.elim
 | outgrown => exact h.elim
end
def noDefer (os : List Oper) : Bool := os.all fun o => match o.op with | .defer _ => false | _ => true
theorem upon_round {P : Program} {o : Oper} {a : Act} {next next' : Act → World → Prop} {Q : Exit → Act → World → Prop} {lp n : Nat} (hx : ∀ a w, next a w → next' a w) : ∀ {r : Result Next}, o.upon P a next Q r → o.uponIn (Fence.wide.inRound lp) n P a next' Q r
 | .ok (.value _) _, h => hx _ _ h
 | .ok .skip _, h => hx _ _ h
 | .ok (.defer _) _, h => hx _ _ h
 | .ok (.enter _ _) _, h => ⟨fun h => (by cases h), CallsIn.inRound lp (callsIn_wide.2 (Calls.mono h (fun e w h => by cases e with | returned v => exact hx _ _ h | panicked c => exact h | outgrown => exact h)))⟩
 | .ok (.row _ _) _, h => ⟨fun h => (by cases h), fun c cs _ => (let ⟨v, w', r, s⟩ := h c cs; ⟨v, w', hx _ _ r, stepsIn_wide.2 s⟩)⟩
 | .ok (.round ..) _, h => h.elim
 | .halt (.panic _) _, h => h
theorem wpListIn_round {P : Program} {ops : Array Oper} {Q : Exit → Act → World → Prop} {lp n : Nat} (hQ : ¬ LetsOut Q) : ∀ (os : List Oper) {a : Act} {w : World}, noDefer os = true → wpList P ops Q os a w → wpListIn (Fence.wide.inRound lp) n P ops Q os a w
 | [], _, _, _, h => h
 | o :: rest, a, w, hn, h => by
  have hn1 : ∀ c, o.op ≠ .defer c := fun c hc => by
   simp only [noDefer, List.all_cons, hc, Bool.false_and] at hn
   cases hn
  have hn2 : noDefer rest = true := by
   simp only [noDefer, List.all_cons, Bool.and_eq_true] at hn
   exact hn.2
  unfold wpList at h
  unfold wpListIn
  split at h
  ·rename_i hw
   rw [if_pos hw]
   refine ⟨fun f _ => trivial, ?_⟩
   rw [semAt_of _ _ _ hn1]
   have h' : o.upon P a (wpList P ops Q rest) Q ((execOp a.eval o).run P w) := h.resolve_right (fun h => hQ h.2)
   exact upon_round (fun a' w' h'' => wpListIn_round hQ rest hn2 h'') h'
  ·rename_i hw
   rw [if_neg hw]
   exact ⟨fun f _ => trivial, wpListIn_round hQ rest hn2 h⟩
theorem WLI_of {P : Program} {N : Nat} {ds : List Deferred} {Q : Post} {l : Env} {w : World} {ops : Array Oper} {os : List Oper} {lp n : Nat} (hn : noDefer os = true) (hQ : ∀ l w, ¬ Q .outgrown l w) (h : WL P N ds ops Q os l w) : WLI (Fence.wide.inRound lp) n P N ds ops Q os l w :=
 fun a ha => wpListIn_round (fun hl => (by obtain ⟨_, w', l', _, h⟩ := hl; exact hQ l' w' h)) os hn (h a ha)
theorem outI {F : Fence} {n : Nat} {P : Program} {N : Nat} {ds : List Deferred} {Q : Post} {Q' : Exit → Act → World → Prop} {l : Env} {w : World} {a : Act} {os : List Oper} {id : Nat} (h : WLI F n P N ds os.toArray Q os l w) (ha : Rep N ds l a)
  (hq : ∀ e l a w, Rep N ds l a → Q e l w → Q' e a w) : (Code.region id os.toArray false).wpIn F n P Q' a w :=
 wpIn_mono (wpIn_region_lit (h a ha)) (fun e a w hx => by obtain ⟨l, hr, hx⟩ := hx; exact hq e l a w hr hx)
theorem retM {P : Program} {n : Nat} {fn : Func} {R : Ending → World → Prop} {N D : Nat} {l : Env} {a : Act} {w : World} (hr : Rep N [{ target := .collected D, args := #[] }] l a) (hD : w.heap[D]? = some (.deferred (some []))) (h : fnPost P fn R .ret l (w.putObj D (.deferred none))) :
  bodyPostM Fence.wide n P fn R .ret a w := by
 obtain ⟨v, h1, h2⟩ := h
 show LeavesInM Fence.wide n P fn a.tmps R a.defers .returning w
 rw [hr.defers]
 exact ⟨by simp, .inl ⟨D, _, rfl, run_takeDeferred hD, v, h1 _ hr.val, h2⟩⟩
end Go.Proofs.YtnlabkogebnioaaGreatDoor
namespace Go.Proofs.YtnlabkogebnioaaGreatDoor
open Go.RowKit
theorem Chg.g {S : Nat → Prop} {w w' : World} {g : Nat} (h : Chg (fun k => k = g) w w') (hg : S g) : Chg S w w' := h.mono (fun k _ hk => by rw [hk]; exact hg)
theorem Append_any (g : Nat) (D : DiskD) (S : Nat → Prop) (n : Key) (d : List UInt8) (w : World) (h : DiskAt w g D S) (hok : DOk D) (hbud : DBud D) (hd : d.length ≤ 1099511627776) :
  Calls Tryz.prog 51 #[.pointer (some ⟨g, 0, none⟩), str n, str d] w (DPost g S w (appendM D n d)) := by
 have h0 := h
 obtain ⟨b, rs, h⟩ := h
 by_cases hl : D.stops = true ∧ D.left = 0
 ·skip
  refine W_enter (args := [.pointer (some ⟨g, 0, none⟩), str n, str d]) 33 Tryz.func51 rfl rfl rfl (W_sub [(0, .pointer (some ⟨g, 0, none⟩)), (1, str n), (2, str d)] ?_ ⟨rfl, rfl, rfl, trivial⟩)
  have hbw := Below.refl w.heap.size w
  refine W_rs (sa rfl rfl (Wn (tN (W_seq (W_rs (sm rfl rfl (sc _ Tryz.func96 rfl (by kernel_rfl) rfl rfl ((ready_dead g b D _ (h.bel hbw).blk hl).mono ?_))))))))
  rintro e_ w1 ⟨rfl, hb⟩
  refine cR ?_
  replace hbw := bthen hbw hb
  have hz_w1 := hb.size
  clear hb
  refine sa rfl rfl (Wn (tN (W_rs (sm rfl rfl (st (X.neq rfl rfl) rfl (Wn (tN (W_yes rfl (rfl) (W_rs (sm rfl rfl ?_))))))))))
  refine sa rfl rfl (Wn (tN (W_ret (tR ?_))))
  exact (rT rfl rfl (DPost.same h0 hbw (opM_dead hl _))).1
 have hok' := tick_ok hok hl
 have hbud' := tick_bud hbud
 cases hr : mget rs n with
 | none =>
  have hf : mget D.files n = none := by rw [h.files, hr]; rfl
  refine W_enter (args := [.pointer (some ⟨g, 0, none⟩), str n, str d]) 33 Tryz.func51 rfl rfl rfl (W_sub [(0, .pointer (some ⟨g, 0, none⟩)), (1, str n), (2, str d)] ?_ ⟨rfl, rfl, rfl, trivial⟩)
  refine W_rs (sa rfl rfl (Wn (tN (W_seq (W_rs (sm rfl rfl (sc _ Tryz.func96 rfl (by kernel_rfl) rfl rfl ((ready_live g b D rs S _ h hok hl).mono ?_))))))))
  rintro e_ w1 ⟨rfl, h1, hC1⟩
  refine cR (sa rfl rfl (Wn (tN (W_rs (sm rfl rfl (st (X.neq rfl rfl) rfl (Wn (tN (W_no rfl (rfl) (W_skip ?_))))))))))
  refine tN (W_rs (sm rfl rfl (sm rfl rfl (sc _ Tryz.func57 rfl (by kernel_rfl) rfl rfl ((find_none g b _ rs S n _ h1 hr).mono ?_)))))
  rintro e_ w2 ⟨rfl, hb2⟩
  refine cR (sm rfl rfl (st (X.ext rfl rfl) rfl (st (X.ext rfl rfl) rfl (sa rfl rfl (sa rfl rfl (Wn (tN (W_seq (W_rs (sm rfl rfl ?_))))))))))
  refine st (X.neq rfl rfl) rfl (Wn (tN (W_yes rfl (rfl) (W_rs (sm rfl rfl (sa rfl rfl (Wn (tN (W_ret (tR ?_))))))))))
  exact (rT rfl rfl (DPost.of (h1.bel hb2) ((hC1.g h.inS.1).then_below hb2) ((opM_live hl _).trans (fileM_none (tick_get hf) _)))).1
 | some r =>
  have hf : mget D.files n = some r.f := by rw [h.files, hr]; rfl
  have hp := (hbud'.pend n r.f (tick_get hf)).2
  refine W_enter (args := [.pointer (some ⟨g, 0, none⟩), str n, str d]) 33 Tryz.func51 rfl rfl rfl (W_sub [(0, .pointer (some ⟨g, 0, none⟩)), (1, str n), (2, str d)] ?_ ⟨rfl, rfl, rfl, trivial⟩)
  refine W_rs (sa rfl rfl (Wn (tN (W_seq (W_rs (sm rfl rfl (sc _ Tryz.func96 rfl (by kernel_rfl) rfl rfl ((ready_live g b D rs S _ h hok hl).mono ?_))))))))
  rintro e_ w1 ⟨rfl, h1, hC1⟩
  refine cR (sa rfl rfl (Wn (tN (W_rs (sm rfl rfl (st (X.neq rfl rfl) rfl (Wn (tN (W_no rfl (rfl) (W_skip ?_))))))))))
  refine tN (W_rs (sm rfl rfl (sm rfl rfl (sc _ Tryz.func57 rfl (by kernel_rfl) rfl rfl ((find_some g b _ rs S n r _ h1 hr).mono ?_)))))
  rintro e_ w2 ⟨rfl, hb2⟩
  refine cR ?_
  have h2 := h1.bel hb2
  have hF := (h2.at_ n r hr).blk
  obtain ⟨a, c, hvn, _⟩ := (h2.at_ n r hr).now.shape
  rw [hvn] at hF
  refine sm rfl rfl (st (X.ext rfl rfl) rfl (st (X.ext rfl rfl) rfl (sa rfl rfl (sa rfl rfl (Wn (tN (W_seq (W_rs (sm rfl rfl (st (X.neq rfl rfl) rfl ?_))))))))))
  refine Wn (tN (W_no rfl (rfl) (W_skip (tN (W_rs (sm rfl rfl (sm rfl rfl (sm rfl rfl (st (X.nilChk rfl) rfl (st (X.fa fa126_1 rfl) rfl ?_))))))))))
  refine st (X.ldL rfl hF Tryz.underlying123 rfl rfl) rfl (st (X.lenL rfl rfl Tryz.underlying123) rfl (sm rfl rfl (sc _ Tryz.func97 rfl (by kernel_rfl) rfl rfl ((put_any g b _ rs S n r _ d _ h2 hok' hr (Nat.le_refl _) hd hp hbud'.ref).mono ?_))))
  rintro e_ w3 ⟨rfl, hD, hC3⟩
  refine cR (sa rfl rfl (Wn (tN (W_ret ?_))))
  exact (rT rfl rfl (DPost.up ((hC1.g h.inS.1).then_below hb2) hD hC3 ((opM_live hl _).trans (fileM_some (tick_get hf) _)))).1
theorem DiskIn.lasts {w w' : World} {g b : Nat} {D : DiskD} {rs : List (Key × FRec)} {S : Nat → Prop} {n : Key} {r : FRec} {vl' : Value} (h : DiskIn w g b D rs S) (hr : mget rs n = some r) (hs : Rising D.files)
  (hB : Blk w' r.blk 126 #[vl', r.vn, .slice none 0 0]) (hL : Row w' 5 1 vl' r.f.now.length (r.f.now.map bv)) (hN : Row w' 5 1 r.vn r.f.now.length (r.f.now.map bv)) (hO : ∀ k, vl'.ownBlock = some k → w.heap.size ≤ k) (hC : Chg (fun k => k = r.blk) w w') :
  DiskIn w' g b { D with files := sput D.files n (lastsM r.f) } (mput rs n ⟨r.blk, vl', r.vn, .slice none 0 0, lastsM r.f⟩) (Ext S w w') := by
 refine h.file hr (hC.mono (fun k _ hk => .inr (.inl hk))) (h.blk.chg hC (fun e => (h.ne hr).1 (.inl e))) (fun m => mget_sput hs n _ m) ⟨hB, hL, hN, Row.nil _ _ _, fun k hk hk2 => ?_⟩ rfl ?_
 ·have := (h.at_ n r hr).lt (.inr (.inr (.inl hk2)))
  have := hO k hk
  omega
 ·rintro k (e | e | e | e)
  ·exact .inl (.inl e)
  ·exact .inr (hO k e)
  ·exact .inl (.inr (.inr (.inl e)))
  ·simp [Value.ownBlock] at e
theorem Sync_any (g : Nat) (D : DiskD) (S : Nat → Prop) (n : Key) (w : World) (h : DiskAt w g D S) (hok : DOk D) :
  Calls Tryz.prog 54 #[.pointer (some ⟨g, 0, none⟩), str n] w (DPost g S w (syncM D n)) := by
 have h0 := h
 obtain ⟨b, rs, h⟩ := h
 by_cases hl : D.stops = true ∧ D.left = 0
 ·skip
  refine W_enter (args := [.pointer (some ⟨g, 0, none⟩), str n]) 24 Tryz.func54 rfl rfl rfl (W_sub [(0, .pointer (some ⟨g, 0, none⟩)), (1, str n)] ?_ ⟨rfl, rfl, trivial⟩)
  have hbw := Below.refl w.heap.size w
  refine W_rs (sa rfl rfl (Wn (tN (W_seq (W_rs (sm rfl rfl (sc _ Tryz.func96 rfl (by kernel_rfl) rfl rfl ((ready_dead g b D _ (h.bel hbw).blk hl).mono ?_))))))))
  rintro e_ w1 ⟨rfl, hb⟩
  refine cR ?_
  replace hbw := bthen hbw hb
  have hz_w1 := hb.size
  clear hb
  refine sa rfl rfl (Wn (tN (W_rs (sm rfl rfl (st (X.neq rfl rfl) rfl (Wn (tN (W_yes rfl (rfl) (W_rs (sm rfl rfl ?_))))))))))
  refine sa rfl rfl (Wn (tN (W_ret (tR ?_))))
  exact (rT rfl rfl (DPost.same h0 hbw (opM_dead hl _))).1
 have hok' := tick_ok hok hl
 cases hr : mget rs n with
 | none =>
  have hf : mget D.files n = none := by rw [h.files, hr]; rfl
  refine W_enter (args := [.pointer (some ⟨g, 0, none⟩), str n]) 24 Tryz.func54 rfl rfl rfl (W_sub [(0, .pointer (some ⟨g, 0, none⟩)), (1, str n)] ?_ ⟨rfl, rfl, trivial⟩)
  refine W_rs (sa rfl rfl (Wn (tN (W_seq (W_rs (sm rfl rfl (sc _ Tryz.func96 rfl (by kernel_rfl) rfl rfl ((ready_live g b D rs S _ h hok hl).mono ?_))))))))
  rintro e_ w1 ⟨rfl, h1, hC1⟩
  refine cR (sa rfl rfl (Wn (tN (W_rs (sm rfl rfl (st (X.neq rfl rfl) rfl (Wn (tN (W_no rfl (rfl) (W_skip ?_))))))))))
  refine tN (W_rs (sm rfl rfl (sm rfl rfl (sc _ Tryz.func57 rfl (by kernel_rfl) rfl rfl ((find_none g b _ rs S n _ h1 hr).mono ?_)))))
  rintro e_ w2 ⟨rfl, hb2⟩
  refine cR (sm rfl rfl (st (X.ext rfl rfl) rfl (st (X.ext rfl rfl) rfl (sa rfl rfl (sa rfl rfl (Wn (tN (W_seq (W_rs (sm rfl rfl ?_))))))))))
  refine st (X.neq rfl rfl) rfl (Wn (tN (W_yes rfl (rfl) (W_rs (sm rfl rfl (sa rfl rfl (Wn (tN (W_ret (tR ?_))))))))))
  exact (rT rfl rfl (DPost.of (h1.bel hb2) ((hC1.g h.inS.1).then_below hb2) ((opM_live hl _).trans (fileM_none (tick_get hf) _)))).1
 | some r =>
  have hf : mget D.files n = some r.f := by rw [h.files, hr]; rfl
  have hlen := (hok'.len (tick_get hf)).1
  refine W_enter (args := [.pointer (some ⟨g, 0, none⟩), str n]) 24 Tryz.func54 rfl rfl rfl (W_sub [(0, .pointer (some ⟨g, 0, none⟩)), (1, str n)] ?_ ⟨rfl, rfl, trivial⟩)
  refine W_rs (sa rfl rfl (Wn (tN (W_seq (W_rs (sm rfl rfl (sc _ Tryz.func96 rfl (by kernel_rfl) rfl rfl ((ready_live g b D rs S _ h hok hl).mono ?_))))))))
  rintro e_ w1 ⟨rfl, h1, hC1⟩
  refine cR (sa rfl rfl (Wn (tN (W_rs (sm rfl rfl (st (X.neq rfl rfl) rfl (Wn (tN (W_no rfl (rfl) (W_skip ?_))))))))))
  refine tN (W_rs (sm rfl rfl (sm rfl rfl (sc _ Tryz.func57 rfl (by kernel_rfl) rfl rfl ((find_some g b _ rs S n r _ h1 hr).mono ?_)))))
  rintro e_ w2 ⟨rfl, hb2⟩
  refine cR ?_
  have h2 := h1.bel hb2
  have hF := h2.at_ n r hr
  refine sm rfl rfl (st (X.ext rfl rfl) rfl (st (X.ext rfl rfl) rfl (sa rfl rfl (sa rfl rfl (Wn (tN (W_seq (W_rs (sm rfl rfl (st (X.neq rfl rfl) rfl ?_))))))))))
  refine Wn (tN (W_no rfl (rfl) (W_skip (tN (W_rs (sm rfl rfl (sc _ Tryz.func59 rfl (by kernel_rfl) rfl rfl ((lasts_any r.blk r.vl r.vn r.vp r.f.now _ hF.blk hF.now (by omega)).mono ?_))))))))
  rintro e_ w3 ⟨rfl, vl', hB3, hL3, hN3, hO3, hC3⟩
  refine cR (Wn (tN (W_rs (sa rfl rfl (Wn (tN (W_ret ((rT rfl rfl (DPost.up (x := (0, { tickM D with files := sput (tickM D).files n (lastsM r.f) })) ((hC1.g h.inS.1).then_below hb2) ⟨b, _, h2.lasts hr hok'.srt hB3 hL3 hN3 hO3 hC3⟩ (hC3.mono (fun k _ hk => h.inR n r k hr (.inl hk))) ((opM_live hl _).trans (fileM_some (tick_get hf) _)))).1))))))))
end Go.Proofs.YtnlabkogebnioaaGreatDoor
namespace Go.Proofs.YtnlabkogebnioaaGreatDoor
open Go.RowKit
theorem Chg.bel {S : Nat → Prop} {w w' w'' : World} (h : Chg S w w') (hb : Below w'.heap.size w' w'') : Chg S w w'' := h.then_below hb
theorem bfile (w : World) : (Instr.build 126 #[]).run Tryz.prog w = .ok (.agg #[.slice none 0 0, .slice none 0 0, .slice none 0 0]) w := by kernel_rfl
theorem look_ptr {rs : List (Key × FRec)} {n : Key} {o : Option Nat} (h : (mget rs n).map FRec.blk = o) : ((mget (rs.map fun p => (p.1, p.2.blk)) n).map encPtr).getD (.pointer none) = .pointer (o.map fun g => ⟨g, 0, none⟩) := by
 rw [mget_map, h]
 cases o <;> rfl
theorem Create_any (g : Nat) (D : DiskD) (S : Nat → Prop) (n : Key) (w : World) (h : DiskAt w g D S) (hok : DOk D) :
  Calls Tryz.prog 66 #[.pointer (some ⟨g, 0, none⟩), str n] w (DPost g S w (createM D n)) := by
 have h0 := h
 obtain ⟨b, rs, h⟩ := h
 by_cases hl : D.stops = true ∧ D.left = 0
 ·skip
  refine W_enter (args := [.pointer (some ⟨g, 0, none⟩), str n]) 30 Tryz.func66 rfl rfl rfl (W_sub [(0, .pointer (some ⟨g, 0, none⟩)), (1, str n)] ?_ ⟨rfl, rfl, trivial⟩)
  have hbw := Below.refl w.heap.size w
  refine W_rs (sa rfl rfl (Wn (tN (W_seq (W_rs (sm rfl rfl (sc _ Tryz.func96 rfl (by kernel_rfl) rfl rfl ((ready_dead g b D _ (h.bel hbw).blk hl).mono ?_))))))))
  rintro e_ w1 ⟨rfl, hb⟩
  refine cR ?_
  replace hbw := bthen hbw hb
  have hz_w1 := hb.size
  clear hb
  refine sa rfl rfl (Wn (tN (W_rs (sm rfl rfl (st (X.neq rfl rfl) rfl (Wn (tN (W_yes rfl (rfl) (W_rs (sm rfl rfl ?_))))))))))
  refine sa rfl rfl (Wn (tN (W_ret (tR ?_))))
  exact (rT rfl rfl (DPost.same h0 hbw (opM_dead hl _))).1
 have hok' := tick_ok hok hl
 cases hr : mget rs n with
 | some r =>
  have hf : mget D.files n = some r.f := by rw [h.files, hr]; rfl
  have hv := look_ptr (rs := rs) (n := n) (o := some r.blk) (by rw [hr]; rfl)
  refine W_enter (args := [.pointer (some ⟨g, 0, none⟩), str n]) 30 Tryz.func66 rfl rfl rfl (W_sub [(0, .pointer (some ⟨g, 0, none⟩)), (1, str n)] ?_ ⟨rfl, rfl, trivial⟩)
  refine W_rs (sa rfl rfl (Wn (tN (W_seq (W_rs (sm rfl rfl (sc _ Tryz.func96 rfl (by kernel_rfl) rfl rfl ((ready_live g b D rs S _ h hok hl).mono ?_))))))))
  rintro e_ w1 ⟨rfl, h1_, hC1_⟩
  refine cR ?_
  have h1 := h1_
  have hC1 := hC1_.g h.inS.1
  have hB : Blk w1 g 110 #[.map (some b), .int .i64 (tickM D).limit, .int .i64 (tickM D).used, .int .i64 (tickM D).refused, .bool (tickM D).stops, .int .i64 (tickM D).left] := h1.blk
  clear h1_ hC1_
  refine sa rfl rfl (Wn (tN (W_rs (sm rfl rfl (st (X.neq rfl rfl) rfl (Wn (tN (W_no rfl (rfl) (W_skip (tN ?_))))))))))
  refine W_seq (W_block (W_rs (sm rfl rfl (sc _ Tryz.func112 rfl (by kernel_rfl) rfl rfl ((named_any n _).mono ?_)))))
  rintro e_ w2 ⟨rfl, hb⟩
  refine cR ?_
  replace h1 := h1.bel hb
  replace hB := hB.bel hb
  replace hC1 := hC1.bel hb
  have hz_w2 := hb.size
  clear hb
  refine st (X.not rfl) rfl (sa rfl rfl (Wn (tN (W_if rfl (fun h11 => ?_) (fun h11 => ?_)))))
  ·first | replace h11 := of_decide_eq_true h11 | replace h11 := of_decide_eq_false (notT h11) | replace h11 := notT h11 | skip
   refine W_rs (sa rfl rfl (Wn (tN (W_ret (bR (tR ((rT rfl rfl (DPost.of h1 hC1 ((opM_live hl _).trans ?_))).1)))))))
   exact if_neg (by simp [h11])
  ·first | replace h11 := of_decide_eq_false h11 | replace h11 := of_decide_eq_true (notF h11) | replace h11 := notF h11 | skip
   refine W_rs (sm rfl rfl (st (X.nilChk rfl) rfl (st (X.fa fa110_0 rfl) rfl (st (X.ldL rfl hB Tryz.underlying108 rfl rfl) rfl (sm rfl rfl (st (v := .pointer (some ⟨r.blk, 0, none⟩)) (hv ▸ X.look (keyStr Tryz.underlying9) rfl n rfl Tryz.underlying108 (zptr _) h1.map) rfl (st (X.fNe rfl) rfl (sa rfl rfl (Wn (tN ?_))))))))))
   refine W_yes rfl (rfl) (W_rs (sa rfl rfl (Wn (tN (W_ret (bR (tR ((rT rfl rfl (DPost.of h1 hC1 ((opM_live hl _).trans ?_))).1))))))))
   rw [if_pos (by simpa using h11), if_pos (by rw [tick_get hf]; rfl)]
 | none =>
  have hf : mget D.files n = none := by rw [h.files, hr]; rfl
  have hv := look_ptr (rs := rs) (n := n) (o := none) (by rw [hr]; rfl)
  refine W_enter (args := [.pointer (some ⟨g, 0, none⟩), str n]) 30 Tryz.func66 rfl rfl rfl (W_sub [(0, .pointer (some ⟨g, 0, none⟩)), (1, str n)] ?_ ⟨rfl, rfl, trivial⟩)
  refine W_rs (sa rfl rfl (Wn (tN (W_seq (W_rs (sm rfl rfl (sc _ Tryz.func96 rfl (by kernel_rfl) rfl rfl ((ready_live g b D rs S _ h hok hl).mono ?_))))))))
  rintro e_ w1 ⟨rfl, h1_, hC1_⟩
  refine cR ?_
  have h1 := h1_
  have hC1 := hC1_.g h.inS.1
  have hB : Blk w1 g 110 #[.map (some b), .int .i64 (tickM D).limit, .int .i64 (tickM D).used, .int .i64 (tickM D).refused, .bool (tickM D).stops, .int .i64 (tickM D).left] := h1.blk
  clear h1_ hC1_
  refine sa rfl rfl (Wn (tN (W_rs (sm rfl rfl (st (X.neq rfl rfl) rfl (Wn (tN (W_no rfl (rfl) (W_skip (tN ?_))))))))))
  refine W_seq (W_block (W_rs (sm rfl rfl (sc _ Tryz.func112 rfl (by kernel_rfl) rfl rfl ((named_any n _).mono ?_)))))
  rintro e_ w2 ⟨rfl, hb⟩
  refine cR ?_
  replace h1 := h1.bel hb
  replace hB := hB.bel hb
  replace hC1 := hC1.bel hb
  have hz_w2 := hb.size
  clear hb
  refine st (X.not rfl) rfl (sa rfl rfl (Wn (tN (W_if rfl (fun h11 => ?_) (fun h11 => ?_)))))
  ·first | replace h11 := of_decide_eq_true h11 | replace h11 := of_decide_eq_false (notT h11) | replace h11 := notT h11 | skip
   refine W_rs (sa rfl rfl (Wn (tN (W_ret (bR (tR ((rT rfl rfl (DPost.of h1 hC1 ((opM_live hl _).trans ?_))).1)))))))
   exact if_neg (by simp [h11])
  ·first | replace h11 := of_decide_eq_false h11 | replace h11 := of_decide_eq_true (notF h11) | replace h11 := notF h11 | skip
   refine W_rs (sm rfl rfl (st (X.nilChk rfl) rfl (st (X.fa fa110_0 rfl) rfl (st (X.ldL rfl hB Tryz.underlying108 rfl rfl) rfl (sm rfl rfl (st (v := .pointer none) (hv ▸ X.look (keyStr Tryz.underlying9) rfl n rfl Tryz.underlying108 (zptr _) h1.map) rfl (st (X.fNe rfl) rfl (sa rfl rfl (Wn (tN ?_))))))))))
   refine W_no rfl (rfl) (W_skip (bN (tN (W_rs (sm rfl rfl (st (X.nilChk rfl) rfl (st (X.fa fa110_0 rfl) rfl (st (X.ldL rfl hB Tryz.underlying108 rfl rfl) rfl (sm rfl rfl (st (X.bld rfl (bfile _)) rfl ?_))))))))))
   refine sboxA rfl rfl (fun g29 w3 hB29 hg29 hb hl29 => (smu (keyStr Tryz.underlying9) rfl n g29 rfl rfl Tryz.underlying108 (h1.map.bel hb) (fun w4 hM2 hC2 => (Wn (tN (W_rs (sa rfl rfl (Wn (tN (W_ret ?_))))))))))
   have hbl := h1.map.lt
   have hcx := (Chg.of_below hb (fun k => k = g ∨ k = b)).next hC2 (fun i hi => .inl (.inr hi))
   refine (rT rfl rfl (DPost.up (x := (0, { tickM D with files := sput (tickM D).files n newFile })) hC1 ⟨b, _, h1.add (r' := ⟨g29, .slice none 0 0, .slice none 0 0, .slice none 0 0, newFile⟩) hcx ((h1.blk.belowAll hb).chg hC2 h1.gb) hM2 (fun m => mget_sput hok'.srt n _ m) ⟨hB29.chg hC2 (by omega), Row.nil _ _ _, Row.nil _ _ _, Row.nil _ _ _, fun k hk => by simp [Value.ownBlock] at hk⟩ ?_⟩ (hcx.mono (fun k _ hk => hk.elim (fun e => e ▸ h.inS.1) (fun e => e ▸ h.inS.2))) ((opM_live hl _).trans ?_))).1
   ·rintro k (e | e | e | e)
    ·subst e
     exact hg29
    all_goals simp [Value.ownBlock] at e
   ·rw [if_pos (by simpa using h11), if_neg (by rw [tick_get hf]; simp)]
end Go.Proofs.YtnlabkogebnioaaGreatDoor
namespace Go.Proofs.YtnlabkogebnioaaGreatDoor
open Go.RowKit
theorem DiskIn.remove {w w' : World} {g b : Nat} {D : DiskD} {rs : List (Key × FRec)} {S : Nat → Prop} {m : Key} (h : DiskIn w g b D rs S) (hs : Rising D.files) (hC : Chg (fun k => k = b) w w') (hM : MapAt w' b str encPtr (mdel (rs.map fun p => (p.1, p.2.blk)) m)) :
  DiskIn w' g b { D with files := mdel D.files m } (mdel rs m) S := by
 refine h.sub id (fun q s hq => ?_) (fun _ _ _ _ _ _ hne => hne) (hC.mono (fun k _ hk => .inr hk)) (h.blk.chg hC h.gb) (by rw [mdel_map]; exact hM) (fun q => ?_)
 ·rw [mget_mdel h.keys] at hq
  split at hq
  ·cases hq
  ·exact hq
 ·show mget (mdel D.files m) q = _
  rw [mget_mdel hs.nodup, mget_mdel h.keys]
  split
  ·rfl
  ·exact h.files q
set_option maxRecDepth 10000 in
theorem Remove_any (g : Nat) (D : DiskD) (S : Nat → Prop) (n : Key) (w : World) (h : DiskAt w g D S) (hok : DOk D) :
  Calls Tryz.prog 67 #[.pointer (some ⟨g, 0, none⟩), str n] w (DPost g S w (removeM D n)) := by
 have h0 := h
 obtain ⟨b, rs, h⟩ := h
 by_cases hl : D.stops = true ∧ D.left = 0
 ·skip
  refine W_enter (args := [.pointer (some ⟨g, 0, none⟩), str n]) 39 Tryz.func67 rfl rfl rfl (W_sub [(0, .pointer (some ⟨g, 0, none⟩)), (1, str n)] ?_ ⟨rfl, rfl, trivial⟩)
  have hbw := Below.refl w.heap.size w
  refine W_rs (sa rfl rfl (Wn (tN (W_seq (W_rs (sm rfl rfl (sc _ Tryz.func96 rfl (by kernel_rfl) rfl rfl ((ready_dead g b D _ (h.bel hbw).blk hl).mono ?_))))))))
  rintro e_ w1 ⟨rfl, hb⟩
  refine cR ?_
  replace hbw := bthen hbw hb
  have hz_w1 := hb.size
  clear hb
  refine sa rfl rfl (Wn (tN (W_rs (sm rfl rfl (st (X.neq rfl rfl) rfl (Wn (tN (W_yes rfl (rfl) (W_rs (sm rfl rfl ?_))))))))))
  refine sa rfl rfl (Wn (tN (W_ret (tR ?_))))
  exact (rT rfl rfl (DPost.same h0 hbw (opM_dead hl _))).1
 have hok' := tick_ok hok hl
 cases hr : mget rs n with
 | none =>
  have hf : mget D.files n = none := by rw [h.files, hr]; rfl
  refine W_enter (args := [.pointer (some ⟨g, 0, none⟩), str n]) 39 Tryz.func67 rfl rfl rfl (W_sub [(0, .pointer (some ⟨g, 0, none⟩)), (1, str n)] ?_ ⟨rfl, rfl, trivial⟩)
  refine W_rs (sa rfl rfl (Wn (tN (W_seq (W_rs (sm rfl rfl (sc _ Tryz.func96 rfl (by kernel_rfl) rfl rfl ((ready_live g b D rs S _ h hok hl).mono ?_))))))))
  rintro e_ w1 ⟨rfl, h1, hC1⟩
  refine cR (sa rfl rfl (Wn (tN (W_rs (sm rfl rfl (st (X.neq rfl rfl) rfl (Wn (tN (W_no rfl (rfl) (W_skip ?_))))))))))
  refine tN (W_rs (sm rfl rfl (sm rfl rfl (sc _ Tryz.func57 rfl (by kernel_rfl) rfl rfl ((find_none g b _ rs S n _ h1 hr).mono ?_)))))
  rintro e_ w2 ⟨rfl, hb2⟩
  refine cR (sm rfl rfl (st (X.ext rfl rfl) rfl (st (X.ext rfl rfl) rfl (sa rfl rfl (sa rfl rfl (Wn (tN (W_seq (W_rs (sm rfl rfl ?_))))))))))
  refine st (X.neq rfl rfl) rfl (Wn (tN (W_yes rfl (rfl) (W_rs (sm rfl rfl (sa rfl rfl (Wn (tN (W_ret (tR ?_))))))))))
  exact (rT rfl rfl (DPost.of (h1.bel hb2) ((hC1.g h.inS.1).then_below hb2) ((opM_live hl _).trans (fileM_none (tick_get hf) _)))).1
 | some r =>
  have hf : mget D.files n = some r.f := by rw [h.files, hr]; rfl
  obtain ⟨hlen, _, hlu⟩ := hok'.len (tick_get hf)
  have hlim := hok'.lim
  have hroom := hok'.room
  refine W_enter (args := [.pointer (some ⟨g, 0, none⟩), str n]) 39 Tryz.func67 rfl rfl rfl (W_sub [(0, .pointer (some ⟨g, 0, none⟩)), (1, str n)] ?_ ⟨rfl, rfl, trivial⟩)
  refine W_rs (sa rfl rfl (Wn (tN (W_seq (W_rs (sm rfl rfl (sc _ Tryz.func96 rfl (by kernel_rfl) rfl rfl ((ready_live g b D rs S _ h hok hl).mono ?_))))))))
  rintro e_ w1 ⟨rfl, h1, hC1⟩
  refine cR (sa rfl rfl (Wn (tN (W_rs (sm rfl rfl (st (X.neq rfl rfl) rfl (Wn (tN (W_no rfl (rfl) (W_skip ?_))))))))))
  refine tN (W_rs (sm rfl rfl (sm rfl rfl (sc _ Tryz.func57 rfl (by kernel_rfl) rfl rfl ((find_some g b _ rs S n r _ h1 hr).mono ?_)))))
  rintro e_ w2 ⟨rfl, hb2⟩
  refine cR ?_
  have h2 := h1.bel hb2
  have hC2 := (hC1.g h.inS.1).then_below hb2
  have hF := (h2.at_ n r hr).blk
  obtain ⟨a, c, hvn, _⟩ := (h2.at_ n r hr).now.shape
  rw [hvn] at hF
  have hB : Blk w2 g 110 #[.map (some b), .int .i64 (tickM D).limit, .int .i64 (tickM D).used, .int .i64 (tickM D).refused, .bool (tickM D).stops, .int .i64 (tickM D).left] := h2.blk
  refine sm rfl rfl (st (X.ext rfl rfl) rfl (st (X.ext rfl rfl) rfl (sa rfl rfl (sa rfl rfl (Wn (tN (W_seq (W_rs (sm rfl rfl (st (X.neq rfl rfl) rfl ?_))))))))))
  refine Wn (tN (W_no rfl (rfl) (W_skip (tN (W_still_s 12 (by kernel_rfl) (by kernel_rfl) ?_)))))
  obtain ⟨w3, hw_⟩ : ∃ w3 : World, w3 = World.drew w2 := ⟨_, rfl⟩
  rw [← hw_]
  have hb : Below w2.heap.size w2 w3 := by rw [hw_]; exact bdrew (Below.refl _ _)
  clear hw_
  replace hB := hB.bel hb
  replace hF := hF.bel hb
  replace h2 := h2.bel hb
  replace hC2 := hC2.bel hb
  have hz_w3 := hb.size
  clear hb
  refine hY (X.move rfl) rfl (hY (X.nilChk rfl) rfl (hY (X.fa fa110_2 rfl) rfl (hY (X.ldL rfl hB Tryz.underlying3 rfl rfl) rfl (hY (X.move rfl) rfl (hY (X.nilChk rfl) rfl (hY (X.fa fa126_1 rfl) rfl (hY (X.ldL rfl hF Tryz.underlying123 rfl rfl) rfl (hY (X.lenL rfl rfl Tryz.underlying123) rfl (hY (X.sub64 rfl rfl (by omega)) rfl (hY (X.nilChk rfl) rfl ?_))))))))))
  refine hY (X.fa fa110_2 rfl) rfl (hN (ssB rfl rfl hB siz3 rfl (by simp) (fun w4 hB3 hC3 => ?_)))
  have h3 := h2.self (D' := { tickM D with used := (tickM D).used - r.f.now.length }) hC3 hB3 rfl
  replace hB := hB3
  refine Wn (tN (W_rs (sm rfl rfl (st (X.nilChk rfl) rfl (st (X.fa fa110_0 rfl) rfl (st (X.ldL rfl hB Tryz.underlying108 rfl rfl) rfl (sm rfl rfl (sdel (keyStr Tryz.underlying9) rfl n rfl Tryz.underlying108 h3.map (fun w5 hM4 hC4 => (Wn (tN ?_)))))))))))
  refine W_rs (sa rfl rfl (Wn (tN (W_ret ?_))))
  exact (rT rfl rfl (DPost.up (x := (0, { tickM D with files := mdel (tickM D).files n, used := (tickM D).used - r.f.now.length })) hC2 ⟨b, _, (h3.remove hok'.srt hC4 hM4).mono Ext.of⟩ ((hC3.g h.inS.1).next (hC4.g h.inS.2) (fun i hi => .inl hi)) ((opM_live hl _).trans (fileM_some (tick_get hf) _)))).1
theorem ren_get {ν : Type} {m : List (Key × ν)} (hm : (m.map (·.1)).Nodup) (a b q : Key) (v : ν) : mget (mput (mdel m a) b v) q = if q = b then some v else if q = a then none else mget m q := by rw [mget_mput, mget_mdel hm]
theorem DiskIn.rename {w w' : World} {g b : Nat} {D : DiskD} {rs : List (Key × FRec)} {S : Nat → Prop} {m n : Key} {r : FRec} (h : DiskIn w g b D rs S) (hs : Rising D.files) (hr : mget rs m = some r) (hC : Chg (fun k => k = b) w w') (hM : MapAt w' b str encPtr (mput (mdel (rs.map fun p => (p.1, p.2.blk)) m) n r.blk)) :
  DiskIn w' g b { D with files := sput (mdel D.files m) n r.f } (mput (mdel rs m) n r) S := by
 refine h.sub (fun q => if q = n then m else q) (fun q s hq => ?_) (fun q q' s s' hq hq' hne => ?_) (hC.mono (fun k _ hk => .inr hk)) (h.blk.chg hC h.gb) (by rw [mput_map FRec.blk, mdel_map]; exact hM) (fun q => ?_)
 ·rw [ren_get h.keys] at hq
  split at hq
  ·injection hq with hq
   rename_i e
   rw [if_pos e, hr, hq]
  ·rename_i e
   rw [if_neg e]
   split at hq
   ·cases hq
   ·exact hq
 ·rw [ren_get h.keys] at hq hq'
  by_cases e : q = n
  ·rw [if_pos e, if_neg (fun e' => hne (e.trans e'.symm))]
   rw [if_neg (fun e' => hne (e.trans e'.symm))] at hq'
   rintro rfl
   rw [if_pos rfl] at hq'
   cases hq'
  ·rw [if_neg e]
   rw [if_neg e] at hq
   split
   ·rintro rfl
    rw [if_pos rfl] at hq
    cases hq
   ·exact hne
 ·show mget (sput (mdel D.files m) n r.f) q = _
  rw [mget_sput (hs.del m), ren_get h.keys, mget_mdel hs.nodup]
  split
  ·rfl
  ·split
   ·rfl
   ·exact h.files q
set_option maxRecDepth 10000 in
theorem Rename_any (g : Nat) (D : DiskD) (S : Nat → Prop) (m n : Key) (w : World) (h : DiskAt w g D S) (hok : DOk D) :
  Calls Tryz.prog 72 #[.pointer (some ⟨g, 0, none⟩), str m, str n] w (DPost g S w (renameM D m n)) := by
 have h0 := h
 obtain ⟨b, rs, h⟩ := h
 by_cases hl : D.stops = true ∧ D.left = 0
 ·skip
  refine W_enter (args := [.pointer (some ⟨g, 0, none⟩), str m, str n]) 62 Tryz.func72 rfl rfl rfl (W_sub [(0, .pointer (some ⟨g, 0, none⟩)), (1, str m), (2, str n)] ?_ ⟨rfl, rfl, rfl, trivial⟩)
  have hbw := Below.refl w.heap.size w
  refine W_rs (sa rfl rfl (Wn (tN (W_seq (W_rs (sm rfl rfl (sc _ Tryz.func96 rfl (by kernel_rfl) rfl rfl ((ready_dead g b D _ (h.bel hbw).blk hl).mono ?_))))))))
  rintro e_ w1 ⟨rfl, hb⟩
  refine cR ?_
  replace hbw := bthen hbw hb
  have hz_w1 := hb.size
  clear hb
  refine sa rfl rfl (Wn (tN (W_rs (sm rfl rfl (st (X.neq rfl rfl) rfl (Wn (tN (W_yes rfl (rfl) (W_rs (sm rfl rfl ?_))))))))))
  refine sa rfl rfl (Wn (tN (W_ret (tR ?_))))
  exact (rT rfl rfl (DPost.same h0 hbw (opM_dead hl _))).1
 have hok' := tick_ok hok hl
 by_cases hnm : nameOk n = true
 rotate_left
 ·skip
  refine W_enter (args := [.pointer (some ⟨g, 0, none⟩), str m, str n]) 62 Tryz.func72 rfl rfl rfl (W_sub [(0, .pointer (some ⟨g, 0, none⟩)), (1, str m), (2, str n)] ?_ ⟨rfl, rfl, rfl, trivial⟩)
  refine W_rs (sa rfl rfl (Wn (tN (W_seq (W_rs (sm rfl rfl (sc _ Tryz.func96 rfl (by kernel_rfl) rfl rfl ((ready_live g b D rs S _ h hok hl).mono ?_))))))))
  rintro e_ w1 ⟨rfl, h1, hC1⟩
  refine cR (sa rfl rfl (Wn (tN (W_rs (sm rfl rfl (st (X.neq rfl rfl) rfl (Wn (tN (W_no rfl (rfl) (W_skip ?_))))))))))
  refine tN (W_seq (W_rs (sm rfl rfl (sc _ Tryz.func112 rfl (by kernel_rfl) rfl rfl ((named_any n _).mono ?_)))))
  rintro e_ w2 ⟨rfl, hb2⟩
  refine cR (st (X.not rfl) rfl (Wn (tN (W_yes rfl (by simpa using hnm) ?_))))
  refine W_rs (sa rfl rfl (Wn (tN (W_ret (tR ?_)))))
  exact (rT rfl rfl (DPost.of (h1.bel hb2) ((hC1.g h.inS.1).then_below hb2) ((opM_live hl _).trans (if_neg hnm)))).1
 cases hr : mget rs m with
 | none =>
  have hf : mget D.files m = none := by rw [h.files, hr]; rfl
  refine W_enter (args := [.pointer (some ⟨g, 0, none⟩), str m, str n]) 62 Tryz.func72 rfl rfl rfl (W_sub [(0, .pointer (some ⟨g, 0, none⟩)), (1, str m), (2, str n)] ?_ ⟨rfl, rfl, rfl, trivial⟩)
  refine W_rs (sa rfl rfl (Wn (tN (W_seq (W_rs (sm rfl rfl (sc _ Tryz.func96 rfl (by kernel_rfl) rfl rfl ((ready_live g b D rs S _ h hok hl).mono ?_))))))))
  rintro e_ w1 ⟨rfl, h1, hC1⟩
  refine cR (sa rfl rfl (Wn (tN (W_rs (sm rfl rfl (st (X.neq rfl rfl) rfl (Wn (tN (W_no rfl (rfl) (W_skip ?_))))))))))
  refine tN (W_seq (W_rs (sm rfl rfl (sc _ Tryz.func112 rfl (by kernel_rfl) rfl rfl ((named_any n _).mono ?_)))))
  rintro e_ w2 ⟨rfl, hb2⟩
  refine cR (st (X.not rfl) rfl (Wn (tN (W_no rfl (by simpa using hnm) ?_))))
  refine W_skip (tN (W_rs (sm rfl rfl (sm rfl rfl (sc _ Tryz.func57 rfl (by kernel_rfl) rfl rfl ((find_none g b _ rs S m _ (h1.bel hb2) hr).mono ?_))))))
  rintro e_ w3 ⟨rfl, hb3⟩
  refine cR (sm rfl rfl (st (X.ext rfl rfl) rfl (st (X.ext rfl rfl) rfl (sa rfl rfl (sa rfl rfl (Wn (tN (W_seq (W_rs (sm rfl rfl ?_))))))))))
  refine st (X.neq rfl rfl) rfl (Wn (tN (W_yes rfl (rfl) (W_rs (sm rfl rfl (sa rfl rfl (Wn (tN (W_ret (tR ?_))))))))))
  exact (rT rfl rfl (DPost.of ((h1.bel hb2).bel hb3) (((hC1.g h.inS.1).then_below hb2).then_below hb3) ((opM_live hl _).trans ((if_pos hnm).trans (fileM_none (tick_get hf) _))))).1
 | some r =>
  have hf : mget D.files m = some r.f := by rw [h.files, hr]; rfl
  have hlim := hok'.lim
  have hroom := hok'.room
  cases hr2 : mget rs n with
  | none =>
   have hf2 : mget D.files n = none := by rw [h.files, hr2]; rfl
   have hv := look_ptr (rs := rs) (n := n) (o := none) (by rw [hr2]; rfl)
   refine W_enter (args := [.pointer (some ⟨g, 0, none⟩), str m, str n]) 62 Tryz.func72 rfl rfl rfl (W_sub [(0, .pointer (some ⟨g, 0, none⟩)), (1, str m), (2, str n)] ?_ ⟨rfl, rfl, rfl, trivial⟩)
   refine W_rs (sa rfl rfl (Wn (tN (W_seq (W_rs (sm rfl rfl (sc _ Tryz.func96 rfl (by kernel_rfl) rfl rfl ((ready_live g b D rs S _ h hok hl).mono ?_))))))))
   rintro e_ w1 ⟨rfl, h1, hC1⟩
   refine cR (sa rfl rfl (Wn (tN (W_rs (sm rfl rfl (st (X.neq rfl rfl) rfl (Wn (tN (W_no rfl (rfl) (W_skip ?_))))))))))
   refine tN (W_seq (W_rs (sm rfl rfl (sc _ Tryz.func112 rfl (by kernel_rfl) rfl rfl ((named_any n _).mono ?_)))))
   rintro e_ w2 ⟨rfl, hb2⟩
   refine cR (st (X.not rfl) rfl (Wn (tN (W_no rfl (by simpa using hnm) ?_))))
   refine W_skip (tN (W_rs (sm rfl rfl (sm rfl rfl (sc _ Tryz.func57 rfl (by kernel_rfl) rfl rfl ((find_some g b _ rs S m r _ (h1.bel hb2) hr).mono ?_))))))
   rintro e_ w3 ⟨rfl, hb3⟩
   refine cR ?_
   have h2 := (h1.bel hb2).bel hb3
   have hC2 := ((hC1.g h.inS.1).then_below hb2).then_below hb3
   have hB : Blk w3 g 110 #[.map (some b), .int .i64 (tickM D).limit, .int .i64 (tickM D).used, .int .i64 (tickM D).refused, .bool (tickM D).stops, .int .i64 (tickM D).left] := h2.blk
   refine sm rfl rfl (st (X.ext rfl rfl) rfl (st (X.ext rfl rfl) rfl (sa rfl rfl (sa rfl rfl (Wn (tN (W_seq (W_rs (sm rfl rfl (st (X.neq rfl rfl) rfl ?_))))))))))
   refine Wn (tN (W_no rfl (rfl) (W_skip (tN (W_seq (W_rs (sm rfl rfl (sm rfl rfl (st (X.eqS rfl rfl) rfl (Wn ?_))))))))))
   refine tN (W_if rfl (fun h30 => ?_) (fun h30 => ?_))
   ·first | replace h30 := of_decide_eq_true h30 | replace h30 := of_decide_eq_false (notT h30) | replace h30 := notT h30 | skip
    refine W_rs (sa rfl rfl (Wn (tN (W_ret (tR ?_)))))
    exact (rT rfl rfl (DPost.of h2 hC2 ((opM_live hl _).trans ((if_pos hnm).trans ((fileM_some (tick_get hf) _).trans (if_pos h30)))))).1
   ·first | replace h30 := of_decide_eq_false h30 | replace h30 := of_decide_eq_true (notF h30) | replace h30 := notF h30 | skip
    refine W_skip (tN (W_seq (W_rs (sm rfl rfl (st (X.nilChk rfl) rfl (st (X.fa fa110_0 rfl) rfl (st (X.ldL rfl hB Tryz.underlying108 rfl rfl) rfl (sm rfl rfl (st (v := .pointer none) (hv ▸ X.look (keyStr Tryz.underlying9) rfl n rfl Tryz.underlying108 (zptr _) h2.map) rfl (sa rfl rfl ?_))))))))))
    refine Wn (tN (W_rs (sm rfl rfl (st (X.fNe rfl) rfl (Wn (tN (W_no rfl (rfl) (W_skip (tN (W_rs ?_))))))))))
    refine sm rfl rfl (st (X.nilChk rfl) rfl (st (X.fa fa110_0 rfl) rfl (st (X.ldL rfl hB Tryz.underlying108 rfl rfl) rfl (sm rfl rfl (sdel (keyStr Tryz.underlying9) rfl m rfl Tryz.underlying108 h2.map (fun w4 hM4 hC4 => ?_))))))
    replace hB := hB.chg hC4 h2.gb
    refine Wn (tN (W_rs (sm rfl rfl (st (X.nilChk rfl) rfl (st (X.fa fa110_0 rfl) rfl (st (X.ldL rfl hB Tryz.underlying108 rfl rfl) rfl (sm rfl rfl (sm rfl rfl (smu (keyStr Tryz.underlying9) rfl n r.blk rfl rfl Tryz.underlying108 hM4 (fun w5 hM5 hC5 => (Wn ?_)))))))))))
    refine tN (W_rs (sa rfl rfl (Wn (tN (W_ret ?_)))))
    have hC45 := hC4.next hC5 (fun i hi => .inl hi)
    have h5 := h2.rename hok'.srt hr hC45 hM5
    refine (rT rfl rfl (DPost.up (x := (0, { tickM D with files := sput (mdel (tickM D).files m) n r.f })) hC2 ⟨b, _, h5.mono Ext.of⟩ (hC45.g h.inS.2) ((opM_live hl _).trans ((if_pos hnm).trans ((fileM_some (tick_get hf) _).trans ((if_neg h30).trans ?_)))))).1
    unfold lenAt
    rw [tick_get hf2]
    simp
  | some r2 =>
   have hf2 : mget D.files n = some r2.f := by rw [h.files, hr2]; rfl
   have hv := look_ptr (rs := rs) (n := n) (o := some r2.blk) (by rw [hr2]; rfl)
   obtain ⟨hlen, _, hlu⟩ := hok'.len (tick_get hf2)
   refine W_enter (args := [.pointer (some ⟨g, 0, none⟩), str m, str n]) 62 Tryz.func72 rfl rfl rfl (W_sub [(0, .pointer (some ⟨g, 0, none⟩)), (1, str m), (2, str n)] ?_ ⟨rfl, rfl, rfl, trivial⟩)
   refine W_rs (sa rfl rfl (Wn (tN (W_seq (W_rs (sm rfl rfl (sc _ Tryz.func96 rfl (by kernel_rfl) rfl rfl ((ready_live g b D rs S _ h hok hl).mono ?_))))))))
   rintro e_ w1 ⟨rfl, h1, hC1⟩
   refine cR (sa rfl rfl (Wn (tN (W_rs (sm rfl rfl (st (X.neq rfl rfl) rfl (Wn (tN (W_no rfl (rfl) (W_skip ?_))))))))))
   refine tN (W_seq (W_rs (sm rfl rfl (sc _ Tryz.func112 rfl (by kernel_rfl) rfl rfl ((named_any n _).mono ?_)))))
   rintro e_ w2 ⟨rfl, hb2⟩
   refine cR (st (X.not rfl) rfl (Wn (tN (W_no rfl (by simpa using hnm) ?_))))
   refine W_skip (tN (W_rs (sm rfl rfl (sm rfl rfl (sc _ Tryz.func57 rfl (by kernel_rfl) rfl rfl ((find_some g b _ rs S m r _ (h1.bel hb2) hr).mono ?_))))))
   rintro e_ w3 ⟨rfl, hb3⟩
   refine cR ?_
   have h2 := (h1.bel hb2).bel hb3
   have hC2 := ((hC1.g h.inS.1).then_below hb2).then_below hb3
   have hF := (h2.at_ n r2 hr2).blk
   obtain ⟨a, c, hvn, _⟩ := (h2.at_ n r2 hr2).now.shape
   rw [hvn] at hF
   have hB : Blk w3 g 110 #[.map (some b), .int .i64 (tickM D).limit, .int .i64 (tickM D).used, .int .i64 (tickM D).refused, .bool (tickM D).stops, .int .i64 (tickM D).left] := h2.blk
   refine sm rfl rfl (st (X.ext rfl rfl) rfl (st (X.ext rfl rfl) rfl (sa rfl rfl (sa rfl rfl (Wn (tN (W_seq (W_rs (sm rfl rfl (st (X.neq rfl rfl) rfl ?_))))))))))
   refine Wn (tN (W_no rfl (rfl) (W_skip (tN (W_seq (W_rs (sm rfl rfl (sm rfl rfl (st (X.eqS rfl rfl) rfl (Wn ?_))))))))))
   refine tN (W_if rfl (fun h30 => ?_) (fun h30 => ?_))
   ·first | replace h30 := of_decide_eq_true h30 | replace h30 := of_decide_eq_false (notT h30) | replace h30 := notT h30 | skip
    refine W_rs (sa rfl rfl (Wn (tN (W_ret (tR ?_)))))
    exact (rT rfl rfl (DPost.of h2 hC2 ((opM_live hl _).trans ((if_pos hnm).trans ((fileM_some (tick_get hf) _).trans (if_pos h30)))))).1
   ·first | replace h30 := of_decide_eq_false h30 | replace h30 := of_decide_eq_true (notF h30) | replace h30 := notF h30 | skip
    refine W_skip (tN (W_seq (W_rs (sm rfl rfl (st (X.nilChk rfl) rfl (st (X.fa fa110_0 rfl) rfl (st (X.ldL rfl hB Tryz.underlying108 rfl rfl) rfl (sm rfl rfl (st (v := .pointer (some ⟨r2.blk, 0, none⟩)) (hv ▸ X.look (keyStr Tryz.underlying9) rfl n rfl Tryz.underlying108 (zptr _) h2.map) rfl (sa rfl rfl ?_))))))))))
    refine Wn (tN (W_rs (sm rfl rfl (st (X.fNe rfl) rfl (Wn (tN (W_yes rfl (rfl) (W_still 12 (by kernel_rfl) (by kernel_rfl) ?_))))))))
    obtain ⟨w4, hw_⟩ : ∃ w4 : World, w4 = World.drew w3 := ⟨_, rfl⟩
    rw [← hw_]
    have hb : Below w3.heap.size w3 w4 := by rw [hw_]; exact bdrew (Below.refl _ _)
    clear hw_
    replace hB := hB.bel hb
    replace hF := hF.bel hb
    replace h2 := h2.bel hb
    replace hC2 := hC2.bel hb
    have hz_w4 := hb.size
    clear hb
    refine hY (X.move rfl) rfl (hY (X.nilChk rfl) rfl (hY (X.fa fa110_2 rfl) rfl (hY (X.ldL rfl hB Tryz.underlying3 rfl rfl) rfl (hY (X.move rfl) rfl (hY (X.nilChk rfl) rfl (hY (X.fa fa126_1 rfl) rfl (hY (X.ldL rfl hF Tryz.underlying123 rfl rfl) rfl (hY (X.lenL rfl rfl Tryz.underlying123) rfl (hY (X.sub64 rfl rfl (by omega)) rfl (hY (X.nilChk rfl) rfl ?_))))))))))
    refine hY (X.fa fa110_2 rfl) rfl (hN (ssB rfl rfl hB siz3 rfl (by simp) (fun w5 hB3 hC3 => ?_)))
    have h3 := h2.self (D' := { tickM D with used := (tickM D).used - r2.f.now.length }) hC3 hB3 rfl
    replace hB := hB3
    refine Wn (tN (W_rs (sm rfl rfl (st (X.nilChk rfl) rfl (st (X.fa fa110_0 rfl) rfl (st (X.ldL rfl hB Tryz.underlying108 rfl rfl) rfl (sm rfl rfl (sdel (keyStr Tryz.underlying9) rfl m rfl Tryz.underlying108 h3.map (fun w6 hM4 hC4 => ?_)))))))))
    replace hB := hB.chg hC4 h2.gb
    refine Wn (tN (W_rs (sm rfl rfl (st (X.nilChk rfl) rfl (st (X.fa fa110_0 rfl) rfl (st (X.ldL rfl hB Tryz.underlying108 rfl rfl) rfl (sm rfl rfl (sm rfl rfl (smu (keyStr Tryz.underlying9) rfl n r.blk rfl rfl Tryz.underlying108 hM4 (fun w7 hM5 hC5 => (Wn ?_)))))))))))
    refine tN (W_rs (sa rfl rfl (Wn (tN (W_ret ?_)))))
    have hC45 := hC4.next hC5 (fun i hi => .inl hi)
    have h5 := h3.rename hok'.srt hr hC45 hM5
    refine (rT rfl rfl (DPost.up (x := (0, { tickM D with files := sput (mdel (tickM D).files m) n r.f, used := (tickM D).used - r2.f.now.length })) hC2 ⟨b, _, h5.mono Ext.of⟩ ((hC3.g h.inS.1).next (hC45.g h.inS.2) (fun i hi => .inl hi)) ((opM_live hl _).trans ((if_pos hnm).trans ((fileM_some (tick_get hf) _).trans ((if_neg h30).trans ?_)))))).1
    unfold lenAt
    rw [tick_get hf2]
    rfl
end Go.Proofs.YtnlabkogebnioaaGreatDoor
namespace Go.Proofs.YtnlabkogebnioaaGreatDoor
open Go.RowKit
structure Good (n : Nat) (D : DiskD) : Prop where
  ok : DOk D
  pend : ∀ k f, mget D.files k = some f → pendLen f.pend ≤ n ∧ f.pend.length ≤ n
  ref : D.refused ≤ n
  few : D.files.length ≤ n
section
variable {n m : Nat} {D : DiskD} {k : Key} {f : FileD}
theorem Good.bud (h : Good n D) (hn : n ≤ 1099511627776) : DBud D := ⟨fun k f hf => by have := h.pend k f hf; omega, by have := h.ref; omega⟩
theorem Good.mono (h : Good n D) (hn : n ≤ m) : Good m D := ⟨h.ok, fun k f hf => by have := h.pend k f hf; omega, by have := h.ref; omega, by have := h.few; omega⟩
theorem Good.new {l : Int} (hl : 0 ≤ l ∧ l ≤ 16777216) : Good n (newM l) :=
 ⟨⟨List.Pairwise.nil, hl, rfl, hl.1, Int.le_refl _, (fun h => by cases h), (fun k f h => by cases h)⟩, (fun k f h => by cases h), (by show (0 : Int) ≤ n; omega), Nat.zero_le _⟩
theorem Good.tick (h : Good n D) (hl : ¬ (D.stops = true ∧ D.left = 0)) : Good n (tickM D) := by
 refine ⟨tick_ok h.ok hl, ?_, ?_, by rw [tick_files]; exact h.few⟩
 ·rw [tick_files]
  exact h.pend
 ·have := h.ref
  unfold tickM
  split <;> exact this
theorem sput_length (l : List (Key × FileD)) (k : Key) (f : FileD) : (sput l k f).length ≤ l.length + 1 := by
 induction l with
 | nil => simp [sput]
 | cons p l ih =>
  obtain ⟨a, u⟩ := p
  unfold sput
  split
  ·simp
  ·split
   ·simp
   ·simp only [List.length_cons]
    omega
theorem sput_length_old {l : List (Key × FileD)} (hl : Rising l) {k : Key} {f g : FileD} (h : mget l k = some g) : (sput l k f).length = l.length := by
 have h1 := keys_perm (m := sput l k f) (m' := l) (hl.sput k f).nodup hl.nodup (fun q => by
  rw [mget_sput hl]
  split
  ·rename_i e
   rw [e, h]
   rfl
  ·rfl)
 simpa using h1.length_eq
theorem mdel_length_le (l : List (Key × FileD)) (k : Key) : (mdel l k).length ≤ l.length := by
 induction l with
 | nil => simp [mdel]
 | cons p l ih =>
  obtain ⟨a, u⟩ := p
  unfold mdel
  split
  ·simp
  ·simp only [List.length_cons]
   omega
theorem mdel_length_old {l : List (Key × FileD)} {k : Key} {f : FileD} (h : mget l k = some f) : (mdel l k).length + 1 = l.length := by
 induction l with
 | nil => cases h
 | cons p l ih =>
  obtain ⟨a, u⟩ := p
  unfold mget at h
  unfold mdel
  split at h
  ·rename_i e
   rw [if_pos e]
   simp
  ·rename_i e
   rw [if_neg e]
   simp only [List.length_cons, ih h]
theorem Good.put (h : Good n D) (hn : n ≤ m) (hf : FOk f) (hp : pendLen f.pend ≤ m ∧ f.pend.length ≤ m) {u : Int} (hu : u = usedM (sput D.files k f)) (hr : u ≤ D.limit) (hw : (sput D.files k f).length ≤ m) : Good m { D with files := sput D.files k f, used := u } := by
 have hs := h.ok.srt
 refine ⟨⟨hs.sput k f, h.ok.lim, hu, hr, h.ok.ref, h.ok.stp, fun q g hg => ?_⟩, fun q g hg => ?_, by have := h.ref; show D.refused ≤ m; omega, hw⟩
 ·replace hg : mget (sput D.files k f) q = some g := hg
  rw [mget_sput hs] at hg
  split at hg
  ·injection hg with hg
   rw [← hg]
   exact hf
  ·exact h.ok.fok q g hg
 ·replace hg : mget (sput D.files k f) q = some g := hg
  rw [mget_sput hs] at hg
  split at hg
  ·injection hg with hg
   rw [← hg]
   exact hp
  ·have := h.pend q g hg
   omega
theorem Good.del (h : Good n D) {u : Int} (hu : u = usedM (mdel D.files k)) : Good n { D with files := mdel D.files k, used := u } := by
 have hs := h.ok.srt
 have hle : u ≤ D.limit := by
  have h1 := usedM_del (m := D.files) k
  have h2 := h.ok.used
  have h3 := h.ok.room
  omega
 refine ⟨⟨hs.del k, h.ok.lim, hu, hle, h.ok.ref, h.ok.stp, fun q g hg => ?_⟩, fun q g hg => ?_, h.ref, Nat.le_trans (mdel_length_le _ _) h.few⟩
 ·replace hg : mget (mdel D.files k) q = some g := hg
  rw [mget_mdel hs.nodup] at hg
  split at hg
  ·cases hg
  ·exact h.ok.fok q g hg
 ·replace hg : mget (mdel D.files k) q = some g := hg
  rw [mget_mdel hs.nodup] at hg
  split at hg
  ·cases hg
  ·exact h.pend q g hg
theorem usedM_new (hs : Rising D.files) (hf : mget D.files k = none) (hn : f.now = []) : usedM (sput D.files k f) = usedM D.files := by
 have := usedM_sput hs k f
 rw [hf, hn] at this
 simpa using this
theorem usedM_old (hs : Rising D.files) {g : FileD} (hf : mget D.files k = some g) : usedM (sput D.files k f) + g.now.length = usedM D.files + f.now.length := by
 have := usedM_sput hs k f
 rw [hf] at this
 simpa using this
theorem opM_good {c : DiskD → Int × DiskD} (h : Good n D) (hn : n ≤ m) (hc : ∀ D', Good n D' → D'.files = D.files → D'.limit = D.limit → Good m (c D').2) : Good m (opM D c).2 := by
 by_cases hl : D.stops = true ∧ D.left = 0
 ·rw [opM_dead hl]
  exact h.mono hn
 ·rw [opM_live hl]
  refine hc _ (h.tick hl) (tick_files D) ?_
  unfold tickM
  split <;> rfl
theorem fileM_good {c : FileD → Int × DiskD} (h : Good n D) (hn : n ≤ m) (hc : ∀ f, mget D.files k = some f → Good m (c f).2) : Good m (fileM D k c).2 := by
 cases hg : mget D.files k with
 | none => rw [fileM_none hg]; exact h.mono hn
 | some f => rw [fileM_some hg]; exact hc f hg
theorem create_good (h : Good n D) (k : Key) : Good (n + 1) (createM D k).2 := by
 refine opM_good h (by omega) fun D' h' _ _ => ?_
 split
 ·split
  ·exact h'.mono (by omega)
  ·rename_i hn
   have hg : mget D'.files k = none := by
    cases hg : mget D'.files k with
    | none => rfl
    | some f => rw [hg] at hn; exact absurd rfl hn
   exact h'.put (by omega) FOk.new ⟨by simp [newFile, pendLen], by simp [newFile]⟩ (by rw [usedM_new h'.ok.srt hg rfl]; exact h'.ok.used) h'.ok.room (by have := sput_length D'.files k newFile; have := h'.few; omega)
 ·exact h'.mono (by omega)
theorem put_good (h : Good n D) (hf : mget D.files k = some f) {at_ : Nat} {d : List UInt8} (ha : at_ ≤ f.now.length) : Good (n + d.length + 1) (putM D k f at_ d).2 := by
 unfold putM
 split
 ·exact h.mono (by omega)
 ·rename_i hd
  split
  ·exact ⟨⟨h.ok.srt, h.ok.lim, h.ok.used, h.ok.room, by have := h.ok.ref; show 0 ≤ D.refused + 1; omega, h.ok.stp, h.ok.fok⟩, fun q g hg => by have := h.pend q g hg; omega, by have := h.ref; show D.refused + 1 ≤ _; omega, by have := h.few; show D.files.length ≤ _; omega⟩
  ·rename_i hr
   have h1 := usedM_old (f := laidM f at_ d) h.ok.srt hf
   have h2 : (laidM f at_ d).now.length = max f.now.length (at_ + d.length) := overM_length ha
   have h3 := h.ok.used
   have h4 := h.pend k f hf
   refine h.put (by omega) ((h.ok.fok k f hf).laid ha hd) ?_ ?_ (by omega) (by rw [sput_length_old h.ok.srt hf]; have := h.few; omega)
   ·show pendLen (f.pend ++ [(at_, d)]) ≤ _ ∧ (f.pend ++ [(at_, d)]).length ≤ _
    rw [pendLen_append, List.length_append]
    simp only [pendLen, List.length_singleton]
    omega
   ·unfold moreM
    omega
theorem append_good (h : Good n D) (k : Key) (d : List UInt8) : Good (n + d.length + 1) (appendM D k d).2 :=
 opM_good h (by omega) fun _ h' _ _ => fileM_good h' (by omega) fun _ hf => put_good h' hf (Nat.le_refl _)
theorem sync_good (h : Good n D) (k : Key) : Good n (syncM D k).2 :=
 opM_good h (Nat.le_refl _) fun D' h' _ _ => fileM_good h' (Nat.le_refl _) fun f hf =>
  h'.put (u := D'.used) (Nat.le_refl _) (FOk.lasts f) ⟨by simp [lastsM, pendLen], by simp [lastsM]⟩ (by
   have h1 := usedM_old (f := lastsM f) h'.ok.srt hf
   have h2 := h'.ok.used
   have h3 : (lastsM f).now.length = f.now.length := rfl
   omega) h'.ok.room (by rw [sput_length_old h'.ok.srt hf]; exact h'.few)
theorem remove_good (h : Good n D) (k : Key) : Good n (removeM D k).2 :=
 opM_good h (Nat.le_refl _) fun D' h' _ _ => fileM_good h' (Nat.le_refl _) fun f hf => h'.del (by
  have h1 := usedM_del (m := D'.files) k
  rw [hf] at h1
  have h2 := h'.ok.used
  simp only [Option.map_some, Option.getD_some] at h1
  omega)
theorem rename_good (h : Good n D) (a b : Key) : Good n (renameM D a b).2 := by
 refine opM_good h (Nat.le_refl _) fun D' h' _ _ => ?_
 split
 ·refine fileM_good h' (Nat.le_refl _) fun f hf => ?_
  split
  ·exact h'
  ·rename_i hab
   have h1 := usedM_del (m := D'.files) a
   rw [hf] at h1
   simp only [Option.map_some, Option.getD_some] at h1
   have hd := h'.del (k := a) (u := usedM (mdel D'.files a)) rfl
   have h2 := usedM_sput (hd.ok.srt) b f
   have h3 : mget (mdel D'.files a) b = mget D'.files b := by
    rw [mget_mdel h'.ok.srt.nodup, if_neg (fun e => hab e.symm)]
   replace h2 : usedM (sput (mdel D'.files a) b f) + lenAt D' b = usedM (mdel D'.files a) + f.now.length := by
    rw [← h2]
    unfold lenAt
    show _ = _ + ((mget (mdel D'.files a) b).map _).getD 0
    rw [h3]
   have h4 := h'.ok.used
   have h5 := h'.ok.room
   have h6 := h'.pend a f hf
   exact hd.put (u := D'.used - lenAt D' b) (Nat.le_refl _) (h'.ok.fok a f hf) h6 (by show _ = ((usedM (sput (mdel D'.files a) b f) : Nat) : Int); omega) (by show _ ≤ D'.limit; omega) (by have h7 := sput_length (mdel D'.files a) b f; have h8 := mdel_length_old hf; have h9 := h'.few; show (sput (mdel D'.files a) b f).length ≤ n; omega)
 ·exact h'
theorem crashAll_keys : ∀ (l : List (Key × FileD)) (ks : List Int), (crashAll l ks).map (·.1) = l.map (·.1)
 | [], _ => rfl
 | p :: l, ks => by rw [crashAll, List.map_cons, List.map_cons, crashAll_keys l]
theorem crashAll_get : ∀ (l : List (Key × FileD)) (ks : List Int) (k : Key) (g : FileD), mget (crashAll l ks) k = some g → ∃ f i, mget l k = some f ∧ g = crashM f i
 | [], _, _, _, h => by cases h
 | p :: l, ks, k, g, h => by
  unfold crashAll at h
  unfold mget at h ⊢
  split at h
  ·rename_i hk
   injection h with h
   rw [if_pos hk]
   exact ⟨_, _, rfl, h.symm⟩
  ·rename_i hk
   rw [if_neg hk]
   exact crashAll_get l _ k g h
theorem crashAll_used : ∀ (l : List (Key × FileD)) (ks : List Int), (∀ p ∈ l, FOk p.2) → usedM (crashAll l ks) ≤ usedM l
 | [], _, _ => Nat.le_refl _
 | p :: l, ks, h => by
  unfold crashAll usedM
  have h1 := crashAll_used l ks.tail (fun q hq => h q (by simp [hq]))
  have h2 := (h p (by simp)).crash_len (keptM p.2 (ks.head?.getD 0))
  simp only
  omega
theorem rising_keys {m m' : List (Key × FileD)} (h : Rising m) (he : m'.map (·.1) = m.map (·.1)) : Rising m' := by
 have h1 : (m.map (·.1)).Pairwise (· < ·) := by rw [List.pairwise_map]; exact h
 rw [← he, List.pairwise_map] at h1
 exact h1
theorem crash_good (h : Good n D) (ks : List Int) : Good n (crashD D ks) := by
 have hs := rising_keys h.ok.srt (crashAll_keys D.files ks)
 refine ⟨⟨hs, h.ok.lim, rfl, ?_, h.ok.ref, (fun e => by cases e), fun q g hg => ?_⟩, fun q g hg => ?_, h.ref, by have h4 := congrArg List.length (crashAll_keys D.files ks); simp only [List.length_map] at h4; show (crashAll D.files ks).length ≤ n; rw [h4]; exact h.few⟩
 ·have h1 := crashAll_used D.files ks (fun p hp => h.ok.fok p.1 p.2 (mget_of_mem h.ok.srt.nodup hp))
  have h2 := h.ok.used
  have h3 := h.ok.room
  show ((usedM (crashAll D.files ks) : Nat) : Int) ≤ D.limit
  omega
 ·obtain ⟨f, i, _, rfl⟩ := crashAll_get _ _ _ _ hg
  exact FOk.crash f i
 ·obtain ⟨f, i, _, rfl⟩ := crashAll_get _ _ _ _ hg
  exact ⟨by simp [crashM, pendLen], by simp [crashM]⟩
end
end Go.Proofs.YtnlabkogebnioaaGreatDoor
namespace Go.Proofs.YtnlabkogebnioaaGreatDoor
open Go.RowKit
theorem pend_take {l : List (Nat × List UInt8)} {j : Nat} {x : Nat × List UInt8} (h : l[j]? = some x) : pendLen (l.take (j + 1)) = pendLen (l.take j) + x.2.length := by
 rw [take_next' h, pendLen_append]
 simp [pendLen]
theorem pend_drop {l : List (Nat × List UInt8)} {j : Nat} {x : Nat × List UInt8} (h : l[j]? = some x) : l.drop j = x :: l.drop (j + 1) := by
 obtain ⟨hj, rfl⟩ := List.getElem?_eq_some_iff.1 h
 exact List.drop_eq_getElem_cons hj
theorem pendLen_le_take (l : List (Nat × List UInt8)) (j : Nat) : pendLen (l.take j) ≤ pendLen l := by
 conv => rhs; rw [← List.take_append_drop j l, pendLen_append]
 omega
theorem mod_twice (p n : Int) : (p.tmod n + n) % n = p % n := by
 rw [Int.tmod_def, Int.add_emod_right]
 rw [Int.sub_eq_add_neg, ← Int.mul_neg, Int.add_mul_emod_self_left]
theorem kept_any (g : Nat) (vl vn vp : Value) (f : FileD) (pick : Int) (w : World) (hB : Blk w g 126 #[vl, vn, vp]) (hP : Row w 191 2 vp f.pend.length (f.pend.flatMap pendCellsD)) (hl : pendLen f.pend ≤ 1099511627776) :
  Calls Tryz.prog 75 #[.pointer (some ⟨g, 0, none⟩), .int .i64 pick] w fun e w' => e = .returned (.int .i64 (keptM f pick)) ∧ Below w.heap.size w w' := by
 obtain ⟨a, c, rfl, hc1, hc2⟩ := hP.shape
 have hnn := hP.nle
 obtain ⟨l, hfl⟩ : ∃ l, f.pend = l := ⟨_, rfl⟩
 unfold keptM
 rw [hfl] at hP hB hl hc1 hnn ⊢
 refine W_enter (args := [.pointer (some ⟨g, 0, none⟩), .int .i64 pick]) 30 Tryz.func75 rfl rfl rfl (W_sub [(0, .pointer (some ⟨g, 0, none⟩)), (1, .int .i64 pick)] ?_ ⟨rfl, rfl, trivial⟩)
 have hbw := Below.refl w.heap.size w
 refine W_rs (sa rfl rfl (Wn (tN (W_rs (sa rfl rfl (Wn (tN (W_seq (W_rs (sm rfl rfl ?_))))))))))
 refine st (X.nilChk rfl) rfl (st (X.fa fa126_2 rfl) rfl (st (X.ldL rfl hB Tryz.underlying124 rfl rfl) rfl (st (X.lenL rfl rfl Tryz.underlying124) rfl (sm rfl rfl (Wn (tN (W_block (W_lp (fun nw1_ lw1_ w1 => ∃ j : Nat, nw1_ = l.length - j ∧ lw1_ = ([(1, .int .i64 pick), (5, .int .i64 (1 + (pendLen (l.take j) : Nat))), (11, .slice a l.length c), (12, .int .i64 l.length), (13, .int .i64 j)] : Env) ∧ (j ≤ l.length) ∧ (Below w.heap.size w w1) ∧ (Row w1 191 2 (.slice a l.length c) l.length (l.flatMap pendCellsD))) _ ⟨_, ⟨0, rfl, rfl, by omega, hbw, hP.bel hbw⟩, ⟨rfl, rfl, rfl, rfl, rfl, trivial⟩⟩ ?_))))))))
 clear hbw
 rintro nw1_ lw1_ w1 ⟨j, rfl, rfl, hj, hbw, hP⟩
 have hz_w1 := hbw.size
 refine W_rs (st (X.lss rfl rfl) rfl (Wn (tN (W_seq (W_if rfl (fun h14 => ?_) (fun h14 => ?_))))))
 ·first | replace h14 := of_decide_eq_true h14 | replace h14 := of_decide_eq_false (notT h14) | replace h14 := notT h14 | skip
  obtain ⟨x, hx⟩ : ∃ x, l[j]? = some x := ⟨_, List.getElem?_eq_getElem (by omega)⟩
  obtain ⟨g1, o1, c', hv, hg1⟩ := hP.reads.some_ (by omega)
  injection hv with e1 _ e3
  subst e1 e3
  have hle := pendLen_le_take l (j + 1)
  rw [pend_take hx] at hle
  refine W_skip (tN (W_seq (W_block (W_rs (st (X.idxA rfl rfl Tryz.underlying124 siz191 rfl (by omega)) rfl (st (X.ldN (cs := pendCellsD x) rfl Tryz.underlying191 rfl siz191 (hP.reads.rec_ (fun p _ => putCells_length p) hx)) rfl (salA inf191 rfl (fun g7 w2 hB7 hg7 hb hl7 => ?_))))))))
  have hpend := hb
  replace hbw := bthen hbw hb
  have hz_w2 := hb.size
  clear hb
  refine ssBN rfl rfl hB7 siz191 rfl rfl (fun w3 hB_ hc_ => ?_)
  replace hB7 := hB_
  clear hB_
  replace hpend := bset hpend hc_ (by omega)
  replace hbw := bset hbw hc_ (by omega)
  have hz_w3 := hc_.size
  clear hc_
  refine Wn (tN (W_reg (sm rfl rfl (st (X.fa fa191_1 rfl) rfl (st (X.ldL rfl hB7 Tryz.underlying9 rfl rfl) rfl (st (X.lenS (s := x.2) rfl rfl Tryz.underlying9) rfl (st (X.add64 rfl rfl (by omega)) rfl (sa rfl rfl (Wn (bN ?_))))))))))
  refine tN (W_reg (st (X.add64 rfl rfl (by omega)) rfl (sm rfl rfl (Wn ?_))))
  replace hP := hP.bel hpend
  clear hpend
  refine tN ⟨_, _, ?_, ⟨j + 1, rfl, rfl, by omega, hbw, hP⟩, ⟨rfl, by rw [pend_take hx, Int.natCast_add, Int.add_assoc]; rfl, rfl, rfl, rfl, trivial⟩⟩
  omega
 ·first | replace h14 := of_decide_eq_false h14 | replace h14 := of_decide_eq_true (notF h14) | replace h14 := notF h14 | skip
  obtain rfl : j = l.length := by omega
  rw [List.take_length]
  have ht1 := Int.tmod_lt_of_pos pick (b := 1 + (pendLen l : Nat)) (by omega)
  have ht2 := Int.lt_tmod_of_pos pick (b := 1 + (pendLen l : Nat)) (by omega)
  obtain ⟨q, hq⟩ : ∃ q, pick.tmod (1 + (pendLen l : Nat)) = q := ⟨_, rfl⟩
  rw [hq] at ht1 ht2
  refine W_exit (tE (tE (bH (tN (W_rs (sm rfl rfl (sm rfl rfl (st (X.rem rfl rfl (by omega) hq) rfl (sm rfl rfl (st (X.add64 rfl rfl (by omega)) rfl (sm rfl rfl (st (X.rem64 rfl rfl (by omega) (by omega)) rfl (sa rfl rfl ?_)))))))))))))
  refine Wn (tN (W_ret ((rT rfl rfl ⟨?_, hbw⟩).1)))
  have h5 := Int.emod_nonneg pick (b := 1 + (pendLen l : Nat)) (by omega)
  rw [← hq, mod_twice, show ((pendLen l + 1 : Nat) : Int) = 1 + (pendLen l : Nat) by omega, Int.toNat_of_nonneg h5]
theorem take_min' {α : Type} (l : List α) (k : Nat) : l.take (min k l.length) = l.take k := by
 rcases Nat.le_total k l.length with h | h
 ·rw [Nat.min_eq_left h]
 ·rw [Nat.min_eq_right h, List.take_length, List.take_of_length_le h]
set_option maxRecDepth 10000 in
theorem crash_any (r : FRec) (keep : Nat) (w : World) (h : FileAt w r) (hpl : pendLen r.f.pend ≤ 1099511627776) (hll : r.f.last.length ≤ 1099511627776) (hkp : keep ≤ 4398046511104) :
  Calls Tryz.prog 74 #[.pointer (some ⟨r.blk, 0, none⟩), .int .i64 keep] w fun e w' => e = .returned (.tuple #[]) ∧ ∃ r', FileAt w' r' ∧ r'.blk = r.blk ∧ r'.f = crashM r.f keep ∧ (∀ k, r'.owns k → r.owns k ∨ w.heap.size ≤ k) ∧ Chg r.owns w w' := by
 have hF := h.blk
 have hLa := h.last
 have hPe := h.pend
 have hflt := hF.lt
 obtain ⟨ap, cp, hvp, hcp, hcp2⟩ := hPe.shape
 obtain ⟨al, cl, hvl, hcl, hcl2⟩ := hLa.shape
 have hnn := hPe.nle
 obtain ⟨l, hfl⟩ : ∃ l, r.f.pend = l := ⟨_, rfl⟩
 rw [hfl] at hPe hpl hcp hnn hvp
 rw [hvl] at hF hLa
 rw [hvp] at hF hPe
 refine W_enter (args := [.pointer (some ⟨r.blk, 0, none⟩), .int .i64 keep]) 55 Tryz.func74 rfl rfl rfl (W_sub [(0, .pointer (some ⟨r.blk, 0, none⟩)), (1, .int .i64 keep)] ?_ ⟨rfl, rfl, trivial⟩)
 have hcw := Chg.refl (r.owns) w
 refine W_seq (W_rs (sm rfl rfl (st (X.nilChk rfl) rfl (st (X.fa fa126_2 rfl) rfl (st (X.ldL rfl hF Tryz.underlying124 rfl rfl) rfl (st (X.lenL rfl rfl Tryz.underlying124) rfl (sm rfl rfl (Wn (tN (W_block ?_))))))))))
 refine W_lp (fun nw1_ lw1_ w1 => ∃ j : Nat, ∃ a1 : Option Addr, ∃ c1 : Nat, ∃ s : List UInt8, ∃ kp : Nat, nw1_ = l.length - j ∧ lw1_ = ([(0, .pointer (some ⟨r.blk, 0, none⟩)), (1, .int .i64 kp), (10, .slice ap l.length cp), (11, .int .i64 l.length), (12, .int .i64 j)] : Env) ∧ (j ≤ l.length) ∧ (kp ≤ 4398046511104) ∧ (s.length + pendLen (l.drop j) ≤ 4398046511104) ∧ (crashBytes r.f.last l keep = crashBytes s (l.drop j) kp) ∧ (Chg r.owns w w1) ∧ (Blk w1 r.blk 126 #[.slice a1 s.length c1, r.vn, .slice ap l.length cp]) ∧ (Row w1 5 1 (.slice a1 s.length c1) s.length (s.map bv)) ∧ (Row w1 191 2 (.slice ap l.length cp) l.length (l.flatMap pendCellsD)) ∧ (∀ k, (Value.slice a1 s.length c1).ownBlock = some k → r.vl.ownBlock = some k ∨ w.heap.size ≤ k)) _ ⟨_, ⟨0, al, cl, r.f.last, keep, rfl, rfl, by omega, hkp, by rw [List.drop_zero]; omega, by rw [List.drop_zero], hcw, hF, hLa, hPe, fun k hk => .inl (by rw [hvl]; exact hk)⟩, ⟨rfl, rfl, rfl, rfl, rfl, trivial⟩⟩ ?_
 clear hcw hF hLa hPe
 rintro nw1_ lw1_ w1 ⟨j, a1, c1, s, kp, rfl, rfl, hj, hkb, hsl, heq, hcw, hF, hLa, hPe, hO⟩
 have hlt_hF_w1 := hF.lt
 have hzc := hcw.size
 refine W_rs (st (X.lss rfl rfl) rfl (Wn (tN (W_seq (W_if rfl (fun h13 => ?_) (fun h13 => ?_))))))
 ·first | replace h13 := of_decide_eq_true h13 | replace h13 := of_decide_eq_false (notT h13) | replace h13 := notT h13 | skip
  obtain ⟨x, hx⟩ : ∃ x, l[j]? = some x := ⟨_, List.getElem?_eq_getElem (by omega)⟩
  obtain ⟨g1, o1, c', hv, hg1⟩ := hPe.reads.some_ (by omega)
  injection hv with e1 _ e3
  subst e1 e3
  have hdj := pend_drop hx
  rw [hdj] at heq hsl
  have hptl : (x.2.take (min kp x.2.length)).length = min kp x.2.length := by rw [List.length_take]; omega
  have hsl3 : s.length + (x.2.length + pendLen (l.drop (j + 1))) ≤ 4398046511104 := hsl
  refine W_skip (tN (W_seq (W_block (W_rs (st (X.idxA rfl rfl Tryz.underlying124 siz191 rfl (by omega)) rfl (st (X.ldN (cs := pendCellsD x) rfl Tryz.underlying191 rfl siz191 (hPe.reads.rec_ (fun p _ => putCells_length p) hx)) rfl (salA inf191 rfl (fun g5 w2 hB5 hg5 hb hl5 => ?_))))))))
  have hpend := hb
  replace hcw := hcw.then_below hb
  replace hF := hF.bel hb
  have hz_w2 := hb.size
  clear hb
  refine ssBN rfl rfl hB5 siz191 rfl rfl (fun w3 hB_ hc_ => ?_)
  replace hB5 := hB_
  clear hB_
  replace hpend := bset hpend hc_ (by omega)
  replace hF := hF.chg hc_ (by first | (show ¬ _ = _; omega) | (intro k_ hk_; simp [Value.ownBlock] at hk_; subst hk_; show ¬ _ = _; omega) | assumption | trivial)
  replace hcw := hcw.next hc_ (fun i_ hi_ => by first | exact .inl hi_ | exact .inl (.inl hi_) | (right; subst hi_; omega) | (left; subst hi_; show _ ≤ _; omega) | (left; subst hi_; assumption))
  have hz_w3 := hc_.size
  clear hc_
  refine Wn (tN (W_rs (st (X.fa fa191_1 rfl) rfl (st (X.ldL rfl hB5 Tryz.underlying9 rfl rfl) rfl (sm rfl rfl (st (X.fa fa191_1 rfl) rfl (st (X.ldL rfl hB5 Tryz.underlying9 rfl rfl) rfl (st (X.lenS (s := x.2) rfl rfl Tryz.underlying9) rfl (st (X.min2 (r := (min kp x.2.length : Nat)) rfl rfl (by split <;> omega)) rfl ?_)))))))))
  refine st (X.toS (s := x.2) rfl rfl Tryz.underlying9 rfl (by omega)) rfl (sa rfl rfl (Wn (tN (W_rs (sm rfl rfl (sm rfl rfl (st (X.lenS rfl rfl Tryz.underlying9) rfl (st (X.sub64 rfl rfl (by omega)) rfl (sa rfl rfl (Wn ?_))))))))))
  refine tN (W_float 14 (by kernel_rfl) (by kernel_rfl) ?_)
  obtain ⟨w4, hw_⟩ : ∃ w4 : World, w4 = World.drew w3 := ⟨_, rfl⟩
  rw [← hw_]
  have hb : Below w3.heap.size w3 w4 := by rw [hw_]; exact bdrew (Below.refl _ _)
  clear hw_
  replace hpend := bthen hpend hb
  replace hcw := hcw.then_below hb
  replace hF := hF.bel hb
  replace hB5 := hB5.bel hb
  have hz_w4 := hb.size
  clear hb
  refine fY (X.move rfl) rfl (fY (X.move rfl) rfl (fY (X.nilChk rfl) rfl (fY (X.fa fa126_0 rfl) rfl (fY (X.ldL rfl hF Tryz.underlying123 rfl rfl) rfl (fY (X.fa fa191_0 rfl) rfl (fY (X.ldL rfl hB5 Tryz.underlying3 rfl rfl) rfl (fY (X.move rfl) rfl (fY (X.nilChk rfl) rfl (fY (X.fa fa126_0 rfl) rfl (fY (X.ldL rfl hF Tryz.underlying123 rfl rfl) rfl ?_))))))))))
  refine fY (X.lenL rfl rfl Tryz.underlying123) rfl (fY (X.min2 (r := (min x.1 s.length : Nat)) rfl rfl (by split <;> omega)) rfl ?_)
  refine fY (X.move rfl) rfl (fN ?_)
  replace hPe := hPe.bel hpend
  replace hLa := hLa.bel hpend
  clear hpend
  refine sc _ Tryz.func118 rfl (by kernel_rfl) rfl rfl ((over_any _ s (min x.1 s.length) (x.2.take (min kp x.2.length)) _ hLa (by omega) (by omega) (by omega)).mono ?_)
  rintro e_ w5 ⟨v', rfl, hR4, hC4, hO4⟩
  refine cR ?_
  obtain ⟨a2, c2, rfl, hc4, _⟩ := hR4.shape
  have hzc4 := hcw.size
  have hF4 := hF.chg hC4 (fun e => hLa.ne2 hF (by decide) _ e rfl)
  have hPe4 := hPe.chg hC4 (fun k hk => hPe.apart_ hLa (by decide) k hk)
  have hcw4 := hcw.next hC4 (fun i hi => (hO i hi).imp (fun e => .inr (.inl e)) id)
  have hO5 : ∀ k, (Value.slice a2 (overM s (min x.1 s.length) (x.2.take (min kp x.2.length))).length c2).ownBlock = some k → r.vl.ownBlock = some k ∨ w.heap.size ≤ k := fun k hk => (hO4 k hk).elim (hO k) (fun e => .inr (by omega))
  clear hF hPe hLa hcw hO
  refine st (X.nilChk rfl) rfl (st (X.fa fa126_0 rfl) rfl (ssB rfl rfl hF4 siz123 rfl (by simp) (fun w6 hF hC5 => ?_)))
  have hcw := hcw4.next hC5 (fun i hi => .inl (.inl hi))
  have hLa := hR4.chg hC5 (hR4.ne2 hF4 (by decide))
  have hPe := hPe4.chg hC5 (hPe4.ne2 hF4 (by decide))
  have hO := hO5
  clear hcw4 hF4 hPe4 hR4 hO5
  have hol := overM_length (l := s) (at_ := min x.1 s.length) (d := x.2.take (min kp x.2.length)) (by omega)
  have hsl2 : (overM s (min x.1 s.length) (x.2.take (min kp x.2.length))).length + pendLen (l.drop (j + 1)) ≤ 4398046511104 := by omega
  have heq2 : crashBytes r.f.last l keep = crashBytes (overM s (min x.1 s.length) (x.2.take (min kp x.2.length))) (l.drop (j + 1)) (kp - min kp x.2.length) := by
   rw [heq, take_min']
   rfl
  refine Wn (nN (bN (tN (W_reg (st (X.add64 rfl rfl (by omega)) rfl (sm rfl rfl (Wn (tN ⟨_, _, ?_, ⟨j + 1, a2, c2, overM s (min x.1 s.length) (x.2.take (min kp x.2.length)), kp - min kp x.2.length, rfl, rfl, by omega, by omega, hsl2, heq2, hcw, hF, hLa, hPe, hO⟩, ⟨rfl, by rw [show ((kp - min kp x.2.length : Nat) : Int) = (kp : Int) - ((x.2.take (min kp x.2.length)).length : Nat) by omega]; rfl, rfl, rfl, rfl, trivial⟩⟩))))))))
  omega
 ·first | replace h13 := of_decide_eq_false h13 | replace h13 := of_decide_eq_true (notF h13) | replace h13 := notF h13 | skip
  obtain rfl : j = l.length := by omega
  have heq' : s = crashBytes r.f.last l keep := by
   rw [heq, List.drop_length]
   rfl
  refine W_exit (tE (tE (bH (tN (W_rs (sm rfl rfl (sm rfl rfl (st (X.nilChk rfl) rfl (st (X.fa fa126_0 rfl) rfl (st (X.ldL rfl hF Tryz.underlying123 rfl rfl) rfl (st (X.nilChk rfl) rfl (st (X.fa fa126_1 rfl) rfl (ssB rfl rfl hF siz123 hLa.one1 (by simp) (fun w7 hF6 hC6 => ?_))))))))))))))
  have hcw6 := hcw.next hC6 (fun i hi => .inl (.inl hi))
  have hLa6 := hLa.chg hC6 (hLa.ne2 hF (by decide))
  have hzc6 := hcw6.size
  clear hF hLa hPe hcw
  have hcw := hcw6
  have hF := hF6
  refine Wn (tN (W_reg (sm rfl rfl (sc _ Tryz.func59 rfl (by kernel_rfl) rfl rfl ((lasts_any r.blk _ _ _ s _ hF6 hLa6 (by have := hsl; omega)).mono ?_)))))
  rintro e_ w8 ⟨rfl, vl', hF7, hV7, hN7, hO7, hC7⟩
  refine cR ?_
  clear hcw hF
  have hcw := hcw6.next hC7 (fun i hi => .inl (.inl hi))
  have hF := hF7
  have hcr : crashM r.f keep = ⟨s, s, []⟩ := by rw [crashM, hfl, ← heq']
  have hap : ∀ k, vl'.ownBlock = some k → (Value.slice a1 s.length c1).ownBlock ≠ some k := fun k hk hk2 => by
   obtain ⟨cs, fz, e⟩ := hLa6.heap_cells hk2
   have := (Array.getElem?_eq_some_iff.1 e).1
   have := hO7 k hk
   omega
  have how : ∀ k, FRec.owns ⟨r.blk, vl', .slice a1 s.length c1, .slice none 0 0, ⟨s, s, []⟩⟩ k → r.owns k ∨ w.heap.size ≤ k := by
   rintro k (hk | hk | hk | hk)
   ·exact .inl (.inl hk)
   ·exact .inr (by have := hO7 k hk; omega)
   ·exact (hO k hk).imp (fun e => .inr (.inl e)) id
   ·simp [Value.ownBlock] at hk
  refine Wn ?_
  exact (r0 rfl ⟨rfl, ⟨r.blk, vl', .slice a1 s.length c1, .slice none 0 0, ⟨s, s, []⟩⟩, ⟨hF7, hV7, hN7, Row.nil _ _ _, hap⟩, rfl, hcr.symm, how, hcw⟩).2
end Go.Proofs.YtnlabkogebnioaaGreatDoor
namespace Go.Proofs.YtnlabkogebnioaaGreatDoor
open Go.RowKit Go.Shelf
theorem wideT : Wide Fence.wide := fun _ => trivial
set_option maxRecDepth 10000 in
theorem keys_gives (n : Nat) (w : World) (gB b : Nat) (m : List (Key × Nat)) (hB : Blk w gB 108 #[.map (some b)]) (hM : MapAt w b str encPtr m) :
  SeqGives Fence.wide n Tryz.prog 155 #[.pointer (some ⟨gB, 0, none⟩)] encStr (fun xs => xs.Perm (m.map (·.1))) m.length w := by
 intro lp J W hW hJ hY h0
 replace hB : Blk W gB 108 #[.map (some b)] := hB.bel hW
 replace hM : MapAt W b str encPtr m := hM.bel hW
 have hgB := hB.lt
 refine callsIn_wide.2 (W_enter (args := [.func (.yield lp) #[] #[], .pointer (some ⟨gB, 0, none⟩)]) 14 Tryz.func155 rfl rfl rfl (W_sub [(0, .func (.yield lp) #[] #[]), (1, .pointer (some ⟨gB, 0, none⟩))] ?_ ⟨rfl, rfl, trivial⟩))
 refine W_rs (st (X.ldL rfl hB Tryz.underlying108 rfl rfl) rfl ?_)
 obtain ⟨w1, hr1, hI1, hb1⟩ := hM.iter (P := Tryz.prog) 108 Tryz.underlying108
 refine st (w' := w1) (v := .pointer (some ⟨W.heap.size, 0, none⟩)) (fun ρ hρ => by unfold execOp; simp only [hρ (.tmp 4) _ rfl, Sem.run_bind, hr1, Result.andThen_ok, Sem.run_pure]) rfl ?_
 refine Wn (tN ?_)
 have hJ1 : J [] w1 := hJ [] W w1 none h0 (grown_of_bel hb1) (fun r e => by cases e)
 refine W_block ?_
 have hz := hb1.size
 clear h0 hB hM hr1
 refine W_lp (fun n' l' w' => ∃ pre : List Key, n' = m.length - pre.length ∧ l' = ([(0, .func (.yield lp) #[] #[]), (5, .pointer (some ⟨W.heap.size, 0, none⟩))] : Env) ∧ IterAt w' W.heap.size b str encPtr m pre ∧ J pre w') _ ⟨_, ⟨[], rfl, rfl, hI1, hJ1⟩, ⟨rfl, rfl, trivial⟩⟩ ?_
 clear hI1 hJ1 hb1 hz w1
 rintro n' l' w1 ⟨pre, rfl, rfl, hI, hJ1⟩
 refine W_rs ?_
 rcases hI.next (P := Tryz.prog) 0 with ⟨hperm, hr⟩ | ⟨k, v, w2, hk, hkv, hr, hent, hI2, hC⟩
 ·refine st (w' := w1) (v := .tuple #[.bool false]) (fun ρ hρ => by unfold execOp; simp only [hρ (.tmp 5) _ rfl, Sem.run_bind, hr, Result.andThen_ok, Sem.run_pure]) rfl ?_
  refine st (X.ext rfl rfl) rfl (Wn (tN (W_seq (W_no rfl rfl (W_exit (tE (tE (bH ?_))))))))
  exact (r0 rfl ⟨⟨_, rfl⟩, ⟨pre, hperm, hJ1⟩⟩).2
 ·refine st (w' := w2) (v := .tuple #[.bool true, str k, encPtr v]) (fun ρ hρ => by unfold execOp; simp only [hρ (.tmp 5) _ rfl, Sem.run_bind, hr, Result.andThen_ok, Sem.run_pure]) rfl ?_
  refine st (X.ext rfl rfl) rfl (Wn (tN (W_seq (W_yes rfl rfl (W_skip (tN (W_block (W_seq (W_reg ?_)))))))))
  have hJ2 : J pre w2 := hJ pre w1 w2 (some W.heap.size) hJ1 (grown_of_chg hC) (fun r e => by cases e; exact ⟨Nat.le_refl _, hI.walk⟩)
  refine st (w' := w2) (v := .tuple #[str k, encPtr v]) (fun ρ hρ => by unfold execOp; simp only [hρ (.tmp 5) _ rfl, Sem.run_bind, hent, Result.andThen_ok, Sem.run_pure]) rfl ?_
  refine st (X.ext rfl rfl) rfl (sa rfl rfl (Wn (tN (W_seq (W_regI (n := n) (stI wideT (fun c h => by cases h) (X.move rfl) rfl ?_))))))
  refine stI wideT (fun c h => by cases h) (X.move rfl) rfl ?_
  refine syield [str k] wideT rfl rfl rfl rfl ?_
  obtain ⟨fn, tmps, assign, body, hy, hR⟩ := hY pre k w2 hJ2 hI2.more
  refine ⟨fn, tmps, assign, body, hy, RoundIn.mono hR (fun e w5 h => ?_)⟩
  obtain ⟨rfl, hJ5, hk5⟩ := h
  refine stI wideT (fun c h => by cases h) (X.not rfl) rfl ?_
  refine WIn (tN (W_no rfl rfl (W_skip (bN (tN ⟨_, _, ?_, ⟨pre ++ [k], rfl, rfl, hI2.of_walks hk5, hJ5⟩, ⟨rfl, rfl, trivial⟩⟩)))))
  have := hI2.more
  rw [List.length_append, List.length_singleton]
  omega
def sortRenStr : Ren :=
  { f := fun x => match x with | 6 => 154 | 8 => 169 | 9 => 182 | 19 => 197 | 20 => 198 | 21 => 208 | 22 => 209 | 23 => 210 | 24 => 211 | 25 => 212 | 26 => 213 | 27 => 214 | 28 => 215 | 29 => 216 | 31 => 219 | 32 => 220 | 36 => 231 | 37 => 232 | 38 => 233 | 39 => 234 | 41 => 242 | n => n
    t := fun x => match x with | 0 => 0 | 3 => 3 | 4 => 4 | 5 => 5 | 9 => 9 | 26 => 38 | 27 => 38 | 29 => 9 | 32 => 173 | 35 => 257 | 36 => 258 | 41 => 128 | 44 => 145 | 46 => 165 | 53 => 280 | 57 => 283 | 63 => 291 | 64 => 292 | n => n
    g := fun x => x }
def iterRenStr : Ren :=
  { f := fun x => match x with | 6 => 116 | 7 => 117 | 8 => 153 | 9 => 154 | 10 => 155 | 11 => 181 | n => n
    t := fun x => match x with | 0 => 0 | 3 => 120 | 4 => 4 | 23 => 108 | 24 => 38 | 26 => 9 | 27 => 187 | 28 => 188 | 33 => 183 | n => n
    g := fun x => x }
def nameOf (P : Program) (f : FuncId) : String := ((P.funcs[f]?).map (·.name)).getD ""
theorem bears_of {P : Program} {f : FuncId} {B : Func} (h1 : (nameOf P f == "runtime.NumGoroutine") = false) (h2 : P.funcs[f]? = some { B with name := nameOf P f }) : Bears P f B := ⟨_, h1, h2⟩
set_option maxRecDepth 100000 in
theorem sortLaysStr : SlLaysM.n6 Tryz.prog sortRenStr := by
 constructor
 all_goals first | exact bears_of (by kernel_rfl) (by kernel_rfl) | kernel_rfl | exact fun _ => by kernel_rfl
set_option maxRecDepth 100000 in
theorem sortedLaysStr : SlLaysZ.n6 Tryz.prog iterRenStr := by
 constructor
 all_goals first | exact bears_of (by kernel_rfl) (by kernel_rfl) | kernel_rfl | exact fun _ => by kernel_rfl
set_option maxRecDepth 100000 in
theorem keysLaysStr : SlLaysZ.n7 Tryz.prog iterRenStr := by
 constructor
 all_goals first | exact bears_of (by kernel_rfl) (by kernel_rfl) | kernel_rfl | exact fun _ => by kernel_rfl
theorem sortsStr (m : Nat) : AnyZ.SortsIn Tryz.prog iterRenStr Fence.wide m :=
  ⟨fun blk off cap ss W hH hblk hsz => callsIn_wide.2 (AnyM.slices_Sort_string sortLaysStr blk off cap ss W hH hblk hsz),
   fun p cap W => callsIn_wide.2 (AnyM.slices_Sort_string_none sortLaysStr p cap W)⟩
theorem Keys_any (mb : Option Nat) (w : World) : Calls Tryz.prog 117 #[.map mb] w fun e w' =>
  ∃ gB, e = .returned (.func (.func 155) #[] #[.pointer (some ⟨gB, 0, none⟩)]) ∧ Blk w' gB 108 #[.map mb] ∧ Below w.heap.size w w' := by
 refine ((callsIn_wide (n := 5)).1 (AnyZ.keys_in keysLaysStr Fence.wide 5 trivial rfl mb w)).mono ?_
 rintro e w' ⟨rfl, rfl⟩
 exact ⟨_, rfl, World.alloc_heap_new w _, (Below.refl _ _).alloc (Nat.le_refl _) _⟩
theorem sorted_names {l xs : List Key} (hl : l.Pairwise (· < ·)) (hp : xs.Perm l) : xs.mergeSort (fun x y => decide (x ≤ y)) = l := by
 have tr : ∀ a b c : List UInt8, decide (a ≤ b) = true → decide (b ≤ c) = true → decide (a ≤ c) = true := fun a b c h1 h2 => by
  simp only [decide_eq_true_eq] at *
  exact List.le_trans h1 h2
 have to : ∀ a b : List UInt8, (decide (a ≤ b) || decide (b ≤ a)) = true := fun a b => by
  simp only [Bool.or_eq_true, decide_eq_true_eq]
  exact List.le_total a b
 refine List.Perm.eq_of_pairwise (le := fun a b => decide (a ≤ b) = true) (fun a b _ _ h1 h2 => ?_) (List.pairwise_mergeSort tr to xs) (hl.imp (fun h => decide_eq_true (List.le_of_lt h))) ((List.mergeSort_perm xs _).trans hp)
 simp only [decide_eq_true_eq] at h1 h2
 exact List.le_antisymm h1 h2
theorem SortedKeys_any (gB b : Nat) (m : List (Key × Nat)) (l : List Key) (w : World) (hB : Blk w gB 108 #[.map (some b)]) (hM : MapAt w b str encPtr m) (hm : m.length ≤ 1000000) (hl : l.Pairwise (· < ·)) (hp : (m.map (·.1)).Perm l) :
  Calls Tryz.prog 116 #[.func (.func 155) #[] #[.pointer (some ⟨gB, 0, none⟩)]] w fun e w' =>
   ∃ v, e = .returned v ∧ Row w' 9 1 v l.length (l.map str) ∧ (∀ k, v.ownBlock = some k → w.heap.size ≤ k) ∧ Below w.heap.size w w' := by
 refine ((callsIn_wide (n := 5)).1 (AnyZ.sorted_in sortedLaysStr Fence.wide 5 trivial trivial trivial trivial rfl (by omega) (sortsStr _) (enters_of Tryz.func154 (by kernel_rfl) rfl)
  155 #[.pointer (some ⟨gB, 0, none⟩)] trivial (enters_of Tryz.func155 (by kernel_rfl) rfl) _ m.length (by simp only [maxLen]; omega) (by omega) w (keys_gives _ w gB b m hB hM))).mono ?_
 rintro e w' ⟨v, ss, rfl, hS, hrow, hnil, hb⟩
 have e1 := sorted_names hl (hS.trans hp)
 have e2 : ss.length = l.length := (hS.trans hp).length_eq
 rw [e1, e2] at hrow
 refine ⟨v, rfl, Row.of_own hrow, fun k hk => ?_, hb⟩
 rcases hrow.2 with ⟨rfl, _⟩ | ⟨g, cap, cur, rfl, hg, _⟩
 ·simp [Value.ownBlock] at hk
 ·simp [Value.ownBlock] at hk
  omega
theorem DiskIn.perm {w : World} {g b : Nat} {D : DiskD} {rs : List (Key × FRec)} {S : Nat → Prop} (h : DiskIn w g b D rs S) (hok : Rising D.files) : ((rs.map fun p => (p.1, p.2.blk)).map (·.1)).Perm (namesM D) := by
 have := keys_perm (m := rs) (m' := D.files) h.keys hok.nodup (fun k => by rw [h.files]; cases mget rs k <;> rfl)
 rw [List.map_map]
 exact this
theorem List_any (g : Nat) (D : DiskD) (S : Nat → Prop) (w : World) (h : DiskAt w g D S) (hok : Rising D.files) (hlen : D.files.length ≤ 1000000) :
  Calls Tryz.prog 73 #[.pointer (some ⟨g, 0, none⟩)] w fun e w' => ∃ v, e = .returned v ∧ Row w' 9 1 v (namesM D).length ((namesM D).map str) ∧ (∀ k, v.ownBlock = some k → w.heap.size ≤ k) ∧ Below w.heap.size w w' := by
 obtain ⟨b, rs, h⟩ := h
 have hB : Blk w g 110 #[.map (some b), .int .i64 D.limit, .int .i64 D.used, .int .i64 D.refused, .bool D.stops, .int .i64 D.left] := h.blk
 have hM := h.map
 have hp := h.perm hok
 have hz0 : (rs.map fun p => (p.1, p.2.blk)).length ≤ 1000000 := by
  have := hp.length_eq
  simp only [List.length_map, namesM] at this ⊢
  omega
 have hr : (namesM D).Pairwise (· < ·) := by
  unfold namesM
  rw [List.pairwise_map]
  exact hok
 refine W_enter (args := [.pointer (some ⟨g, 0, none⟩)]) 11 Tryz.func73 rfl rfl rfl (W_sub [(0, .pointer (some ⟨g, 0, none⟩))] ?_ ⟨rfl, trivial⟩)
 have hbw := Below.refl w.heap.size w
 refine W_rs (sa rfl rfl (Wn (tN (W_seq (W_rs (sm rfl rfl (st (X.dEq rfl) rfl (Wn (tN (W_no rfl (rfl) ?_))))))))))
 refine W_skip (tN (W_rs (sm rfl rfl (st (X.nilChk rfl) rfl (st (X.fa fa110_0 rfl) rfl (st (X.ldL rfl hB Tryz.underlying108 rfl rfl) rfl (sc _ Tryz.func117 rfl (by kernel_rfl) rfl rfl ((Keys_any (some b) _).mono ?_))))))))
 rintro e_ w1 ⟨gB, rfl, hK, hb⟩
 refine cR ?_
 replace hbw := bthen hbw hb
 replace hM := hM.bel hb
 have hz_w1 := hb.size
 clear hb
 refine sc _ Tryz.func116 rfl (by kernel_rfl) rfl rfl ((SortedKeys_any gB b _ (namesM D) _ hK hM hz0 hr hp).mono ?_)
 rintro e_ w2 ⟨v, rfl, hR, hO, hb⟩
 refine cR ?_
 replace hbw := bthen hbw hb
 replace hM := hM.bel hb
 have hz_w2 := hb.size
 clear hb
 refine sa rfl rfl (Wn (tN (W_ret ?_)))
 exact (rT rfl rfl ⟨v, rfl, hR, fun k hk => by have := hO k hk; omega, hbw⟩).1
end Go.Proofs.YtnlabkogebnioaaGreatDoor
namespace Go.Proofs.YtnlabkogebnioaaGreatDoor
open Go.RowKit
theorem Reads.chgS {w w' : World} {size n : Nat} {v : Value} {xs : List Value} {T : Nat → Prop} (h : Reads w size v n xs) (hc : Chg T w w') (hn : 0 < n → ∀ k, v.ownBlock = some k → ¬ T k) : Reads w' size v n xs := by
 obtain ⟨h1, a, cap, rfl, h3, h4, h5⟩ := h
 refine ⟨h1, a, cap, rfl, h3, h4, fun h0 => ?_⟩
 obtain ⟨g', off, rfl, hg, hcl⟩ := h5 h0
 have := hc.size
 exact ⟨g', off, rfl, by omega, fun j u hu => (hc.cell (p := ⟨g', off + j, none⟩) hg (hn h0 g' (by simp [Value.ownBlock]))).trans (hcl j u hu)⟩
theorem Reads.ownLt {w : World} {size n : Nat} {v : Value} {xs : List Value} (h : Reads w size v n xs) (hn : 0 < n) {k : Nat} (hk : v.ownBlock = some k) : k < w.heap.size := by
 obtain ⟨h1, a, cap, rfl, h3, h4, h5⟩ := h
 obtain ⟨g', off, rfl, hg, hcl⟩ := h5 hn
 simp [Value.ownBlock] at hk
 omega
theorem FileAt.ne_row {w : World} {r : FRec} (h : FileAt w r) {e : TypeId} {size n : Nat} {v : Value} {xs : List Value} (hR : Row w e size v n xs) (h1 : e ≠ 126) (h2 : e ≠ 5) (h3 : e ≠ 191) : ∀ k, v.ownBlock = some k → ¬ r.owns k := fun k hk ho => by
 obtain ⟨cs', t', fz, e', ht⟩ := h.cells ho
 obtain ⟨cs, fz2, e2⟩ := hR.heap_cells hk
 rw [e2] at e'
 injection e' with e'
 injection e' with _ e'
 subst e'
 exact ht.elim h1 (fun h => h.elim h2 h3)
theorem crashAll_at : ∀ (l : List (Key × FileD)) (ks : List Int) (i : Nat) (p : Key × FileD), l[i]? = some p → (crashAll l ks)[i]? = some (p.1, crashM p.2 (keptM p.2 (ks[i]?.getD 0)))
 | [], _, _, _, h => by simp at h
 | q :: l, ks, 0, p, h => by
  simp only [List.getElem?_cons_zero, Option.some.injEq] at h
  subst h
  cases ks <;> rfl
 | q :: l, ks, i + 1, p, h => by
  simp only [List.getElem?_cons_succ] at h
  have := crashAll_at l ks.tail i p h
  simp only [crashAll, List.getElem?_cons_succ, this]
  cases ks <;> rfl
theorem mget_append {ν : Type} (a b : List (Key × ν)) (k : Key) : mget (a ++ b) k = (mget a k).or (mget b k) := by
 induction a with
 | nil => rfl
 | cons p a ih =>
  obtain ⟨x, u⟩ := p
  simp only [List.cons_append, mget]
  split
  ·rfl
  ·exact ih
def midM (D : DiskD) (ks : List Int) (i : Nat) : DiskD := { D with files := (crashAll D.files ks).take i ++ D.files.drop i, used := usedM ((crashAll D.files ks).take i), stops := false }
theorem usedM_append (a b : List (Key × FileD)) : usedM (a ++ b) = usedM a + usedM b := by
 induction a with
 | nil => simp [usedM]
 | cons p a ih => simp only [List.cons_append, usedM, ih]; omega
section
variable {D : DiskD} {ks : List Int} {i : Nat} {p : Key × FileD}
theorem mid_zero : midM D ks 0 = { D with used := 0, stops := false } := by simp [midM, usedM]
theorem mid_all : midM D ks D.files.length = crashD D ks := by
 have h : (crashAll D.files ks).length = D.files.length := by simpa using congrArg List.length (crashAll_keys D.files ks)
 unfold midM crashD
 rw [List.take_of_length_le (by omega), List.drop_length, List.append_nil]
theorem mid_get (hs : Rising D.files) (hp : D.files[i]? = some p) : mget (midM D ks i).files p.1 = some p.2 ∧
  (∀ m, mget (midM D ks (i + 1)).files m = if m = p.1 then some (crashM p.2 (keptM p.2 (ks[i]?.getD 0))) else mget (midM D ks i).files m) ∧
  (midM D ks (i + 1)).used = (midM D ks i).used + ((crashM p.2 (keptM p.2 (ks[i]?.getD 0))).now.length : Nat) := by
 have hc := crashAll_at D.files ks i p hp
 have hd : D.files.drop i = p :: D.files.drop (i + 1) := by
  obtain ⟨hj, rfl⟩ := List.getElem?_eq_some_iff.1 hp
  exact List.drop_eq_getElem_cons hj
 have ht := take_next' hc
 have hnone : mget ((crashAll D.files ks).take i) p.1 = none := by
  rw [mget_none, List.map_take, crashAll_keys, ← List.map_take]
  have h1 := hs.nodup
  rw [← List.take_append_drop i D.files, hd, List.map_append, List.map_cons, List.nodup_append] at h1
  intro h2
  exact h1.2.2 _ h2 _ (List.mem_cons_self ..) rfl
 refine ⟨?_, fun m => ?_, ?_⟩
 ·show mget (_ ++ _) _ = _
  rw [mget_append, hnone, hd]
  obtain ⟨a, u⟩ := p
  simp [mget]
 ·show mget (_ ++ _) _ = if _ then _ else mget (_ ++ _) _
  rw [ht, mget_append, mget_append, mget_append, hd]
  obtain ⟨a, u⟩ := p
  simp only [mget]
  split
  ·rename_i e
   subst e
   rw [hnone]
   simp
  ·simp
 ·show ((usedM _ : Nat) : Int) = ((usedM _ : Nat) : Int) + _
  rw [ht, usedM_append]
  simp only [usedM]
  omega
theorem mid_used (hok : DOk D) : 0 ≤ (midM D ks i).used ∧ (midM D ks i).used ≤ 16777216 := by
 have h1 := crashAll_used D.files ks (fun p hp => hok.fok p.1 p.2 (mget_of_mem hok.srt.nodup hp))
 have h2 := hok.used
 have h3 := hok.room
 have h4 := hok.lim
 have h5 : usedM ((crashAll D.files ks).take i) ≤ usedM (crashAll D.files ks) := by
  conv => rhs; rw [← List.take_append_drop i (crashAll D.files ks), usedM_append]
  omega
 show 0 ≤ ((usedM _ : Nat) : Int) ∧ ((usedM _ : Nat) : Int) ≤ _
 omega
end
theorem keptM_le {f : FileD} (pk : Int) (h : pendLen f.pend ≤ 1099511627776) : keptM f pk ≤ 4398046511104 := by
 have h1 := Int.emod_lt_of_pos pk (b := ((pendLen f.pend + 1 : Nat) : Int)) (by omega)
 unfold keptM
 omega
theorem midCells (b : Nat) (D : DiskD) (ks : List Int) (i : Nat) : diskCells b (midM D ks i) = #[.map (some b), .int .i64 D.limit, .int .i64 (midM D ks i).used, .int .i64 D.refused, .bool false, .int .i64 D.left] := rfl
set_option maxRecDepth 10000 in
theorem Crash_any (g : Nat) (D : DiskD) (S : Nat → Prop) (vk : Value) (ks : List Int) (w : World) (h : DiskAt w g D S) (hok : DOk D) (hbud : DBud D) (hlen : D.files.length ≤ 1000000) (hK : Reads w 1 vk ks.length (ks.map fun k => .int .i64 k)) (hKS : 0 < ks.length → ∀ k, vk.ownBlock = some k → ¬ S k) :
  Calls Tryz.prog 35 #[.pointer (some ⟨g, 0, none⟩), vk] w fun e w' => e = .returned (.tuple #[]) ∧ DiskAt w' g (crashD D ks) (Ext S w w') ∧ Chg S w w' := by
 obtain ⟨b, rs, h⟩ := h
 have hlt := h.blk.lt
 have hKlt : 0 < ks.length → ∀ k, vk.ownBlock = some k → k < w.heap.size := fun h0 k hk => hK.ownLt h0 hk
 obtain ⟨ak, ck, hvk, hck, hck2⟩ := hK.shape
 subst hvk
 have hB : Blk w g 110 #[.map (some b), .int .i64 D.limit, .int .i64 D.used, .int .i64 D.refused, .bool D.stops, .int .i64 D.left] := h.blk
 have hD := h
 have hnl : (namesM D).length = D.files.length := by simp [namesM]
 refine W_enter (args := [.pointer (some ⟨g, 0, none⟩), .slice ak ks.length ck]) 56 Tryz.func35 rfl rfl rfl (W_sub [(0, .pointer (some ⟨g, 0, none⟩)), (1, .slice ak ks.length ck)] ?_ ⟨rfl, rfl, trivial⟩)
 have hcw := Chg.refl (S) w
 refine W_seq (W_rs (sm rfl rfl (st (X.dEq rfl) rfl (Wn (tN (W_no rfl (rfl) (W_skip (tN (W_rs (sm rfl rfl ?_))))))))))
 refine sm rfl rfl (st (X.nilChk rfl) rfl (st (X.fa fa110_2 rfl) rfl (ssB rfl rfl hB siz3 rfl (by simp) (fun w1 hB1 hC1 => ?_))))
 have hD1 := hD.self (D' := { D with used := 0 }) hC1 hB1 rfl
 have hK1 := hK.chgS hC1 (fun h0 k hk e => hKS h0 k hk (by rw [e]; exact h.inS.1))
 have hcw1 := hcw.next hC1 (fun k hk => .inl (by rw [hk]; exact h.inS.1))
 clear hD hK hcw hB
 have hD := hD1
 have hK := hK1
 have hcw := hcw1
 have hB := hB1
 clear hD1 hK1 hcw1
 refine st (X.nilChk rfl) rfl (st (X.fa fa110_4 rfl) rfl (ssB rfl rfl hB siz4 rfl (by simp) (fun w2 hB2 hC2 => ?_)))
 have hD2 := hD.self (D' := midM D ks 0) hC2 (by rw [mid_zero]; exact hB2) (by rw [mid_zero])
 have hK2 := hK.chgS hC2 (fun h0 k hk e => hKS h0 k hk (by rw [e]; exact h.inS.1))
 have hcw2 := hcw.next hC2 (fun k hk => .inl (by rw [hk]; exact h.inS.1))
 clear hD hK hcw hB hB1
 have hD := hD2
 have hK := hK2
 have hcw := hcw2
 have hB := hB2
 clear hD2 hK2 hcw2
 refine Wn (tN (W_rs (sm rfl rfl (sc _ Tryz.func73 rfl (by kernel_rfl) rfl rfl ((List_any g (midM D ks 0) S _ ⟨b, rs, hD⟩ (by rw [mid_zero]; exact hok.srt) (by rw [mid_zero]; exact hlen)).mono ?_)))))
 rintro e_ w3 ⟨v, rfl, hL, hO, hb⟩
 refine cR ?_
 replace hcw := hcw.then_below hb
 replace hK := hK.bel hb
 replace hD := hD.bel hb
 have hz_w3 := hb.size
 clear hb
 have hLn : namesM (midM D ks 0) = namesM D := by rw [mid_zero]; rfl
 rw [hLn, hnl] at hL
 clear hLn hO
 obtain ⟨a, c, rfl, hc1, hc2⟩ := hL.shape
 refine st (X.lenL rfl rfl Tryz.underlying38) rfl (sm rfl rfl (Wn (tN (W_block (W_lp (fun nw4_ lw4_ w4 => ∃ i : Nat, ∃ rsx : List (Key × FRec), nw4_ = D.files.length - i ∧ lw4_ = ([(0, .pointer (some ⟨g, 0, none⟩)), (1, .slice ak ks.length ck), (17, .slice a D.files.length c), (18, .int .i64 D.files.length), (19, .int .i64 i)] : Env) ∧ (i ≤ D.files.length) ∧ (Chg S w w4) ∧ (DiskIn w4 g b (midM D ks i) rsx (Ext S w w4)) ∧ (Reads w4 1 (.slice ak ks.length ck) ks.length (ks.map fun k => .int .i64 k)) ∧ (Row w4 9 1 (.slice a D.files.length c) D.files.length ((namesM D).map str)) ∧ (Blk w4 g 110 #[.map (some b), .int .i64 D.limit, .int .i64 (midM D ks i).used, .int .i64 D.refused, .bool false, .int .i64 D.left])) _ ⟨_, ⟨0, rs, rfl, rfl, Nat.zero_le _, hcw, hD.mono Ext.of, hK, hL, hD.blk⟩, ⟨rfl, rfl, rfl, rfl, rfl, trivial⟩⟩ ?_)))))
 clear hcw hK hL
 rintro nw4_ lw4_ w4 ⟨i, rsx, rfl, rfl, hi, hcw, hD, hK, hL, hB⟩
 have hlt_hB_w4 := hB.lt
 have hu := mid_used (ks := ks) (i := i) hok
 have hzc := hcw.size
 refine W_rs (st (X.lss rfl rfl) rfl (Wn (tN (W_seq (W_if rfl (fun h20 => ?_) (fun h20 => ?_))))))
 ·first | replace h20 := of_decide_eq_true h20 | replace h20 := of_decide_eq_false (notT h20) | replace h20 := notT h20 | skip
  obtain ⟨p, hp⟩ : ∃ p, D.files[i]? = some p := ⟨_, List.getElem?_eq_getElem (by omega)⟩
  obtain ⟨hm1, hm2, hm3⟩ := mid_get (ks := ks) hok.srt hp
  obtain ⟨g1, o1, c', hv, hg1⟩ := hL.reads.some_ (by omega)
  injection hv with e1 _ e3
  subst e1 e3
  have hux : ((namesM D).map str)[i]? = some (str p.1) := by simp [namesM, hp]
  obtain ⟨r, hr, hrf⟩ : ∃ r, mget rsx p.1 = some r ∧ r.f = p.2 := by
   have := hD.files p.1
   rw [hm1] at this
   cases hr : mget rsx p.1 with
   | none => rw [hr] at this; cases this
   | some r => rw [hr] at this; injection this with this; exact ⟨r, rfl, this.symm⟩
  have hv : ((mget (rsx.map fun p => (p.1, p.2.blk)) p.1).map encPtr).getD (.pointer none) = .pointer (some ⟨r.blk, 0, none⟩) := look_ptr (o := some r.blk) (by rw [hr]; rfl)
  obtain ⟨pk, hpk⟩ : ∃ pk, ks[i]?.getD 0 = pk := ⟨_, rfl⟩
  rw [hpk] at hm2 hm3
  rw [← hrf] at hm2 hm3
  have hfo : mget D.files p.1 = some r.f := by rw [hrf]; exact mget_of_mem hok.srt.nodup (List.mem_of_getElem? hp)
  have hfb := hbud.pend _ _ hfo
  obtain ⟨hln1, hln2, _⟩ := hok.len hfo
  have hKr : 0 < ks.length → ∀ k, (Value.slice ak ks.length ck).ownBlock = some k → ¬ r.owns k := fun h0 k hk ho => by
   rcases hD.inR _ _ k hr ho with e | e
   ·exact hKS h0 k hk e
   ·have := hKlt h0 k hk; omega
  refine W_skip (tN (W_seq (W_block (W_rs (sm rfl rfl (st (X.idxA rfl rfl Tryz.underlying38 siz9 rfl (by omega)) rfl (st (X.ld rfl Tryz.underlying9 rfl (by rw [Nat.mul_one]; exact hL.reads.cellAt (by omega) hux)) rfl ?_)))))))
  refine sa rfl rfl (sa rfl rfl (Wn (tN (W_rs (sm rfl rfl (st (X.nilChk rfl) rfl (st (X.fa fa110_0 rfl) rfl (st (X.ldL rfl hB Tryz.underlying108 rfl rfl) rfl (sm rfl rfl (st (v := .pointer (some ⟨r.blk, 0, none⟩)) (hv ▸ X.look (keyStr Tryz.underlying9) rfl p.1 rfl Tryz.underlying108 (zptr _) hD.map) rfl ?_))))))))))
  refine sa rfl rfl (sa rfl rfl (Wn (tN (W_seq (W_rs (sm rfl rfl (sm rfl rfl (st (X.lenL rfl rfl Tryz.underlying39) rfl (st (X.lss rfl rfl) rfl (Wn ?_))))))))))
  refine tN (W_if rfl (fun h33 => ?_) (fun h33 => ?_))
  ·first | replace h33 := of_decide_eq_true h33 | replace h33 := of_decide_eq_false (notT h33) | replace h33 := notT h33 | skip
   obtain ⟨gk, ok_, ck', hvk, hgk⟩ := hK.some_ (by omega)
   injection hvk with e1 _ e3
   subst e1 e3
   have hkx : ks[i]? = some pk := by
    rw [← hpk, List.getElem?_eq_getElem (by omega)]
    rfl
   have hkx2 : (ks.map fun k => Value.int .i64 k)[i]? = some (.int .i64 pk) := by rw [List.getElem?_map, hkx]; rfl
   refine W_reg (sm rfl rfl (sm rfl rfl (st (X.idxA rfl rfl Tryz.underlying39 siz3 rfl (by omega)) rfl (st (X.ld rfl Tryz.underlying3 rfl (by rw [Nat.mul_one]; exact hK.cellAt (by omega) hkx2)) rfl ?_))))
   refine sa rfl rfl (Wn (tN (W_rs (sm rfl rfl (sm rfl rfl (sm rfl rfl (sc _ Tryz.func75 rfl (by kernel_rfl) rfl rfl ((kept_any r.blk r.vl r.vn r.vp r.f _ _ (hD.at_ _ _ hr).blk (hD.at_ _ _ hr).pend hfb.1).mono ?_))))))))
   rintro e_ w5 ⟨rfl, hb⟩
   refine cR ?_
   replace hcw := hcw.then_below hb
   replace hD := hD.bel hb
   replace hK := hK.bel hb
   replace hL := hL.bel hb
   replace hB := hB.bel hb
   have hz_w5 := hb.size
   clear hb
   refine sc _ Tryz.func74 rfl (by kernel_rfl) rfl rfl ((crash_any r (keptM r.f _) _ (hD.at_ _ _ hr) hfb.1 (by omega) (keptM_le _ hfb.1)).mono ?_)
   rintro e_ w6 ⟨rfl, r', hF', hbl, hff, how, hCr⟩
   refine cR ?_
   have hB1 := hB.chg hCr (hD.ne hr).1
   have hL1 := hL.chg hCr ((hD.at_ _ _ hr).ne_row hL (by decide) (by decide) (by decide))
   have hK1 := hK.chgS hCr hKr
   have hcw1 := hcw.next hCr (fun k hk => (hD.inR _ _ k hr hk).imp id (fun e => e.1))
   have hzr := hCr.size
   have hCc := hCr.mono (T := fun k => k = g ∨ r.owns k) (fun k _ hk => .inr hk)
   clear hB hL hK hcw hCr
   have hB := hB1
   have hL := hL1
   have hK := hK1
   have hcw := hcw1
   clear hB1 hL1 hK1 hcw1
   obtain ⟨an, cn, hvn, _⟩ := hF'.now.shape
   have hF6 : Blk w6 r.blk 126 #[r'.vl, .slice an r'.f.now.length cn, r'.vp] := by rw [← hbl, ← hvn]; exact hF'.blk
   have hrl : r'.f.now.length ≤ 16777216 := by
    rw [hff]
    exact Nat.le_trans ((hok.fok _ _ hfo).crash_len _) hln1
   refine Wn (tN (W_still 12 (by kernel_rfl) (by kernel_rfl) ?_))
   obtain ⟨w7, hw_⟩ : ∃ w7 : World, w7 = World.drew w6 := ⟨_, rfl⟩
   rw [← hw_]
   have hb : Below w6.heap.size w6 w7 := by rw [hw_]; exact bdrew (Below.refl _ _)
   clear hw_
   replace hcw := hcw.then_below hb
   replace hK := hK.bel hb
   replace hL := hL.bel hb
   replace hB := hB.bel hb
   replace hCc := hCc.bel hb
   replace hF6 := hF6.bel hb
   replace hF' := hF'.bel hb
   have hz_w7 := hb.size
   clear hb
   refine hY (X.move rfl) rfl (hY (X.nilChk rfl) rfl (hY (X.fa fa110_2 rfl) rfl (hY (X.ldL rfl hB Tryz.underlying3 rfl rfl) rfl (hY (X.move rfl) rfl (hY (X.nilChk rfl) rfl (hY (X.fa fa126_1 rfl) rfl (hY (X.ldL rfl hF6 Tryz.underlying123 rfl rfl) rfl (hY (X.lenL rfl rfl Tryz.underlying123) rfl (hY (X.add64 rfl rfl (by omega)) rfl (hY (X.nilChk rfl) rfl ?_))))))))))
   refine hY (X.fa fa110_2 rfl) rfl (hN (ssB rfl rfl hB siz3 rfl (by simp) (fun w8 hB1 hC1 => ?_)))
   have hg' : ¬ r'.owns g := fun e => (how g e).elim (hD.ne hr).1 (fun e => by have := hD.blk.lt; omega)
   have hD' : DiskIn w8 g b (midM D ks (i + 1)) (mput rsx p.1 r') (Ext S w w8) := by
    refine (hD.file hr (hCc.next hC1 (fun k hk => .inl (.inl hk))) (D' := midM D ks (i + 1)) (r' := r') (by rw [midCells, hm3, ← hff]; exact hB1) (by rw [hff]; exact hm2) (hF'.chg hC1 (fun k hk e => hg' (by rw [← e]; exact hk))) hbl how).mono (fun k hk => ?_)
    rcases hk with hk | hk
    ·rcases hk with hk | hk
     ·exact .inl hk
     ·exact .inr ⟨hk.1, by have := hC1.size; have := hCc.size; omega⟩
    ·exact .inr ⟨by have := hzc; omega, hk.2⟩
   have hL1 := hL.chg hC1 (hL.ne2 hB (by decide))
   have hK1 := hK.chgS hC1 (fun h0 k hk e => hKS h0 k hk (by rw [e]; exact h.inS.1))
   have hcw1 := hcw.next hC1 (fun k hk => .inl (by rw [hk]; exact h.inS.1))
   clear hL hK hcw hB
   have hL := hL1
   have hK := hK1
   have hcw := hcw1
   have hB := hB1
   refine Wn (bN (tN (W_reg (st (X.add64 rfl rfl (by omega)) rfl (sm rfl rfl (Wn (tN ⟨_, _, ?_, ⟨i + 1, mput rsx p.1 r', rfl, rfl, by omega, hcw, hD', hK, hL, hD'.blk⟩, ⟨rfl, rfl, rfl, rfl, rfl, trivial⟩⟩)))))))
   omega
  ·first | replace h33 := of_decide_eq_false h33 | replace h33 := of_decide_eq_true (notF h33) | replace h33 := notF h33 | skip
   obtain rfl : pk = 0 := by rw [← hpk, List.getElem?_eq_none (by omega)]; rfl
   refine W_skip (tN (W_rs (sm rfl rfl (sm rfl rfl (sm rfl rfl (sc _ Tryz.func75 rfl (by kernel_rfl) rfl rfl ((kept_any r.blk r.vl r.vn r.vp r.f _ _ (hD.at_ _ _ hr).blk (hD.at_ _ _ hr).pend hfb.1).mono ?_)))))))
   rintro e_ w9 ⟨rfl, hb⟩
   refine cR ?_
   replace hcw := hcw.then_below hb
   replace hD := hD.bel hb
   replace hK := hK.bel hb
   replace hL := hL.bel hb
   replace hB := hB.bel hb
   have hz_w9 := hb.size
   clear hb
   refine sc _ Tryz.func74 rfl (by kernel_rfl) rfl rfl ((crash_any r (keptM r.f _) _ (hD.at_ _ _ hr) hfb.1 (by omega) (keptM_le _ hfb.1)).mono ?_)
   rintro e_ w10 ⟨rfl, r', hF', hbl, hff, how, hCr⟩
   refine cR ?_
   have hB1 := hB.chg hCr (hD.ne hr).1
   have hL1 := hL.chg hCr ((hD.at_ _ _ hr).ne_row hL (by decide) (by decide) (by decide))
   have hK1 := hK.chgS hCr hKr
   have hcw1 := hcw.next hCr (fun k hk => (hD.inR _ _ k hr hk).imp id (fun e => e.1))
   have hzr := hCr.size
   have hCc := hCr.mono (T := fun k => k = g ∨ r.owns k) (fun k _ hk => .inr hk)
   clear hB hL hK hcw hCr
   have hB := hB1
   have hL := hL1
   have hK := hK1
   have hcw := hcw1
   clear hB1 hL1 hK1 hcw1
   obtain ⟨an, cn, hvn, _⟩ := hF'.now.shape
   have hF6 : Blk w10 r.blk 126 #[r'.vl, .slice an r'.f.now.length cn, r'.vp] := by rw [← hbl, ← hvn]; exact hF'.blk
   have hrl : r'.f.now.length ≤ 16777216 := by
    rw [hff]
    exact Nat.le_trans ((hok.fok _ _ hfo).crash_len _) hln1
   refine Wn (tN (W_still 12 (by kernel_rfl) (by kernel_rfl) ?_))
   obtain ⟨w11, hw_⟩ : ∃ w11 : World, w11 = World.drew w10 := ⟨_, rfl⟩
   rw [← hw_]
   have hb : Below w10.heap.size w10 w11 := by rw [hw_]; exact bdrew (Below.refl _ _)
   clear hw_
   replace hcw := hcw.then_below hb
   replace hK := hK.bel hb
   replace hL := hL.bel hb
   replace hB := hB.bel hb
   replace hCc := hCc.bel hb
   replace hF6 := hF6.bel hb
   replace hF' := hF'.bel hb
   have hz_w11 := hb.size
   clear hb
   refine hY (X.move rfl) rfl (hY (X.nilChk rfl) rfl (hY (X.fa fa110_2 rfl) rfl (hY (X.ldL rfl hB Tryz.underlying3 rfl rfl) rfl (hY (X.move rfl) rfl (hY (X.nilChk rfl) rfl (hY (X.fa fa126_1 rfl) rfl (hY (X.ldL rfl hF6 Tryz.underlying123 rfl rfl) rfl (hY (X.lenL rfl rfl Tryz.underlying123) rfl (hY (X.add64 rfl rfl (by omega)) rfl (hY (X.nilChk rfl) rfl ?_))))))))))
   refine hY (X.fa fa110_2 rfl) rfl (hN (ssB rfl rfl hB siz3 rfl (by simp) (fun w12 hB1 hC1 => ?_)))
   have hg' : ¬ r'.owns g := fun e => (how g e).elim (hD.ne hr).1 (fun e => by have := hD.blk.lt; omega)
   have hD' : DiskIn w12 g b (midM D ks (i + 1)) (mput rsx p.1 r') (Ext S w w12) := by
    refine (hD.file hr (hCc.next hC1 (fun k hk => .inl (.inl hk))) (D' := midM D ks (i + 1)) (r' := r') (by rw [midCells, hm3, ← hff]; exact hB1) (by rw [hff]; exact hm2) (hF'.chg hC1 (fun k hk e => hg' (by rw [← e]; exact hk))) hbl how).mono (fun k hk => ?_)
    rcases hk with hk | hk
    ·rcases hk with hk | hk
     ·exact .inl hk
     ·exact .inr ⟨hk.1, by have := hC1.size; have := hCc.size; omega⟩
    ·exact .inr ⟨by have := hzc; omega, hk.2⟩
   have hL1 := hL.chg hC1 (hL.ne2 hB (by decide))
   have hK1 := hK.chgS hC1 (fun h0 k hk e => hKS h0 k hk (by rw [e]; exact h.inS.1))
   have hcw1 := hcw.next hC1 (fun k hk => .inl (by rw [hk]; exact h.inS.1))
   clear hL hK hcw hB
   have hL := hL1
   have hK := hK1
   have hcw := hcw1
   have hB := hB1
   refine Wn (bN (tN (W_reg (st (X.add64 rfl rfl (by omega)) rfl (sm rfl rfl (Wn (tN ⟨_, _, ?_, ⟨i + 1, mput rsx p.1 r', rfl, rfl, by omega, hcw, hD', hK, hL, hD'.blk⟩, ⟨rfl, rfl, rfl, rfl, rfl, trivial⟩⟩)))))))
   omega
 ·first | replace h20 := of_decide_eq_false h20 | replace h20 := of_decide_eq_true (notF h20) | replace h20 := notF h20 | skip
  obtain rfl : i = D.files.length := by omega
  rw [mid_all] at hD
  refine W_exit (tE (tE (bH ?_)))
  exact (r0 rfl ⟨rfl, ⟨b, _, hD⟩, hcw⟩).2
end Go.Proofs.YtnlabkogebnioaaGreatDoor
namespace Go.Proofs.YtnlabkogebnioaaGreatDoor
open Go.RowKit
structure Own (B : Nat) (w : World) (g : Nat) (D : DiskD) (S : Nat → Prop) : Prop where
  at_ : DiskAt w g D S
  lo : ∀ k, S k → B ≤ k ∧ k < w.heap.size
section
variable {B g c : Nat} {w w' w'' : World} {D D' E : DiskD} {S T : Nat → Prop}
theorem Own.bel (h : Own B w g D S) (hb : Below w.heap.size w w') : Own B w' g D S := ⟨h.at_.bel hb, fun k hk => by have := h.lo k hk; have := hb.size; omega⟩
theorem Own.step (h : Own B w g D S) (hD : DiskAt w' g D' (Ext S w w')) (hC : Chg S w w') (hB : B ≤ w.heap.size) : Own B w' g D' (Ext S w w') :=
 ⟨hD, fun k hk => by
  have := hC.size
  rcases hk with hk | hk
  ·have := h.lo k hk; omega
  ·omega⟩
theorem Own.other (h : Own B w c E T) (hC : Chg S w w') (hd : ∀ k, S k → ¬ T k) : Own B w' c E T := ⟨h.at_.chg hC (fun k hk e => hd k e hk), fun k hk => by have := h.lo k hk; have := hC.size; omega⟩
theorem bchg {w0 : World} (hb : Below w0.heap.size w0 w) (hc : Chg S w w') (hs : ∀ k, S k → w0.heap.size ≤ k) : Below w0.heap.size w0 w' :=
 ⟨hc.os.trans hb.os, hc.tape.trans hb.tape, hc.output.trans hb.output, Nat.le_trans hb.size hc.size, fun k hk => (hc.block k (Nat.lt_of_lt_of_le hk hb.size) (fun e => by have := hs k e; omega)).trans (hb.block k hk)⟩
end
end Go.Proofs.YtnlabkogebnioaaGreatDoor
namespace Go.Proofs.YtnlabkogebnioaaGreatDoor
open Go.ChangeShapes Go.WideShapes Go.ChangeAt Go.RowKit
theorem own : ownKnob Tryz.prog.godebug = none := by kernel_rfl
theorem laidOut : laidOutB Tryz.prog = true := by kernel_rfl
end Go.Proofs.YtnlabkogebnioaaGreatDoor
namespace Go.Proofs.YtnlabkogebnioaaGreatDoor
open Go.ChangeShapes Go.WideShapes Go.ChangeAt Go.RowKit
section
variable {H : Type} {enc : TypeId × Value → H} {W : World} {base : Nat} {sp : Nat → Bool} {held : Bool}
theorem open_rows {α : Type} [Inhabited α] (f : α → List Value) (p : α → Prop) {t e : TypeId} {k fuel : Nat} {cs : List Value} {x : DataW H × List MemPlace} (ht : Tryz.prog.underlying t = some (.slice e)) (hk : Tryz.prog.cellsOf e = k) (hk0 : 0 < k)
  (he : ∀ fuel cs x, DataW.trod enc Tryz.prog W base sp held fuel e cs = some x → ∃ a, cs = f a ∧ p a)
  (h : DataW.trod enc Tryz.prog W base sp held fuel t cs = some x) :
  ∃ (v : Value) (l : List α), cs = [v] ∧ Reads W k v l.length (l.flatMap f) ∧ ∀ a ∈ l, p a ∧ (f a).length = k := by
 rcases Go.Deep.open_slice ht h with ⟨rfl, _⟩ | ⟨a, len, cap, m, n, D, Pl, rfl, hb, hl, hm, hmm, rfl, hx⟩
 ·exact ⟨_, [], rfl, ⟨by simp, none, 0, rfl, Nat.le_refl _, by simp [maxLen], fun h => absurd h (by simp)⟩, by simp⟩
 ·rw [hk] at hx
  have hlm : len ≤ m := by rw [hmm]; split <;> omega
  obtain ⟨V, hV⟩ := Go.Deep.choose_lt (α := α) (p := fun i v => W.cells? base (a.add (i * k)) k = some (f v) ∧ p v) (n := m) (fun i hi => by
   obtain ⟨cs', h1, h2⟩ := hx i hi
   obtain ⟨v, rfl, hp⟩ := he _ _ _ h2
   exact ⟨v, h1, hp⟩)
  have hfl : ∀ i, i < m → (f (V i)).length = k := fun i hi => (World.cells?_some (hV i hi).1).2.1
  have hall : ∀ b ∈ (List.range len).map V, p b ∧ (f b).length = k := by
   intro b hb
   obtain ⟨i, hi, rfl⟩ := List.mem_map.1 hb
   have : i < m := by have := List.mem_range.1 hi; omega
   exact ⟨(hV i this).2, hfl i this⟩
  have hlen : (((List.range len).map V).flatMap f).length = len * k := by
   rw [flat_length f k _ (fun b hb => (hall b hb).2)]; simp
  refine ⟨_, (List.range len).map V, rfl, ⟨by simpa using hlen, some a, cap, by simp, by simpa using hl, hm, fun hn => ?_⟩, hall⟩
  have hn' : 0 < len := by simpa using hn
  obtain ⟨_, hl0, hc0⟩ := World.cells?_some (hV 0 (by omega)).1
  have h0 := hc0 0 (by omega)
  rw [List.getElem?_eq_getElem (by omega)] at h0
  obtain ⟨b, off, spot⟩ := a
  have hspot : spot = none := by simpa [Addr.add] using World.cell?_spot h0
  subst hspot
  refine ⟨b, off, rfl, by simpa [Addr.add] using World.block_lt_of_cell? W _ h0, fun j u hu => ?_⟩
  have hj := (List.getElem?_eq_some_iff.1 hu).1
  rw [hlen] at hj
  have hi : j / k < len := (Nat.div_lt_iff_lt_mul hk0).2 hj
  have hr : j % k < k := Nat.mod_lt _ hk0
  have hjk : j = j / k * k + j % k := by rw [Nat.mul_comm]; exact (Nat.div_add_mod j k).symm
  have hat : ((List.range len).map V)[j / k]? = some (V (j / k)) := by
   rw [List.getElem?_map, List.getElem?_range hi]; rfl
  have hfa := flat_at f k _ (j / k) _ (fun b hb => (hall b hb).2) hat
  have hu' : (f (V (j / k)))[j % k]? = some u := by
   rw [← hfa, List.getElem?_take_of_lt hr, List.getElem?_drop, ← hjk]
   exact hu
  have hcell := (World.cells?_some (hV (j / k) (by omega)).1).2.2 (j % k) hr
  rw [hu'] at hcell
  rw [← hcell]
  rw [Addr.add_lit, Addr.add_lit, Nat.add_assoc, ← hjk]
end
end Go.Proofs.YtnlabkogebnioaaGreatDoor
namespace Go.Proofs.YtnlabkogebnioaaGreatDoor
open Go.ChangeShapes Go.WideShapes Go.ChangeAt Go.RowKit
theorem flat_int1 : ∀ l : List Int, l.flatMap (fun q => [Value.int .i64 q]) = l.map fun k => .int .i64 k
 | [] => rfl
 | a :: l => by rw [List.flatMap_cons, flat_int1 l]; rfl
section
variable {H : Type} {enc : TypeId × Value → H} {W : World} {base : Nat} {sp : Nat → Bool} {held : Bool}
theorem cInt : Tryz.prog.cellsOf 3 = 1 := by kernel_rfl
theorem cStr : Tryz.prog.cellsOf 9 = 1 := by kernel_rfl
theorem open_intL (fuel : Nat) (cs : List Value) (x : DataW H × List MemPlace) (h : DataW.trod enc Tryz.prog W base sp held fuel 3 cs = some x) : ∃ n : Int, cs = [.int .i64 n] ∧ True := by
 obtain ⟨n, e, _, _⟩ := DataW.trod_int Tryz.underlying3 h
 exact ⟨n, e, trivial⟩
theorem open_strL (fuel : Nat) (cs : List Value) (x : DataW H × List MemPlace) (h : DataW.trod enc Tryz.prog W base sp held fuel 9 cs = some x) : ∃ s : List UInt8, cs = [str s] ∧ True := by
 obtain ⟨s, e, _, _⟩ := DataW.trod_string Tryz.underlying9 h
 exact ⟨s.data.toList, e, trivial⟩
theorem flat_str1 : ∀ l : List (List UInt8), l.flatMap (fun q => [str q]) = l.map str
 | [] => rfl
 | a :: l => by rw [List.flatMap_cons, flat_str1 l]; rfl
set_option maxRecDepth 4000 in
theorem open_strsL {r : Reach} {b0 : Nat} {v : Value} {d : DataW H} {p : List MemPlace} (hv : Value.okWide Tryz.prog W r b0 38 v) (h : DataW.Trod enc Tryz.prog W base sp held 38 v d p) :
  ∃ l : List (List UInt8), Reads W 1 v l.length (l.map str) := by
 obtain ⟨fuel, hf⟩ := h
 obtain ⟨a0, len0, cap0, rfl⟩ := okWide_slice Tryz.underlying38 hv
 obtain ⟨v', l, e, hR, _⟩ := open_rows (fun s : List UInt8 => [str s]) (fun _ => True) Tryz.underlying38 cStr (by decide) open_strL hf
 rw [flat_str1] at hR
 simp [Value.cells] at e
 exact ⟨l, e ▸ hR⟩
end
def laying (cs : Array Value) : Obj → Obj
  | .cells _ t frozen => .cells cs t frozen
  | o => o
end Go.Proofs.YtnlabkogebnioaaGreatDoor
namespace Go.Proofs.YtnlabkogebnioaaGreatDoor
open Go.RowKit
section
variable {P : Program} {fn : Func} {R : Ending → World → Prop} {l : Env} {w : World}
theorem r3 {x y z : ResultVar} {v u s : Value} (hf : fn.results = #[x, y, z]) (hx : ResVar P l w x v) (hy : ResVar P l w y u) (hz : ResVar P l w z s) (hR : R (.returned (.tuple #[v, u, s])) w) : fnPost P fn R .ret l w ∧ fnPost P fn R .normal l w := by
 have h : ∃ v, (∀ a : Array Value, (∀ t v, lk l t = some v → a.getD t undef = v) → (results fn a).run P w = .ok v w) ∧ R (.returned v) w := ⟨.tuple #[v, u, s], fun a ha => by
  have h1 := run_resVar hx a ha
  have h2 := run_resVar hy a ha
  have h3 := run_resVar hz a ha
  rw [results_eq, hf]
  simp only [List.mapM_toArray, List.mapM_cons, List.mapM_nil, Sem.run_bind, Sem.run_pure, map_eq_pure_bind]
  simp only [h1, h2, h3, Result.andThen_ok]
  rfl, hR⟩
 exact ⟨h, h⟩
theorem rTTT {t t2 t3 : Nat} {v v2 v3 : Value} (hf : fn.results = #[.tmp t, .tmp t2, .tmp t3]) (hx : lk l t = some v) (hy : lk l t2 = some v2) (hz : lk l t3 = some v3) (hR : R (.returned (.tuple #[v, v2, v3])) w) : fnPost P fn R .ret l w ∧ fnPost P fn R .normal l w := r3 hf hx hy hz hR
end
end Go.Proofs.YtnlabkogebnioaaGreatDoor
namespace Go.Proofs.YtnlabkogebnioaaGreatDoor
open Go.RowKit
section
variable {P : Program} {a : Act} {w : World} {Q : Exit → Act → World → Prop}
def jumpsQ (J : Nat → Act → World → Prop) (Q : Exit → Act → World → Prop) : Exit → Act → World → Prop
  | .goto lb, a, w => J lb a w
  | e, a, w => Q e a w
theorem wp_scope_many {c : Code} (J : Nat → Act → World → Prop) (μ : Nat → Act → World → Nat) (rest : Nat → Code) (hf : ∀ lb a w, J lb a w → findLabel c lb = some (rest lb))
  (first : c.wp P (jumpsQ J Q) a w)
  (pass : ∀ lb a w, J lb a w → (rest lb).wp P (jumpsQ (fun lb' a' w' => J lb' a' w' ∧ μ lb' a' w' < μ lb a w) Q) a w) : (Code.scope c).wp P Q a w := by
 intro b k cs
 have key : ∀ n lb a w, μ lb a w = n → J lb a w → ∃ e a' w', Q e a' w' ∧ Arrives P (lone (b.at a (.code (rest lb) :: .inScope c :: k)) cs w) b k cs e a' w' := by
  intro n
  induction n using Nat.strongRecOn with
  | _ n ih =>
   intro lb a w hn hJ
   obtain ⟨e, a₁, w₁, hq, harr⟩ := pass lb a w hJ b (.inScope c :: k) cs
   cases e with
   | normal => exact ⟨.normal, a₁, w₁, hq, Steps.trans harr (.one step_inScope)⟩
   | exit id => exact ⟨.exit id, a₁, w₁, hq, fun k' hk => harr k' (by simp [exitTo, hk])⟩
   | goto l' =>
    obtain ⟨hJ', hlt⟩ := hq
    have hg : gotoIn l' (.inScope c :: k) = some (.code (rest l') :: .inScope c :: k) := by simp [gotoIn, hf l' _ _ hJ']
    obtain ⟨e₂, a₂, w₂, hq₂, harr₂⟩ := ih _ (by omega) l' a₁ w₁ rfl hJ'
    exact ⟨e₂, a₂, w₂, hq₂, .of_steps (harr _ hg) harr₂⟩
   | ret => exact ⟨_, a₁, w₁, hq, harr⟩
   | panic ch => exact ⟨_, a₁, w₁, hq, harr⟩
   | outgrown => exact ⟨_, a₁, w₁, hq, harr⟩
 obtain ⟨e, a₁, w₁, hq, harr⟩ := first b (.inScope c :: k) cs
 cases e with
 | normal => exact ⟨.normal, a₁, w₁, hq, .head step_scope (Steps.trans harr (.one step_inScope))⟩
 | exit id => exact ⟨.exit id, a₁, w₁, hq, fun k' hk => .head step_scope (harr k' (by simp [exitTo, hk]))⟩
 | goto l' =>
  have hg : gotoIn l' (.inScope c :: k) = some (.code (rest l') :: .inScope c :: k) := by simp [gotoIn, hf l' _ _ hq]
  obtain ⟨e₂, a₂, w₂, hq₂, harr₂⟩ := key _ l' a₁ w₁ rfl hq
  exact ⟨e₂, a₂, w₂, hq₂, .of_steps (.head step_scope (harr _ hg)) harr₂⟩
 | ret => exact ⟨_, a₁, w₁, hq, .of_steps (.one step_scope) harr⟩
 | panic ch => exact ⟨_, a₁, w₁, hq, .of_steps (.one step_scope) harr⟩
 | outgrown => exact ⟨_, a₁, w₁, hq, .of_steps (.one step_scope) harr⟩
end
section
variable {P : Program} {N : Nat} {ds : List Deferred} {Q : Post} {l r : Env} {w : World}
def noJ (Q : Post) : Post
  | .goto _, _, _ => False
  | e, l, w => Q e l w
def scQ (c : Code) (P : Program) (N : Nat) (ds : List Deferred) (lb : Nat) (A : Env → World → Prop) (Q : Post) : Post
  | .goto i, l, w => (i = lb ∧ A l w) ∨ (i ≠ lb ∧ ∃ rest, findLabel c i = some rest ∧ W P N ds (noJ Q) rest l w)
  | e, l, w => Q e l w
theorem scA {c : Code} {lb : Nat} {A : Env → World → Prop} (h : A l w) : scQ c P N ds lb A Q (.goto lb) l w := .inl ⟨rfl, h⟩
theorem scO {c rest : Code} {lb i : Nat} {A : Env → World → Prop} (hi : Nat.beq i lb = false) (hf : findLabel c i = some rest) (h : W P N ds (noJ Q) rest l w) : scQ c P N ds lb A Q (.goto i) l w :=
 .inr ⟨(fun e => by subst e; rw [Nat.beq_refl] at hi; cases hi), rest, hf, h⟩
theorem scR {c : Code} {lb : Nat} {A : Env → World → Prop} (h : Q .ret l w) : scQ c P N ds lb A Q .ret l w := h
theorem njR (h : Q .ret l w) : noJ Q .ret l w := h
theorem W_goto {i : Nat} (h : Q (.goto i) l w) : W P N ds Q (.goto i) l w := fun _ ha => wp_goto ⟨_, ha, h⟩
theorem W_label_s {i : Nat} {y : Code} (h : W P N ds Q y l w) : W P N ds Q (.seq (.label i) y) l w := W_seq (fun _ ha => wp_label ⟨_, ha, h⟩)
theorem W_skip_s {y : Code} (h : W P N ds Q y l w) : W P N ds Q (.seq .skip y) l w := W_seq (fun _ ha => wp_skip ⟨_, ha, h⟩)
theorem W_scope0 {c : Code} (h : W P N ds (noJ Q) c l w) : W P N ds Q (.scope c) l w := fun a ha => wp_scope_straight (Code.wp_mono (fun e a w hh => by
 obtain ⟨l', hr, hh⟩ := hh
 cases e with
 | goto i => exact hh.elim
 | _ => exact ⟨l', hr, hh⟩) (h a ha))
theorem W_mono {Q' : Post} {c : Code} (h : W P N ds Q c l w) (hq : ∀ e l w, Q e l w → Q' e l w) : W P N ds Q' c l w := fun a ha => Code.wp_mono (fun e a w hh => by
 obtain ⟨l', hr, hh⟩ := hh
 exact ⟨l', hr, hq e l' w hh⟩) (h a ha)
theorem W_scope {c rest : Code} (lb : Nat) (I : Nat → Env → World → Prop) (hf : findLabel c lb = some (.seq .skip rest))
  (pass : ∀ n l w, I n l w → W P N ds (scQ c P N ds lb (Again I n) Q) rest l w)
  (first : (∀ n l w, I n l w → W P N ds (scQ c P N ds lb (fun l w => ∃ n r, I n r w ∧ sub r l) Q) rest l w) → W P N ds (scQ c P N ds lb (fun l w => ∃ n r, I n r w ∧ sub r l) Q) c l w) : W P N ds Q (.scope c) l w := by
 intro a ha
 obtain ⟨J, hJ⟩ : ∃ J : Nat → Act → World → Prop, J = fun i a w => (i = lb ∧ ∃ n r, Rep N ds r a ∧ I n r w) ∨ (i ≠ lb ∧ ∃ rest', findLabel c i = some rest' ∧ rest'.wp P (lift N ds (noJ Q)) a w) := ⟨_, rfl⟩
 have hleast : ∀ a w, J lb a w → ∃ n, (∃ r, Rep N ds r a ∧ I n r w) ∧ ∀ m, (∃ r, Rep N ds r a ∧ I m r w) → n ≤ m := fun a w h => by
  rw [hJ] at h
  rcases h with ⟨_, n, r, h1, h2⟩ | ⟨h, _⟩
  ·have key : ∀ n, (∃ r, Rep N ds r a ∧ I n r w) → ∃ k, (∃ r, Rep N ds r a ∧ I k r w) ∧ ∀ m, (∃ r, Rep N ds r a ∧ I m r w) → k ≤ m := by
    intro n
    induction n using Nat.strongRecOn with
    | _ n ih =>
     intro hn
     by_cases hx : ∃ m, m < n ∧ ∃ r, Rep N ds r a ∧ I m r w
     ·obtain ⟨m, hm, hr⟩ := hx
      exact ih m hm hr
     ·exact ⟨n, hn, fun m hr => Nat.le_of_not_lt fun h => hx ⟨m, h, hr⟩⟩
   exact key n ⟨r, h1, h2⟩
  ·exact absurd rfl h
 classical
 refine wp_scope_many J (fun i a w => if h : i = lb ∧ J lb a w then (hleast a w h.2).choose + 1 else 0) (fun i => (findLabel c i).getD .skip) (fun i a w h => ?_) ?_ (fun i a w h => ?_)
 ·rw [hJ] at h
  rcases h with ⟨rfl, _⟩ | ⟨_, rest', h, _⟩
  ·rw [hf]; rfl
  ·rw [h]; rfl
 ·refine Code.wp_mono (fun e a w hq => ?_) (first (fun n l w hI => W_mono (pass n l w hI) (fun e l w hh => by
   cases e with
   | goto i =>
    rcases hh with ⟨h1, m, r, _, h2, h3⟩ | hh
    ·exact .inl ⟨h1, m, r, h2, h3⟩
    ·exact .inr hh
   | _ => exact hh)) a ha)
  obtain ⟨l', hr, hq⟩ := hq
  cases e with
  | goto i =>
   show J i a w
   rw [hJ]
   rcases hq with ⟨h1, n, r, h2, h3⟩ | ⟨h1, rest', h2, h3⟩
   ·exact .inl ⟨h1, n, r, hr.sub h3, h2⟩
   ·exact .inr ⟨h1, rest', h2, h3 a hr⟩
  | _ => exact ⟨l', hr, hq⟩
 ·by_cases hi : i = lb
  ·subst hi
   obtain ⟨n, hn⟩ : ∃ n, n = (hleast a w h).choose := ⟨_, rfl⟩
   have hspec := (hleast a w h).choose_spec
   rw [← hn] at hspec
   obtain ⟨⟨r, hr, hI⟩, hmin⟩ := hspec
   rw [show (findLabel c i).getD .skip = .seq .skip _ by rw [hf]; rfl]
   refine wp_seq (wp_skip (Code.wp_mono (fun e a' w' hq => ?_) (pass n r w hI a hr)))
   obtain ⟨l', hr', hq⟩ := hq
   cases e with
   | goto j =>
    rcases hq with ⟨rfl, m, r', hm, hI', hs⟩ | ⟨h1, rest', h2, h3⟩
    ·have hJ' : J j a' w' := by rw [hJ]; exact .inl ⟨rfl, m, r', hr'.sub hs, hI'⟩
     refine ⟨hJ', ?_⟩
     rw [dif_pos ⟨rfl, hJ'⟩, dif_pos ⟨rfl, h⟩, ← hn]
     have := (hleast a' w' hJ').choose_spec.2 m ⟨r', hr'.sub hs, hI'⟩
     omega
    ·have hJ' : J j a' w' := by rw [hJ]; exact .inr ⟨h1, rest', h2, h3 a' hr'⟩
     refine ⟨hJ', ?_⟩
     rw [dif_neg (fun e => h1 e.1), dif_pos ⟨rfl, h⟩]
     omega
   | _ => exact ⟨l', hr', hq⟩
  ·have h' := h
   rw [hJ] at h'
   rcases h' with ⟨e, _⟩ | ⟨_, rest', h2, h3⟩
   ·exact absurd e hi
   ·rw [show (findLabel c i).getD .skip = rest' by rw [h2]; rfl]
    refine Code.wp_mono (fun e a' w' hq => ?_) h3
    obtain ⟨l', hr', hq⟩ := hq
    cases e with
    | goto j => exact hq.elim
    | _ => exact ⟨l', hr', hq⟩
end
end Go.Proofs.YtnlabkogebnioaaGreatDoor
namespace Go.Proofs.YtnlabkogebnioaaGreatDoor
open Go.RowKit
def leN : List UInt8 → Nat
  | [] => 0
  | b :: l => b.toNat + 256 * leN l
theorem leN_lt : ∀ l : List UInt8, leN l < 2 ^ (8 * l.length)
 | [] => by simp [leN]
 | b :: l => by
  have h1 := leN_lt l
  have h2 := b.toNat_lt
  rw [List.length_cons, show 8 * (l.length + 1) = 8 * l.length + 8 by omega, Nat.pow_add]
  simp only [leN]
  omega
theorem leN_snoc : ∀ (l : List UInt8) (b : UInt8), leN (l ++ [b]) = leN l + b.toNat * 2 ^ (8 * l.length)
 | [], b => by simp [leN]
 | a :: l, b => by
  have h := leN_snoc l b
  simp only [List.cons_append, leN, h, List.length_cons]
  rw [show 8 * (l.length + 1) = 8 * l.length + 8 by omega, Nat.pow_add]
  generalize 2 ^ (8 * l.length) = q
  have h5 : b.toNat * (q * 2 ^ 8) = 256 * (b.toNat * q) := by rw [Nat.mul_comm q (2 ^ 8), Nat.mul_left_comm]
  rw [h5]
  omega
def takeM (s : List UInt8) (at_ : Nat) (e : Int) (n : Nat) : List UInt8 × Nat × Int :=
  if e ≠ 0 then ([], at_, e) else if s.length - at_ < n then ([], at_, 10) else ((s.drop at_).take n, at_ + n, 0)
theorem takeM_len (s : List UInt8) (at_ : Nat) (er : Int) (n : Nat) : (takeM s at_ er n).1.length ≤ n := by
 unfold takeM
 split
 ·simp
 ·split
  ·simp
  ·simp only [List.length_take]
   omega
def uvM : Nat → Nat → List UInt8 → Nat × Nat × Int
  | _, _, [] => (0, 0, 10)
  | i, x, b :: l => if (i = 9 ∧ 1 < b.toNat) ∨ (0 < i ∧ b.toNat = 0) then (0, 0, 12) else if b.toNat < 128 then (x + b.toNat * 2 ^ (7 * i), i + 1, 0) else uvM (i + 1) (x + (b.toNat - 128) * 2 ^ (7 * i)) l
def uvR (s : List UInt8) (at_ : Nat) (e : Int) : Nat × Nat × Int :=
  if e ≠ 0 then (0, at_, e) else if (uvM 0 0 (s.drop at_)).2.2 = 0 then ((uvM 0 0 (s.drop at_)).1, at_ + (uvM 0 0 (s.drop at_)).2.1, 0) else (0, at_, (uvM 0 0 (s.drop at_)).2.2)
def textR (s : List UInt8) (at_ : Nat) (most : Nat) : List UInt8 × Nat × Int :=
  if (uvR s at_ 0).2.2 ≠ 0 then ([], (uvR s at_ 0).2.1, (uvR s at_ 0).2.2) else if most < (uvR s at_ 0).1 then ([], at_, 12) else if s.length - (uvR s at_ 0).2.1 < (uvR s at_ 0).1 then ([], at_, 10) else takeM s (uvR s at_ 0).2.1 0 (uvR s at_ 0).1
theorem uvM_len : ∀ (l : List UInt8) (i x : Nat), (uvM i x l).2.1 ≤ i + l.length
 | [], _, _ => Nat.zero_le _
 | b :: l, i, x => by
  unfold uvM
  split
  ·exact Nat.zero_le _
  ·split
   ·simp only [List.length_cons]; omega
   ·have := uvM_len l (i + 1) (x + (b.toNat - 128) * 2 ^ (7 * i))
    simp only [List.length_cons]
    omega
theorem uvR_at {s : List UInt8} {at_ : Nat} {e : Int} (h : at_ ≤ s.length) : (uvR s at_ e).2.1 ≤ s.length := by
 unfold uvR
 split
 ·exact h
 ·split
  ·have := uvM_len (s.drop at_) 0 0
   rw [List.length_drop] at this
   simp only
   omega
  ·exact h
theorem take1 {s tl : List UInt8} {a ta : Nat} {te : Int} (h : takeM s a 0 1 = (tl, ta, te)) : (te = 10 ∧ s.drop a = [] ∧ ta = a ∧ tl = []) ∨ (te = 0 ∧ ∃ b l, s.drop a = b :: l ∧ tl = [b] ∧ ta = a + 1 ∧ a < s.length) := by
 unfold takeM at h
 rw [if_neg (by simp)] at h
 split at h
 ·rename_i hl
  injection h with h1 h2
  injection h2 with h2 h3
  exact .inl ⟨h3.symm, List.drop_of_length_le (by omega), h2.symm, h1.symm⟩
 ·rename_i hl
  injection h with h1 h2
  injection h2 with h2 h3
  have hlt : a < s.length := by omega
  refine .inr ⟨h3.symm, s[a], s.drop (a + 1), List.drop_eq_getElem_cons hlt, ?_, h2.symm, hlt⟩
  rw [← h1, List.drop_eq_getElem_cons hlt]
  rfl
theorem and127 (b : UInt8) : bits .and .u8 (b.toNat : Int) 127 = ((b.toNat % 128 : Nat) : Int) := by
 have h := and_u8 b 127
 have e : (b &&& 127).toNat = b.toNat % 128 := by
  rw [UInt8.toNat_and]
  exact Nat.and_two_pow_sub_one_eq_mod b.toNat 7
 rw [e] at h
 exact h
theorem sh_bound {i b : Nat} (hi : i ≤ 9) (hb : b < 256) (h : ¬ (i = 9 ∧ 1 < b)) : b % 128 * 2 ^ (7 * i) + 2 ^ (7 * i) ≤ 18446744073709551616 := by
 have : i = 0 ∨ i = 1 ∨ i = 2 ∨ i = 3 ∨ i = 4 ∨ i = 5 ∨ i = 6 ∨ i = 7 ∨ i = 8 ∨ i = 9 := by omega
 rcases this with rfl | rfl | rfl | rfl | rfl | rfl | rfl | rfl | rfl | rfl
 all_goals (simp only [Nat.reduceMul, Nat.reducePow]; omega)
theorem sh_next {x c i : Nat} (hx : x < 2 ^ (7 * i)) (hc : c ≤ 127) : x + c * 2 ^ (7 * i) < 2 ^ (7 * (i + 1)) := by
 rw [show 7 * (i + 1) = 7 * i + 7 by omega, Nat.pow_add]
 have := Nat.mul_le_mul_right (2 ^ (7 * i)) hc
 omega
theorem or_add64 (a b k : Nat) (ha : a < 2 ^ k) (hb : a + b * 2 ^ k < 18446744073709551616) : bits .or .u64 (a : Int) ((b : Int) * ((2 ^ k : Nat) : Int)) = ((a + b * 2 ^ k : Nat) : Int) := by
 have e : (b : Int) * ((2 ^ k : Nat) : Int) = ((b * 2 ^ k : Nat) : Int) := by rw [Int.natCast_mul]
 have h1 : b * 2 ^ k + a = b * 2 ^ k ||| a := by
  have := Nat.shiftLeft_add_eq_or_of_lt (i := k) ha b
  rwa [Nat.shiftLeft_eq] at this
 rw [e]
 show IntKind.u64.wrap ((BitVec.ofInt 64 (a : Int) ||| BitVec.ofInt 64 ((b * 2 ^ k : Nat) : Int)).toNat : Int) = _
 rw [BitVec.ofInt_natCast, BitVec.ofInt_natCast, BitVec.toNat_or, BitVec.toNat_ofNat, BitVec.toNat_ofNat, Nat.mod_eq_of_lt (by omega), Nat.mod_eq_of_lt (by omega), Nat.or_comm, ← h1, Nat.add_comm]
 exact IntWalk.u64_in _ (by omega)
section
variable {P : Program} {N : Nat} {ds : List Deferred} {Q : Post} {l : Env} {w : World} {ops : Array Oper} {rest : List Oper} {x : Operand} {ty src dst e : TypeId} {pos : String} {aft : Array Edge} {d : Nat} {s : List UInt8}
theorem scb (hx : ev l x = some (str s)) (hs : P.underlying src = some .string) (hdd : P.underlying dst = some (.slice e)) (he : P.underlying e = some (.int .u8)) (hl : s.length ≤ 1099511627776) (hd : Nat.blt d N = true)
  (h : ∀ g c w', Reads w' 1 (.slice (some ⟨g, 0, none⟩) s.length c) s.length (s.map bv) → w.heap.size ≤ g → g < w'.heap.size → Below w.heap.size w w' → WL P N ds ops Q rest ((d, .slice (some ⟨g, 0, none⟩) s.length c) :: l) w') :
  WL P N ds ops Q (⟨some d, .convert src dst x, ty, pos, aft, none⟩ :: rest) l w := by
 have hr := run_bytes_of_string (P := P) w src dst e ⟨s.toArray⟩ hs hdd he
 have hz : (⟨s.toArray⟩ : ByteArray).size = s.length := by simp [ByteArray.size]
 rw [hz] at hr
 have hge := grownCap_ge w s.length 0 e
 have hle := grownCap_le_maxLen w s.length 0 e (by simp only [maxLen]; omega)
 obtain ⟨C, hC⟩ : ∃ C, bytesRow ⟨s.toArray⟩ (grownCap w s.length 0 e) = C := ⟨_, rfl⟩
 rw [hC] at hr
 have hb : Below w.heap.size w (w.drew.alloc (.cells C e (C.size, C.size + 1))) := (bdrew (Below.refl _ _)).alloc (Nat.le_refl _) _
 have hR : Reads (w.drew.alloc (.cells C e (C.size, C.size + 1))) 1 (.slice (some ⟨w.heap.size, 0, none⟩) s.length (grownCap w s.length 0 e)) s.length (s.map bv) := by
  refine ⟨by simp, _, _, rfl, hge, hle, fun _ => ⟨w.heap.size, 0, rfl, by simp [World.alloc], fun j u hu => ?_⟩⟩
  have h1 : (w.drew.alloc (.cells C e (C.size, C.size + 1))).heap[w.heap.size]? = some (.cells C e (C.size, C.size + 1)) := by show (w.heap.push _)[w.heap.size]? = _; simp
  simp only [World.cell?, h1, Nat.zero_add]
  rw [← hC]
  unfold bytesRow
  have hj := (List.getElem?_eq_some_iff.1 hu).1
  rw [List.length_map] at hj
  rw [Array.getElem?_append_left (by simpa using hj)]
  simp at hu ⊢
  exact hu
 refine st (fun ρ hρ => ?_) hd (h w.heap.size _ _ hR (Nat.le_refl _) (by simp [World.alloc]) hb)
 unfold execOp
 simp only [hρ _ _ hx, Sem.run_bind, str, hr, Result.andThen_ok, Sem.run_pure]
end
section
variable {l : Env} {x : Operand} {w : World} {t' ty : TypeId} {p : Option Addr}
theorem nilEqNr (w : World) : (binOp .eql 175 (.pointer none) (.pointer none)).run Tryz.prog w = .ok (.bool true) w := by kernel_rfl
theorem nilEqPr (a : Addr) (w : World) : (binOp .eql 175 (.pointer (some a)) (.pointer none)).run Tryz.prog w = .ok (.bool false) w := by kernel_rfl
theorem X.rdEq (hx : ev l x = some (.pointer p)) : X Tryz.prog l (.binOp .eql 175 x (.const (.pointer none)) t') ty w (.bool p.isNone) w :=
 X.bin hx rfl guard_ptr (by cases p with | none => exact nilEqNr w | some a => exact nilEqPr a w)
end
theorem brd (s : List UInt8) (w : World) : (Instr.build 222 #[(0, str s)]).run Tryz.prog w = .ok (.agg #[str s, .int .i64 0, .int .i64 0]) w := by kernel_rfl
theorem Read_rd (s : List UInt8) (w : World) : Calls Tryz.prog 104 #[str s] w fun e w' => ∃ g, e = .returned (.pointer (some ⟨g, 0, none⟩)) ∧ Blk w' g 222 #[str s, .int .i64 0, .int .i64 0] ∧ w.heap.size ≤ g ∧ g < w'.heap.size ∧ Below w.heap.size w w' := by
 refine W_enter (args := [str s]) 6 Tryz.func104 rfl rfl rfl (W_sub [(0, str s)] ?_ ⟨rfl, trivial⟩)
 have hbw := Below.refl w.heap.size w
 refine W_rs (sa rfl rfl (Wn (tN (W_rs (sm rfl rfl (st (X.bld rfl (brd _ _)) rfl (sboxA rfl rfl (fun g5 w1 hB5 hg5 hb hl5 => ?_))))))))
 replace hbw := bthen hbw hb
 have hz_w1 := hb.size
 clear hb
 refine sa rfl rfl (Wn (tN (W_ret ?_)))
 exact (rT rfl rfl ⟨g5, rfl, hB5, hg5, hl5, hbw⟩).1
section
variable (g : Nat) (s : List UInt8) (at_ : Nat) (er : Int) (w : World) (hB : Blk w g 222 #[str s, .int .i64 at_, .int .i64 er])
include hB
theorem Err_any : Calls Tryz.prog 106 #[.pointer (some ⟨g, 0, none⟩)] w fun e w' => e = .returned (.int .i64 er) ∧ w = w' := by
 refine W_enter (args := [.pointer (some ⟨g, 0, none⟩)]) 9 Tryz.func106 rfl rfl rfl (W_sub [(0, .pointer (some ⟨g, 0, none⟩))] ?_ ⟨rfl, trivial⟩)
 refine W_rs (sa rfl rfl (Wn (tN (W_seq (W_rs (sm rfl rfl (st (X.rdEq rfl) rfl (Wn (tN (W_no rfl (rfl) ?_))))))))))
 refine W_skip (tN (W_rs (sm rfl rfl (st (X.nilChk rfl) rfl (st (X.fa fa222_2 rfl) rfl (st (X.ldL rfl hB Tryz.underlying26 rfl rfl) rfl (sa rfl rfl (Wn (tN (W_ret ?_))))))))))
 exact (rT rfl rfl ⟨rfl, rfl⟩).1
theorem At_any : Calls Tryz.prog 108 #[.pointer (some ⟨g, 0, none⟩)] w fun e w' => e = .returned (.int .i64 at_) ∧ w = w' := by
 refine W_enter (args := [.pointer (some ⟨g, 0, none⟩)]) 9 Tryz.func108 rfl rfl rfl (W_sub [(0, .pointer (some ⟨g, 0, none⟩))] ?_ ⟨rfl, trivial⟩)
 refine W_rs (sa rfl rfl (Wn (tN (W_seq (W_rs (sm rfl rfl (st (X.rdEq rfl) rfl (Wn (tN (W_no rfl (rfl) ?_))))))))))
 refine W_skip (tN (W_rs (sm rfl rfl (st (X.nilChk rfl) rfl (st (X.fa fa222_1 rfl) rfl (st (X.ldL rfl hB Tryz.underlying3 rfl rfl) rfl (sa rfl rfl (Wn (tN (W_ret ?_))))))))))
 exact (rT rfl rfl ⟨rfl, rfl⟩).1
theorem fail_any (e2 : Int) (at2 : Nat) : Calls Tryz.prog 148 #[.pointer (some ⟨g, 0, none⟩), .int .i64 e2, .int .i64 at2] w fun e w' => e = .returned (.tuple #[]) ∧ Blk w' g 222 #[str s, .int .i64 at2, .int .i64 e2] ∧ Chg (fun k => k = g) w w' := by
 have hlt := hB.lt
 refine W_enter (args := [.pointer (some ⟨g, 0, none⟩), .int .i64 e2, .int .i64 at2]) 14 Tryz.func148 rfl rfl rfl (W_sub [(0, .pointer (some ⟨g, 0, none⟩)), (1, .int .i64 e2), (2, .int .i64 at2)] ?_ ⟨rfl, rfl, rfl, trivial⟩)
 have hcw := Chg.refl (fun k => k = g) w
 refine W_reg (sm rfl rfl (sm rfl rfl (sm rfl rfl (sm rfl rfl (st (X.nilChk rfl) rfl (st (X.fa fa222_2 rfl) rfl (ssB rfl rfl hB siz26 rfl (by first | decide | simp) (fun w1 hB_ hc_ => ?_))))))))
 replace hB := hB_
 clear hB_
 replace hcw := hcw.next hc_ (fun i_ hi_ => by first | exact .inl hi_ | exact .inl (.inl hi_) | (right; subst hi_; omega) | (left; subst hi_; show _ ≤ _; omega) | (left; subst hi_; assumption))
 have hz_w1 := hc_.size
 clear hc_
 refine st (X.nilChk rfl) rfl (st (X.fa fa222_1 rfl) rfl (ssB rfl rfl hB siz3 rfl (by first | decide | simp) (fun w2 hB_ hc_ => ?_)))
 replace hB := hB_
 clear hB_
 replace hcw := hcw.next hc_ (fun i_ hi_ => by first | exact .inl hi_ | exact .inl (.inl hi_) | (right; subst hi_; omega) | (left; subst hi_; show _ ≤ _; omega) | (left; subst hi_; assumption))
 have hz_w2 := hc_.size
 clear hc_
 refine Wn ?_
 exact (r0 rfl ⟨rfl, hB, hcw⟩).2
theorem Left_any (hs : s.length ≤ 1099511627776) (ha : at_ ≤ s.length) : Calls Tryz.prog 149 #[.pointer (some ⟨g, 0, none⟩)] w fun e w' => e = .returned (.int .i64 (s.length - at_ : Nat)) ∧ Below w.heap.size w w' := by
 refine W_enter (args := [.pointer (some ⟨g, 0, none⟩)]) 15 Tryz.func149 rfl rfl rfl (W_sub [(0, .pointer (some ⟨g, 0, none⟩))] ?_ ⟨rfl, trivial⟩)
 have hbw := Below.refl w.heap.size w
 refine W_rs (sa rfl rfl (Wn (tN (W_seq (W_rs (sm rfl rfl (st (X.rdEq rfl) rfl (Wn (tN (W_no rfl (rfl) ?_))))))))))
 refine W_skip (tN (W_drsN (fun W_ => Blk W_ g 222 #[str s, .int .i64 at_, .int .i64 er]) [0, 1, 2, 3, 4, 5, 6, 7, 8, 9, 10] [true, true, true, true, true, true, true, true, true, true, true] (by kernel_rfl) (by kernel_rfl) (hB.drew) ?_))
 obtain ⟨w1, hw_⟩ : ∃ w1 : World, w1 = World.drew w := ⟨_, rfl⟩
 rw [← hw_]
 have hb : Below w.heap.size w w1 := by rw [hw_]; exact bdrew (Below.refl _ _)
 clear hw_
 have hS := hb
 replace hbw := bthen hbw hb
 replace hB := hB.bel hb
 have hz_w1 := hb.size
 clear hb
 refine oY rfl (fun W_ hW_ => (X.move rfl)) rfl (oY rfl (fun W_ hW_ => (X.nilChk rfl)) rfl (oY rfl (fun W_ hW_ => (X.fa fa222_0 rfl)) rfl (oY rfl (fun W_ hW_ => (X.ldL rfl hW_ Tryz.underlying9 rfl rfl)) rfl (oY rfl (fun W_ hW_ => (X.lenS rfl rfl Tryz.underlying9)) rfl (oY rfl (fun W_ hW_ => (X.move rfl)) rfl (oY rfl (fun W_ hW_ => (X.nilChk rfl)) rfl (oY rfl (fun W_ hW_ => (X.fa fa222_1 rfl)) rfl (oY rfl (fun W_ hW_ => (X.ldL rfl hW_ Tryz.underlying3 rfl rfl)) rfl (oY rfl (fun W_ hW_ => (X.sub64 rfl rfl (by omega))) rfl (oY rfl (fun W_ hW_ => (X.assign rfl)) rfl ?_))))))))))
 refine oN (nN (W_ret ((rT rfl rfl ⟨?_, hbw⟩).1)))
 rw [Int.ofNat_sub ha]
theorem take_any (n : Nat) (hs : s.length ≤ 1099511627776) (ha : at_ ≤ s.length) (hn : n ≤ 1099511627776) : Calls Tryz.prog 150 #[.pointer (some ⟨g, 0, none⟩), .int .i64 n] w fun e w' =>
  e = .returned (str (takeM s at_ er n).1) ∧ Blk w' g 222 #[str s, .int .i64 (takeM s at_ er n).2.1, .int .i64 (takeM s at_ er n).2.2] ∧ Chg (fun k => k = g) w w' := by
 have hlt := hB.lt
 unfold takeM
 by_cases he : er ≠ 0
 ·simp only [if_pos he]
  refine W_enter (args := [.pointer (some ⟨g, 0, none⟩), .int .i64 n]) 56 Tryz.func150 rfl rfl rfl (W_sub [(0, .pointer (some ⟨g, 0, none⟩)), (1, .int .i64 n)] ?_ ⟨rfl, rfl, trivial⟩)
  have hcw := Chg.refl (fun k => k = g) w
  refine W_rs (sa rfl rfl (Wn (tN (W_seq (W_block (W_rs (sm rfl rfl (st (X.rdEq rfl) rfl (sbN rfl (rfl) rfl (gY (g := 9) rfl rfl rfl ?_))))))))))
  refine sm rfl rfl (gY (g := 9) rfl rfl rfl (st (X.nilChk rfl) rfl (gY (g := 9) rfl rfl rfl (st (X.fa fa222_2 rfl) rfl (gY (g := 9) rfl rfl rfl (st (X.ldL rfl hB Tryz.underlying26 rfl rfl) rfl (gY (g := 9) rfl rfl rfl (st (X.neq rfl rfl) rfl (st (X.pickF rfl rfl) rfl (sa rfl rfl ?_))))))))))
  refine Wn (tN (W_yes rfl (decide_eq_true he) (W_rs (sa rfl rfl (Wn (tN (W_ret (bR (tR ?_)))))))))
  exact (rT rfl rfl ⟨rfl, hB, hcw⟩).1
 simp only [if_neg he]
 obtain rfl : er = 0 := Classical.byContradiction he
 by_cases hsh : s.length - at_ < n
 ·simp only [if_pos hsh]
  refine W_enter (args := [.pointer (some ⟨g, 0, none⟩), .int .i64 n]) 56 Tryz.func150 rfl rfl rfl (W_sub [(0, .pointer (some ⟨g, 0, none⟩)), (1, .int .i64 n)] ?_ ⟨rfl, rfl, trivial⟩)
  have hcw := Chg.refl (fun k => k = g) w
  refine W_rs (sa rfl rfl (Wn (tN (W_seq (W_block (W_rs (sm rfl rfl (st (X.rdEq rfl) rfl (sbN rfl (rfl) rfl (gY (g := 9) rfl rfl rfl ?_))))))))))
  refine sm rfl rfl (gY (g := 9) rfl rfl rfl (st (X.nilChk rfl) rfl (gY (g := 9) rfl rfl rfl (st (X.fa fa222_2 rfl) rfl (gY (g := 9) rfl rfl rfl (st (X.ldL rfl hB Tryz.underlying26 rfl rfl) rfl (gY (g := 9) rfl rfl rfl (st (X.neq rfl rfl) rfl (st (X.pickF rfl rfl) rfl (sa rfl rfl ?_))))))))))
  refine Wn (tN (W_no rfl (rfl) (W_drsN (fun W_ => Blk W_ g 222 #[str s, .int .i64 at_, .int .i64 0]) [0, 1, 2, 3, 4, 5, 6, 7, 8, 9, 10, 11, 12] [true, true, true, true, true, true, true, true, true, true, true, true, true] (by kernel_rfl) (by kernel_rfl) (hB.drew) ?_)))
  obtain ⟨w1, hw_⟩ : ∃ w1 : World, w1 = World.drew w := ⟨_, rfl⟩
  rw [← hw_]
  have hb : Below w.heap.size w w1 := by rw [hw_]; exact bdrew (Below.refl _ _)
  clear hw_
  have hS := hb
  replace hcw := hcw.then_below hb
  replace hB := hB.bel hb
  have hz_w1 := hb.size
  clear hb
  refine oY rfl (fun W_ hW_ => (X.move rfl)) rfl (oY rfl (fun W_ hW_ => (X.move rfl)) rfl (oY rfl (fun W_ hW_ => (X.nilChk rfl)) rfl (oY rfl (fun W_ hW_ => (X.fa fa222_0 rfl)) rfl (oY rfl (fun W_ hW_ => (X.ldL rfl hW_ Tryz.underlying9 rfl rfl)) rfl (oY rfl (fun W_ hW_ => (X.lenS rfl rfl Tryz.underlying9)) rfl (oY rfl (fun W_ hW_ => (X.move rfl)) rfl (oY rfl (fun W_ hW_ => (X.nilChk rfl)) rfl (oY rfl (fun W_ hW_ => (X.fa fa222_1 rfl)) rfl (oY rfl (fun W_ hW_ => (X.ldL rfl hW_ Tryz.underlying3 rfl rfl)) rfl (oY rfl (fun W_ hW_ => (X.sub64 rfl rfl (by omega))) rfl ?_))))))))))
  refine oY rfl (fun W_ hW_ => (X.gtr rfl rfl)) rfl (oY rfl (fun W_ hW_ => (X.assign rfl)) rfl (oN (nN (W_yes rfl (decide_eq_true (by omega)) (W_rs (sm rfl rfl (st (X.nilChk rfl) rfl (st (X.fa fa222_2 rfl) rfl (ssB rfl rfl hB siz26 rfl (by first | decide | simp) (fun w2 hB_ hc_ => ?_))))))))))
  replace hB := hB_
  clear hB_
  replace hcw := hcw.next hc_ (fun i_ hi_ => by first | exact .inl hi_ | exact .inl (.inl hi_) | (right; subst hi_; omega) | (left; subst hi_; show _ ≤ _; omega) | (left; subst hi_; assumption))
  have hz_w2 := hc_.size
  clear hc_
  refine Wn (tN (W_rs (sa rfl rfl (Wn (tN (W_ret (bR (tR ?_))))))))
  exact (rT rfl rfl ⟨rfl, hB, hcw⟩).1
 simp only [if_neg hsh]
 refine W_enter (args := [.pointer (some ⟨g, 0, none⟩), .int .i64 n]) 56 Tryz.func150 rfl rfl rfl (W_sub [(0, .pointer (some ⟨g, 0, none⟩)), (1, .int .i64 n)] ?_ ⟨rfl, rfl, trivial⟩)
 have hcw := Chg.refl (fun k => k = g) w
 refine W_rs (sa rfl rfl (Wn (tN (W_seq (W_block (W_rs (sm rfl rfl (st (X.rdEq rfl) rfl (sbN rfl (rfl) rfl (gY (g := 9) rfl rfl rfl ?_))))))))))
 refine sm rfl rfl (gY (g := 9) rfl rfl rfl (st (X.nilChk rfl) rfl (gY (g := 9) rfl rfl rfl (st (X.fa fa222_2 rfl) rfl (gY (g := 9) rfl rfl rfl (st (X.ldL rfl hB Tryz.underlying26 rfl rfl) rfl (gY (g := 9) rfl rfl rfl (st (X.neq rfl rfl) rfl (st (X.pickF rfl rfl) rfl (sa rfl rfl ?_))))))))))
 refine Wn (tN (W_no rfl (rfl) (W_drsN (fun W_ => Blk W_ g 222 #[str s, .int .i64 at_, .int .i64 0]) [0, 1, 2, 3, 4, 5, 6, 7, 8, 9, 10, 11, 12] [true, true, true, true, true, true, true, true, true, true, true, true, true] (by kernel_rfl) (by kernel_rfl) (hB.drew) ?_)))
 obtain ⟨w1, hw_⟩ : ∃ w1 : World, w1 = World.drew w := ⟨_, rfl⟩
 rw [← hw_]
 have hb : Below w.heap.size w w1 := by rw [hw_]; exact bdrew (Below.refl _ _)
 clear hw_
 have hS := hb
 replace hcw := hcw.then_below hb
 replace hB := hB.bel hb
 have hz_w1 := hb.size
 clear hb
 refine oY rfl (fun W_ hW_ => (X.move rfl)) rfl (oY rfl (fun W_ hW_ => (X.move rfl)) rfl (oY rfl (fun W_ hW_ => (X.nilChk rfl)) rfl (oY rfl (fun W_ hW_ => (X.fa fa222_0 rfl)) rfl (oY rfl (fun W_ hW_ => (X.ldL rfl hW_ Tryz.underlying9 rfl rfl)) rfl (oY rfl (fun W_ hW_ => (X.lenS rfl rfl Tryz.underlying9)) rfl (oY rfl (fun W_ hW_ => (X.move rfl)) rfl (oY rfl (fun W_ hW_ => (X.nilChk rfl)) rfl (oY rfl (fun W_ hW_ => (X.fa fa222_1 rfl)) rfl (oY rfl (fun W_ hW_ => (X.ldL rfl hW_ Tryz.underlying3 rfl rfl)) rfl (oY rfl (fun W_ hW_ => (X.sub64 rfl rfl (by omega))) rfl ?_))))))))))
 refine oY rfl (fun W_ hW_ => (X.gtr rfl rfl)) rfl (oY rfl (fun W_ hW_ => (X.assign rfl)) rfl (oN (nN (W_no rfl (decide_eq_false (by omega)) (W_skip (bN (tN (W_drsN (fun W_ => Blk W_ g 222 #[str s, .int .i64 at_, .int .i64 0]) [0, 1, 2, 3, 4, 5, 6, 7, 8, 9, 10, 11, 12, 13, 14, 15] [true, true, true, true, true, true, true, true, true, true, true, true, true, true, true, true] (by kernel_rfl) (by kernel_rfl) (hB.drew) ?_))))))))
 obtain ⟨w2, hw_⟩ : ∃ w2 : World, w2 = World.drew w1 := ⟨_, rfl⟩
 rw [← hw_]
 have hb : Below w1.heap.size w1 w2 := by rw [hw_]; exact bdrew (Below.refl _ _)
 clear hw_
 have hS := hb
 replace hcw := hcw.then_below hb
 replace hB := hB.bel hb
 have hz_w2 := hb.size
 clear hb
 refine oY rfl (fun W_ hW_ => (X.move rfl)) rfl (oY rfl (fun W_ hW_ => (X.nilChk rfl)) rfl (oY rfl (fun W_ hW_ => (X.fa fa222_0 rfl)) rfl (oY rfl (fun W_ hW_ => (X.ldL rfl hW_ Tryz.underlying9 rfl rfl)) rfl (oY rfl (fun W_ hW_ => (X.move rfl)) rfl (oY rfl (fun W_ hW_ => (X.nilChk rfl)) rfl (oY rfl (fun W_ hW_ => (X.fa fa222_1 rfl)) rfl (oY rfl (fun W_ hW_ => (X.ldL rfl hW_ Tryz.underlying3 rfl rfl)) rfl (oY rfl (fun W_ hW_ => (X.move rfl)) rfl (oY rfl (fun W_ hW_ => (X.nilChk rfl)) rfl (oY rfl (fun W_ hW_ => (X.fa fa222_1 rfl)) rfl ?_))))))))))
 refine oY rfl (fun W_ hW_ => (X.ldL rfl hW_ Tryz.underlying3 rfl rfl)) rfl (oY rfl (fun W_ hW_ => (X.move rfl)) rfl (oY rfl (fun W_ hW_ => (X.add64 rfl rfl (by omega))) rfl (oY rfl (fun W_ hW_ => (X.cutS (s := s) (i := at_) (j := at_ + n) rfl rfl rfl Tryz.underlying9 rfl (by omega) (by omega) (by omega))) rfl (oY rfl (fun W_ hW_ => (X.assign rfl)) rfl (oN (nN (W_rs (sm rfl rfl (st (X.nilChk rfl) rfl (st (X.fa fa222_1 rfl) rfl ?_))))))))))
 refine st (X.ldL rfl hB Tryz.underlying3 rfl rfl) rfl (sm rfl rfl (st (X.add64 rfl rfl (by omega)) rfl (st (X.nilChk rfl) rfl (st (X.fa fa222_1 rfl) rfl (ssB rfl rfl hB siz3 rfl (by first | decide | simp) (fun w3 hB_ hc_ => ?_))))))
 replace hB := hB_
 clear hB_
 replace hcw := hcw.next hc_ (fun i_ hi_ => by first | exact .inl hi_ | exact .inl (.inl hi_) | (right; subst hi_; omega) | (left; subst hi_; show _ ≤ _; omega) | (left; subst hi_; assumption))
 have hz_w3 := hc_.size
 clear hc_
 refine Wn (tN (W_rs (sm rfl rfl (sa rfl rfl (Wn (tN (W_ret ((rT rfl rfl ⟨?_, hB, hcw⟩).1))))))))
 rw [List.drop_take, Nat.add_sub_cancel_left]
theorem fixed_any (n : Nat) (hs : s.length ≤ 1099511627776) (ha : at_ ≤ s.length) (hn : n ≤ 8) : Calls Tryz.prog 146 #[.pointer (some ⟨g, 0, none⟩), .int .i64 n] w fun e w' =>
  e = .returned (.int .u64 (leN (takeM s at_ er n).1 : Nat)) ∧ Blk w' g 222 #[str s, .int .i64 (takeM s at_ er n).2.1, .int .i64 (takeM s at_ er n).2.2] ∧ Chg (fun k => k = g) w w' := by
 have hlt := hB.lt
 have htl : (takeM s at_ er n).1.length ≤ n := by
  unfold takeM
  split
  ·simp
  ·split
   ·simp
   ·simp only [List.length_take]
    omega
 have hT := take_any g s at_ er w hB n hs ha (by omega)
 obtain ⟨t, ht⟩ : ∃ t, takeM s at_ er n = t := ⟨_, rfl⟩
 obtain ⟨tl, ta, te⟩ := t
 rw [ht] at hT htl ⊢
 replace htl : tl.length ≤ n := htl
 refine W_enter (args := [.pointer (some ⟨g, 0, none⟩), .int .i64 n]) 28 Tryz.func146 rfl rfl rfl (W_sub [(0, .pointer (some ⟨g, 0, none⟩)), (1, .int .i64 n)] ?_ ⟨rfl, rfl, trivial⟩)
 have hcw := Chg.refl (fun k => k = g) w
 refine W_rs (sa rfl rfl (Wn (tN (W_rs (sa rfl rfl (Wn (tN (W_seq (W_rs (sm rfl rfl ?_))))))))))
 refine sm rfl rfl (sc _ Tryz.func150 rfl (by kernel_rfl) rfl rfl (hT.mono ?_))
 rintro e_ w1 ⟨rfl, hB1, hX⟩
 refine cR ?_
 have hn1 := hcw.next hX (fun i hi => .inl hi)
 clear hcw
 have hcw := hn1
 refine scb (s := tl) rfl Tryz.underlying9 Tryz.underlying123 Tryz.underlying5 (by omega) rfl (fun gv cv w2 hR hgv hgl hb => ?_)
 have hn1 := hcw.then_below hb
 have hn2 := hB1.bel hb
 have hzz := hb.size
 clear hcw hB1 hb
 have hcw := hn1
 have hB1 := hn2
 clear hn1 hn2
 refine st (X.lenL rfl rfl Tryz.underlying123) rfl (sm rfl rfl (Wn (tN (W_block (W_lp (fun nw3_ lw3_ w3 => ∃ i : Nat, nw3_ = tl.length - i ∧ lw3_ = ([(0, .pointer (some ⟨g, 0, none⟩)), (5, .int .u64 (leN (tl.take i) : Nat)), (11, .slice (some ⟨gv, 0, none⟩) tl.length cv), (12, .int .i64 tl.length), (13, .int .i64 i)] : Env) ∧ (i ≤ tl.length) ∧ (Chg (fun k => k = g) w w3) ∧ (Blk w3 g 222 #[str s, .int .i64 ta, .int .i64 te]) ∧ (Reads w3 1 (.slice (some ⟨gv, 0, none⟩) tl.length cv) tl.length (tl.map bv))) _ ⟨_, ⟨0, rfl, rfl, Nat.zero_le _, hcw, hB1, hR⟩, ⟨rfl, rfl, rfl, rfl, rfl, trivial⟩⟩ ?_)))))
 clear hcw hB1 hR
 rintro nw3_ lw3_ w3 ⟨i, rfl, rfl, hi, hcw, hB1, hR⟩
 refine W_rs (st (X.lss rfl rfl) rfl (Wn (tN (W_seq (W_if rfl (fun h14 => ?_) (fun h14 => ?_))))))
 ·first | replace h14 := of_decide_eq_true h14 | replace h14 := of_decide_eq_false (notT h14) | replace h14 := notT h14 | skip
  obtain ⟨x, hx⟩ : ∃ x, tl[i]? = some x := ⟨_, List.getElem?_eq_getElem (by omega)⟩
  have hux : (tl.map bv)[i]? = some (bv x) := by rw [List.getElem?_map, hx]; rfl
  have hx8 := x.toNat_lt
  have hnx : leN (tl.take (i + 1)) = leN (tl.take i) + x.toNat * 2 ^ (8 * i) := by
   rw [take_next' hx, leN_snoc, List.length_take, Nat.min_eq_left hi]
  have hlt1 := leN_lt (tl.take i)
  have hlt2 := leN_lt (tl.take (i + 1))
  rw [List.length_take, Nat.min_eq_left hi] at hlt1
  rw [List.length_take, Nat.min_eq_left (by omega), hnx] at hlt2
  have hpw : 2 ^ (8 * (i + 1)) ≤ 2 ^ 64 := Nat.pow_le_pow_right (by omega) (by omega)
  have hbd : leN (tl.take i) + x.toNat * 2 ^ (8 * i) < 18446744073709551616 := Nat.lt_of_lt_of_le hlt2 hpw
  have hmul : (x.toNat : Int) * ((2 ^ (8 * i) : Nat) : Int) = ((x.toNat * 2 ^ (8 * i) : Nat) : Int) := by rw [Int.natCast_mul]
  refine W_skip (tN (W_seq (W_block (W_rs (sm rfl rfl (st (X.idxA rfl rfl Tryz.underlying123 siz5 rfl (by omega)) rfl (st (X.ld rfl Tryz.underlying5 rfl (by rw [Nat.mul_one]; exact hR.cellAt (by omega) hux)) rfl ?_)))))))
  refine sa rfl rfl (sa rfl rfl (Wn (tN (W_reg (sm rfl rfl (sm rfl rfl (st (X.convI (m := (x.toNat : Int)) rfl Tryz.underlying5 Tryz.underlying165 (IntWalk.u64_in _ (by omega))) rfl (sm rfl rfl (st (X.mul64 rfl rfl (by omega)) rfl (st (X.convI (m := 8 * (i : Int)) (z := 8 * (i : Int)) rfl Tryz.underlying3 Tryz.underlying173 (IntWalk.u64_in _ (by omega))) rfl ?_))))))))))
  refine st (X.shl (s := 8 * i) (q := ((2 ^ (8 * i) : Nat) : Int)) (z := (x.toNat : Int) * ((2 ^ (8 * i) : Nat) : Int)) rfl rfl (by omega) (by show 8 * (i : Int) ≤ 64; omega) (by omega) (by simp) (by rw [hmul]; exact IntWalk.u64_in _ (by omega))) rfl ?_
  refine st (X.bits (by simp) rfl rfl (or_add64 _ _ _ hlt1 hbd)) rfl ?_
  refine sa rfl rfl (Wn (bN (tN (W_reg (st (X.add64 rfl rfl (by omega)) rfl (sm rfl rfl (Wn (tN ⟨_, _, ?_, ⟨i + 1, rfl, rfl, by omega, hcw, hB1, hR⟩, ⟨rfl, by rw [hnx]; rfl, rfl, rfl, rfl, trivial⟩⟩))))))))
  omega
 ·first | replace h14 := of_decide_eq_false h14 | replace h14 := of_decide_eq_true (notF h14) | replace h14 := notF h14 | skip
  obtain rfl : i = tl.length := by omega
  refine W_exit (tE (tE (bH (tN (W_rs (sm rfl rfl (sa rfl rfl (Wn (tN (W_ret ?_))))))))))
  rw [List.take_length]
  exact (rT rfl rfl ⟨rfl, hB1, hcw⟩).1
theorem U8_any (hs : s.length ≤ 1099511627776) (ha : at_ ≤ s.length) : Calls Tryz.prog 105 #[.pointer (some ⟨g, 0, none⟩)] w fun e w' =>
  e = .returned (.int .u8 ((takeM s at_ er 1).1.headD 0).toNat) ∧ Blk w' g 222 #[str s, .int .i64 (takeM s at_ er 1).2.1, .int .i64 (takeM s at_ er 1).2.2] ∧ Chg (fun k => k = g) w w' := by
 have hv : IntKind.u8.wrap ((leN (takeM s at_ er 1).1 : Nat) : Int) = ((takeM s at_ er 1).1.headD 0).toNat := by
  have h1 := takeM_len s at_ er 1
  generalize (takeM s at_ er 1).1 = t at h1 ⊢
  match t, h1 with
  | [], _ => rfl
  | [b], _ =>
   have := b.toNat_lt
   show IntKind.u8.wrap ((b.toNat + 256 * 0 : Nat) : Int) = (b.toNat : Int)
   rw [show b.toNat + 256 * 0 = b.toNat by omega]
   exact IntWalk.u8_in _ (by omega)
 have hT := fixed_any g s at_ er w hB 1 hs ha (by omega)
 refine W_enter (args := [.pointer (some ⟨g, 0, none⟩)]) 6 Tryz.func105 rfl rfl rfl (W_sub [(0, .pointer (some ⟨g, 0, none⟩))] ?_ ⟨rfl, trivial⟩)
 refine W_rs (sa rfl rfl (Wn (tN (W_rs (sm rfl rfl (sc _ Tryz.func146 rfl (by kernel_rfl) rfl rfl (hT.mono ?_)))))))
 rintro e_ w1 ⟨rfl, hB1, hX⟩
 refine cR (st (X.convI rfl Tryz.underlying165 Tryz.underlying5 hv) rfl (sa rfl rfl (Wn (tN (W_ret ?_)))))
 exact (rT rfl rfl ⟨rfl, hB1, hX⟩).1
theorem U32_any (hs : s.length ≤ 1099511627776) (ha : at_ ≤ s.length) : Calls Tryz.prog 109 #[.pointer (some ⟨g, 0, none⟩)] w fun e w' =>
  e = .returned (.int .u32 (leN (takeM s at_ er 4).1 : Nat)) ∧ Blk w' g 222 #[str s, .int .i64 (takeM s at_ er 4).2.1, .int .i64 (takeM s at_ er 4).2.2] ∧ Chg (fun k => k = g) w w' := by
 have hv : IntKind.u32.wrap ((leN (takeM s at_ er 4).1 : Nat) : Int) = (leN (takeM s at_ er 4).1 : Nat) := by
  have h1 := takeM_len s at_ er 4
  have h2 := leN_lt (takeM s at_ er 4).1
  have h3 : 2 ^ (8 * (takeM s at_ er 4).1.length) ≤ 2 ^ 32 := Nat.pow_le_pow_right (by omega) (by omega)
  exact IntWalk.u32_in _ (by omega)
 have hT := fixed_any g s at_ er w hB 4 hs ha (by omega)
 refine W_enter (args := [.pointer (some ⟨g, 0, none⟩)]) 6 Tryz.func109 rfl rfl rfl (W_sub [(0, .pointer (some ⟨g, 0, none⟩))] ?_ ⟨rfl, trivial⟩)
 refine W_rs (sa rfl rfl (Wn (tN (W_rs (sm rfl rfl (sc _ Tryz.func146 rfl (by kernel_rfl) rfl rfl (hT.mono ?_)))))))
 rintro e_ w1 ⟨rfl, hB1, hX⟩
 refine cR (st (X.convI rfl Tryz.underlying165 Tryz.underlying145 hv) rfl (sa rfl rfl (Wn (tN (W_ret ?_)))))
 exact (rT rfl rfl ⟨rfl, hB1, hX⟩).1
set_option maxRecDepth 10000 in
theorem Uvar_any (hs : s.length ≤ 1099511627776) (ha : at_ ≤ s.length) : Calls Tryz.prog 147 #[.pointer (some ⟨g, 0, none⟩)] w fun e w' =>
  e = .returned (.int .u64 (uvR s at_ er).1) ∧ Blk w' g 222 #[str s, .int .i64 (uvR s at_ er).2.1, .int .i64 (uvR s at_ er).2.2] ∧ Chg (fun k => k = g) w w' := by
 have hlt := hB.lt
 unfold uvR
 by_cases he : er ≠ 0
 ·simp only [if_pos he]
  refine W_enter (args := [.pointer (some ⟨g, 0, none⟩)]) 67 Tryz.func147 rfl rfl rfl (W_sub [(0, .pointer (some ⟨g, 0, none⟩))] ?_ ⟨rfl, trivial⟩)
  have hcw := Chg.refl (fun k => k = g) w
  refine W_rs (sa rfl rfl (Wn (tN (W_scope0 (W_seq (W_rs (sm rfl rfl (st (X.rdEq rfl) rfl (sbN rfl (rfl) rfl (gY (g := 9) rfl rfl rfl ?_))))))))))
  refine sm rfl rfl (gY (g := 9) rfl rfl rfl (st (X.nilChk rfl) rfl (gY (g := 9) rfl rfl rfl (st (X.fa fa222_2 rfl) rfl (gY (g := 9) rfl rfl rfl (st (X.ldL rfl hB Tryz.underlying26 rfl rfl) rfl (gY (g := 9) rfl rfl rfl (st (X.neq rfl rfl) rfl (st (X.pickF rfl rfl) rfl (Wn ?_))))))))))
  refine tN (W_yes rfl (decide_eq_true he) (W_rs (sa rfl rfl (Wn (tN (W_ret (tR (njR ?_))))))))
  exact (rT rfl rfl ⟨rfl, hB, hcw⟩).1
 simp only [if_neg he]
 obtain rfl : er = 0 := Classical.byContradiction he
 refine W_enter (args := [.pointer (some ⟨g, 0, none⟩)]) 67 Tryz.func147 rfl rfl rfl (W_sub [(0, .pointer (some ⟨g, 0, none⟩))] ?_ ⟨rfl, trivial⟩)
 have hcw := Chg.refl (fun k => k = g) w
 refine W_rs (sa rfl rfl (Wn (tN (W_scope 0 (fun nw1_ lw1_ w1 => ∃ i : Nat, ∃ x : Nat, nw1_ = 10 - i ∧ lw1_ = ([(0, .pointer (some ⟨g, 0, none⟩)), (3, .int .u64 x), (4, .int .i64 at_), (5, .int .i64 i)] : Env) ∧ (i ≤ 9) ∧ (x < 2 ^ (7 * i)) ∧ (uvM 0 0 (s.drop at_) = uvM i x (s.drop (at_ + i))) ∧ (Chg (fun k => k = g) w w1) ∧ (Blk w1 g 222 #[str s, .int .i64 (at_ + i : Nat), .int .i64 0]) ∧ (at_ + i ≤ s.length)) rfl ?_ ?_))))
 ·clear hcw hB
  rintro nw1_ lw1_ w1 ⟨i, x, rfl, rfl, hi, hx, heq, hcw, hB, hai⟩
  have hlt_hB_w1 := hB.lt
  refine W_rs (sm rfl rfl (sc _ Tryz.func105 rfl (by kernel_rfl) rfl rfl ((U8_any g s (at_ + i) 0 _ hB hs hai).mono ?_)))
  rintro e_ w2 ⟨rfl, hB1, hX⟩
  refine cR ?_
  have hn1 := hcw.next hX (fun k hk => .inl hk)
  obtain ⟨tk, htk⟩ : ∃ tk, takeM s (at_ + i) 0 1 = tk := ⟨_, rfl⟩
  rw [htk] at hB1
  rw [htk]
  obtain ⟨bb, hbb⟩ : ∃ bb, tk.1.headD 0 = bb := ⟨_, rfl⟩
  rw [hbb]
  obtain ⟨tl, ta, te⟩ := tk
  clear hcw hB
  have hcw := hn1
  have hB : Blk w2 g 222 #[str s, .int .i64 ta, .int .i64 te] := hB1
  clear hB1 hn1
  have ht1 := take1 htk
  refine sa rfl rfl (Wn (tN (W_seq (W_block (W_rs (sm rfl rfl (st (X.nilChk rfl) rfl (st (X.fa fa222_2 rfl) rfl (st (X.ldL rfl hB Tryz.underlying26 rfl rfl) rfl (st (X.neq rfl rfl) rfl ?_))))))))))
  refine sa rfl rfl (Wn (tN (W_if rfl (fun h22 => ?_) (fun h22 => ?_))))
  ·first | replace h22 := of_decide_eq_true h22 | replace h22 := of_decide_eq_false (notT h22) | replace h22 := notT h22 | skip
   obtain ⟨rfl, hdr, rfl, rfl⟩ := ht1.resolve_right (fun e => h22 e.1)
   have hres : uvM 0 0 (s.drop at_) = (0, 0, 10) := by rw [heq, hdr]; rfl
   rw [hres]
   refine W_goto (bG (tG (scO rfl rfl (W_skip_s (W_rs (sm rfl rfl (sm rfl rfl (st (X.nilChk rfl) rfl (st (X.fa fa222_2 rfl) rfl (st (X.ldL rfl hB Tryz.underlying26 rfl rfl) rfl (sm rfl rfl (sc _ Tryz.func148 rfl (by kernel_rfl) rfl rfl ((fail_any g s _ _ _ hB 10 at_).mono ?_)))))))))))))
   rintro e_ w3 ⟨rfl, hB1, hX⟩
   refine cR ?_
   have hn1 := hcw.next hX (fun k hk => .inl hk)
   clear hcw hB
   have hcw := hn1
   have hB := hB1
   refine Wn (tN (W_seq (W_rs (sa rfl rfl (Wn (tN (W_ret (tR (njR ?_)))))))))
   exact (rT rfl rfl ⟨rfl, hB, hcw⟩).1
  ·first | replace h22 := of_decide_eq_false h22 | replace h22 := of_decide_eq_true (notF h22) | replace h22 := notF h22 | skip
   obtain ⟨rfl, b, l', hdr, rfl, rfl, hlt2⟩ := ht1.resolve_left (fun e => by rw [e.1] at h22; exact absurd h22 (by decide))
   have hb8 := b.toNat_lt
   replace hbb : b = bb := hbb
   subst hbb
   refine W_rs (sm rfl rfl (st (X.eql rfl rfl) rfl (sb rfl rfl (fun h31 => ?_) (fun h31 => ?_))))
   ·first | replace h31 := of_decide_eq_true h31 | replace h31 := of_decide_eq_false (notT h31) | replace h31 := notT h31 | skip
    refine gY (g := 31) rfl rfl rfl (sm rfl rfl (gY (g := 31) rfl rfl rfl (st (X.gtr rfl rfl) rfl (st (X.pickT rfl rfl) rfl (sb rfl rfl (fun h35 => ?_) (fun h35 => ?_))))))
    ·first | replace h35 := of_decide_eq_true h35 | replace h35 := of_decide_eq_false (notT h35) | replace h35 := notT h35 | skip
     refine gN (g := 35) rfl rfl rfl rfl (gN (g := 35) rfl rfl rfl rfl (gN (g := 35) rfl rfl rfl rfl (gU (g := 38) rfl rfl rfl rfl (gU (g := 38) rfl rfl rfl rfl (gN (g := 35) rfl rfl rfl rfl (st (X.pickT rfl rfl) rfl (sa rfl rfl (Wn (tN (W_yes rfl (rfl) ?_))))))))))
     refine W_goto (bG (tG (scO rfl rfl (W_skip_s (W_rs (sm rfl rfl (sm rfl rfl ?_)))))))
     have hres : uvM 0 0 (s.drop at_) = (0, 0, 12) := by
      rw [heq, hdr]
      unfold uvM
      rw [if_pos (by omega)]
     rw [hres]
     refine sc _ Tryz.func148 rfl (by kernel_rfl) rfl rfl ((fail_any g s _ _ _ hB 12 at_).mono ?_)
     rintro e_ w4 ⟨rfl, hB1, hX⟩
     refine cR ?_
     have hn1 := hcw.next hX (fun k hk => .inl hk)
     clear hcw hB
     have hcw := hn1
     have hB := hB1
     refine Wn (tN (W_rs (sa rfl rfl (Wn (tN (W_ret (njR ?_)))))))
     exact (rT rfl rfl ⟨rfl, hB, hcw⟩).1
    ·first | replace h35 := of_decide_eq_false h35 | replace h35 := of_decide_eq_true (notF h35) | replace h35 := notF h35 | skip
     refine gY (g := 35) rfl rfl rfl (sm rfl rfl (gY (g := 35) rfl rfl rfl (st (X.gtr rfl rfl) rfl (gY (g := 35) rfl rfl rfl (sb rfl rfl (fun h38 => ?_) (fun h38 => ?_))))))
     ·first | replace h38 := of_decide_eq_true h38 | replace h38 := of_decide_eq_false (notT h38) | replace h38 := notT h38 | skip
      refine gY (g := 38) rfl rfl rfl (sm rfl rfl (gY (g := 38) rfl rfl rfl (st (X.eql rfl rfl) rfl (gY (g := 35) rfl rfl rfl (st (X.pickT rfl rfl) rfl (st (X.pickF rfl rfl) rfl (sa rfl rfl (Wn (tN (W_if rfl (fun h28 => ?_) (fun h28 => ?_)))))))))))
      ·first | replace h28 := of_decide_eq_true h28 | replace h28 := of_decide_eq_false (notT h28) | replace h28 := notT h28 | skip
       refine W_goto (bG (tG (scO rfl rfl (W_skip_s (W_rs (sm rfl rfl (sm rfl rfl ?_)))))))
       have hres : uvM 0 0 (s.drop at_) = (0, 0, 12) := by
        rw [heq, hdr]
        unfold uvM
        rw [if_pos (by omega)]
       rw [hres]
       refine sc _ Tryz.func148 rfl (by kernel_rfl) rfl rfl ((fail_any g s _ _ _ hB 12 at_).mono ?_)
       rintro e_ w5 ⟨rfl, hB1, hX⟩
       refine cR ?_
       have hn1 := hcw.next hX (fun k hk => .inl hk)
       clear hcw hB
       have hcw := hn1
       have hB := hB1
       refine Wn (tN (W_rs (sa rfl rfl (Wn (tN (W_ret (njR ?_)))))))
       exact (rT rfl rfl ⟨rfl, hB, hcw⟩).1
      ·first | replace h28 := of_decide_eq_false h28 | replace h28 := of_decide_eq_true (notF h28) | replace h28 := notF h28 | skip
       refine W_skip (bN (tN (W_rs ?_)))
       have hno : ¬ ((i = 9 ∧ 1 < b.toNat) ∨ (0 < i ∧ b.toNat = 0)) := by omega
       have hmul : ((b.toNat % 128 : Nat) : Int) * ((2 ^ (7 * i) : Nat) : Int) = ((b.toNat % 128 * 2 ^ (7 * i) : Nat) : Int) := by rw [Int.natCast_mul]
       have hsh : b.toNat % 128 * 2 ^ (7 * i) + 2 ^ (7 * i) ≤ 18446744073709551616 := sh_bound hi (by omega) (by omega)
       refine sm rfl rfl (sm rfl rfl (st (X.bits (z := ((b.toNat % 128 : Nat) : Int)) (by simp) rfl rfl (and127 b)) rfl ?_))
       refine st (X.convI (m := ((b.toNat % 128 : Nat) : Int)) (z := ((b.toNat % 128 : Nat) : Int)) rfl Tryz.underlying5 Tryz.underlying165 (IntWalk.u64_in _ (by omega))) rfl (sm rfl rfl (st (X.mul64 rfl rfl (by omega)) rfl (st (X.convI (m := 7 * (i : Int)) (z := 7 * (i : Int)) rfl Tryz.underlying3 Tryz.underlying173 (IntWalk.u64_in _ (by omega))) rfl (st (X.shl (s := 7 * i) (q := ((2 ^ (7 * i) : Nat) : Int)) (z := ((b.toNat % 128 : Nat) : Int) * ((2 ^ (7 * i) : Nat) : Int)) rfl rfl (by omega) (by show 7 * (i : Int) ≤ 64; omega) (by omega) (by simp) (by rw [hmul]; exact IntWalk.u64_in _ (by omega))) rfl ?_))))
       refine st (X.bits (by simp) rfl rfl (or_add64 _ _ _ hx (by omega))) rfl ?_
       refine sa rfl rfl (Wn (tN (W_seq (W_rs (sm rfl rfl (st (X.geq rfl rfl) rfl (Wn (tN (W_if rfl (fun h53 => ?_) (fun h53 => ?_))))))))))
       ·first | replace h53 := of_decide_eq_true h53 | replace h53 := of_decide_eq_false (notT h53) | replace h53 := notT h53 | skip
        have hxn : x + (b.toNat - 128) * 2 ^ (7 * i) < 2 ^ (7 * (i + 1)) := sh_next hx (by omega)
        have heqn : uvM 0 0 (s.drop at_) = uvM (i + 1) (x + (b.toNat - 128) * 2 ^ (7 * i)) (s.drop (at_ + (i + 1))) := by
         rw [heq, hdr]
         have hd2 : s.drop (at_ + (i + 1)) = l' := by rw [← Nat.add_assoc, ← List.drop_drop, hdr]; rfl
         rw [hd2]
         conv => lhs; unfold uvM
         rw [if_neg hno, if_neg (by omega)]
        have hBn : Blk w2 g 222 #[str s, .int .i64 (at_ + (i + 1) : Nat), .int .i64 0] := hB
        refine W_rs (sm rfl rfl (st (X.add64 rfl rfl (by omega)) rfl (sa rfl rfl (Wn (tN (W_goto (tG (scA ⟨_, _, ?_, ⟨i + 1, x + (b.toNat - 128) * 2 ^ (7 * i), rfl, rfl, by omega, hxn, heqn, hcw, hBn, by omega⟩, ⟨rfl, by rw [show b.toNat % 128 = b.toNat - 128 by omega]; rfl, rfl, rfl, trivial⟩⟩))))))))
        omega
       ·first | replace h53 := of_decide_eq_false h53 | replace h53 := of_decide_eq_true (notF h53) | replace h53 := notF h53 | skip
        have hres : uvM 0 0 (s.drop at_) = (x + b.toNat * 2 ^ (7 * i), i + 1, 0) := by
         rw [heq, hdr]
         unfold uvM
         rw [if_neg hno, if_pos (by omega)]
        rw [hres]
        have hbm : b.toNat % 128 = b.toNat := by omega
        refine W_skip (tN (W_seq (W_rs (sm rfl rfl (sa rfl rfl (Wn (tN (W_ret (tR (scR ?_))))))))))
        rw [hbm]
        exact (rT rfl rfl ⟨rfl, hB, hcw⟩).1
     ·first | replace h38 := of_decide_eq_false h38 | replace h38 := of_decide_eq_true (notF h38) | replace h38 := notF h38 | skip
      refine gN (g := 38) rfl rfl rfl rfl (gN (g := 38) rfl rfl rfl rfl (gY (g := 35) rfl rfl rfl (st (X.pickF rfl rfl) rfl (st (X.pickF rfl rfl) rfl (sa rfl rfl (Wn (tN (W_no rfl (rfl) (W_skip (bN ?_))))))))))
      refine tN (W_rs ?_)
      have hno : ¬ ((i = 9 ∧ 1 < b.toNat) ∨ (0 < i ∧ b.toNat = 0)) := by omega
      have hmul : ((b.toNat % 128 : Nat) : Int) * ((2 ^ (7 * i) : Nat) : Int) = ((b.toNat % 128 * 2 ^ (7 * i) : Nat) : Int) := by rw [Int.natCast_mul]
      have hsh : b.toNat % 128 * 2 ^ (7 * i) + 2 ^ (7 * i) ≤ 18446744073709551616 := sh_bound hi (by omega) (by omega)
      refine sm rfl rfl (sm rfl rfl (st (X.bits (z := ((b.toNat % 128 : Nat) : Int)) (by simp) rfl rfl (and127 b)) rfl ?_))
      refine st (X.convI (m := ((b.toNat % 128 : Nat) : Int)) (z := ((b.toNat % 128 : Nat) : Int)) rfl Tryz.underlying5 Tryz.underlying165 (IntWalk.u64_in _ (by omega))) rfl (sm rfl rfl (st (X.mul64 rfl rfl (by omega)) rfl (st (X.convI (m := 7 * (i : Int)) (z := 7 * (i : Int)) rfl Tryz.underlying3 Tryz.underlying173 (IntWalk.u64_in _ (by omega))) rfl (st (X.shl (s := 7 * i) (q := ((2 ^ (7 * i) : Nat) : Int)) (z := ((b.toNat % 128 : Nat) : Int) * ((2 ^ (7 * i) : Nat) : Int)) rfl rfl (by omega) (by show 7 * (i : Int) ≤ 64; omega) (by omega) (by simp) (by rw [hmul]; exact IntWalk.u64_in _ (by omega))) rfl ?_))))
      refine st (X.bits (by simp) rfl rfl (or_add64 _ _ _ hx (by omega))) rfl ?_
      refine sa rfl rfl (Wn (tN (W_seq (W_rs (sm rfl rfl (st (X.geq rfl rfl) rfl (Wn (tN (W_if rfl (fun h53 => ?_) (fun h53 => ?_))))))))))
      ·first | replace h53 := of_decide_eq_true h53 | replace h53 := of_decide_eq_false (notT h53) | replace h53 := notT h53 | skip
       have hxn : x + (b.toNat - 128) * 2 ^ (7 * i) < 2 ^ (7 * (i + 1)) := sh_next hx (by omega)
       have heqn : uvM 0 0 (s.drop at_) = uvM (i + 1) (x + (b.toNat - 128) * 2 ^ (7 * i)) (s.drop (at_ + (i + 1))) := by
        rw [heq, hdr]
        have hd2 : s.drop (at_ + (i + 1)) = l' := by rw [← Nat.add_assoc, ← List.drop_drop, hdr]; rfl
        rw [hd2]
        conv => lhs; unfold uvM
        rw [if_neg hno, if_neg (by omega)]
       have hBn : Blk w2 g 222 #[str s, .int .i64 (at_ + (i + 1) : Nat), .int .i64 0] := hB
       refine W_rs (sm rfl rfl (st (X.add64 rfl rfl (by omega)) rfl (sa rfl rfl (Wn (tN (W_goto (tG (scA ⟨_, _, ?_, ⟨i + 1, x + (b.toNat - 128) * 2 ^ (7 * i), rfl, rfl, by omega, hxn, heqn, hcw, hBn, by omega⟩, ⟨rfl, by rw [show b.toNat % 128 = b.toNat - 128 by omega]; rfl, rfl, rfl, trivial⟩⟩))))))))
       omega
      ·first | replace h53 := of_decide_eq_false h53 | replace h53 := of_decide_eq_true (notF h53) | replace h53 := notF h53 | skip
       have hres : uvM 0 0 (s.drop at_) = (x + b.toNat * 2 ^ (7 * i), i + 1, 0) := by
        rw [heq, hdr]
        unfold uvM
        rw [if_neg hno, if_pos (by omega)]
       rw [hres]
       have hbm : b.toNat % 128 = b.toNat := by omega
       refine W_skip (tN (W_seq (W_rs (sm rfl rfl (sa rfl rfl (Wn (tN (W_ret (tR (scR ?_))))))))))
       rw [hbm]
       exact (rT rfl rfl ⟨rfl, hB, hcw⟩).1
   ·first | replace h31 := of_decide_eq_false h31 | replace h31 := of_decide_eq_true (notF h31) | replace h31 := notF h31 | skip
    refine gN (g := 31) rfl rfl rfl rfl (gN (g := 31) rfl rfl rfl rfl (st (X.pickF rfl rfl) rfl (sm rfl rfl (gY (g := 35) rfl rfl rfl (sm rfl rfl (gY (g := 35) rfl rfl rfl (st (X.gtr rfl rfl) rfl (gY (g := 35) rfl rfl rfl (sb rfl rfl (fun h38 => ?_) (fun h38 => ?_))))))))))
    ·first | replace h38 := of_decide_eq_true h38 | replace h38 := of_decide_eq_false (notT h38) | replace h38 := notT h38 | skip
     refine gY (g := 38) rfl rfl rfl (sm rfl rfl (gY (g := 38) rfl rfl rfl (st (X.eql rfl rfl) rfl (gY (g := 35) rfl rfl rfl (st (X.pickT rfl rfl) rfl (st (X.pickF rfl rfl) rfl (sa rfl rfl (Wn (tN (W_if rfl (fun h28 => ?_) (fun h28 => ?_)))))))))))
     ·first | replace h28 := of_decide_eq_true h28 | replace h28 := of_decide_eq_false (notT h28) | replace h28 := notT h28 | skip
      refine W_goto (bG (tG (scO rfl rfl (W_skip_s (W_rs (sm rfl rfl (sm rfl rfl ?_)))))))
      have hres : uvM 0 0 (s.drop at_) = (0, 0, 12) := by
       rw [heq, hdr]
       unfold uvM
       rw [if_pos (by omega)]
      rw [hres]
      refine sc _ Tryz.func148 rfl (by kernel_rfl) rfl rfl ((fail_any g s _ _ _ hB 12 at_).mono ?_)
      rintro e_ w6 ⟨rfl, hB1, hX⟩
      refine cR ?_
      have hn1 := hcw.next hX (fun k hk => .inl hk)
      clear hcw hB
      have hcw := hn1
      have hB := hB1
      refine Wn (tN (W_rs (sa rfl rfl (Wn (tN (W_ret (njR ?_)))))))
      exact (rT rfl rfl ⟨rfl, hB, hcw⟩).1
     ·first | replace h28 := of_decide_eq_false h28 | replace h28 := of_decide_eq_true (notF h28) | replace h28 := notF h28 | skip
      refine W_skip (bN (tN (W_rs ?_)))
      have hno : ¬ ((i = 9 ∧ 1 < b.toNat) ∨ (0 < i ∧ b.toNat = 0)) := by omega
      have hmul : ((b.toNat % 128 : Nat) : Int) * ((2 ^ (7 * i) : Nat) : Int) = ((b.toNat % 128 * 2 ^ (7 * i) : Nat) : Int) := by rw [Int.natCast_mul]
      have hsh : b.toNat % 128 * 2 ^ (7 * i) + 2 ^ (7 * i) ≤ 18446744073709551616 := sh_bound hi (by omega) (by omega)
      refine sm rfl rfl (sm rfl rfl (st (X.bits (z := ((b.toNat % 128 : Nat) : Int)) (by simp) rfl rfl (and127 b)) rfl ?_))
      refine st (X.convI (m := ((b.toNat % 128 : Nat) : Int)) (z := ((b.toNat % 128 : Nat) : Int)) rfl Tryz.underlying5 Tryz.underlying165 (IntWalk.u64_in _ (by omega))) rfl (sm rfl rfl (st (X.mul64 rfl rfl (by omega)) rfl (st (X.convI (m := 7 * (i : Int)) (z := 7 * (i : Int)) rfl Tryz.underlying3 Tryz.underlying173 (IntWalk.u64_in _ (by omega))) rfl (st (X.shl (s := 7 * i) (q := ((2 ^ (7 * i) : Nat) : Int)) (z := ((b.toNat % 128 : Nat) : Int) * ((2 ^ (7 * i) : Nat) : Int)) rfl rfl (by omega) (by show 7 * (i : Int) ≤ 64; omega) (by omega) (by simp) (by rw [hmul]; exact IntWalk.u64_in _ (by omega))) rfl ?_))))
      refine st (X.bits (by simp) rfl rfl (or_add64 _ _ _ hx (by omega))) rfl ?_
      refine sa rfl rfl (Wn (tN (W_seq (W_rs (sm rfl rfl (st (X.geq rfl rfl) rfl (Wn (tN (W_if rfl (fun h53 => ?_) (fun h53 => ?_))))))))))
      ·first | replace h53 := of_decide_eq_true h53 | replace h53 := of_decide_eq_false (notT h53) | replace h53 := notT h53 | skip
       have hxn : x + (b.toNat - 128) * 2 ^ (7 * i) < 2 ^ (7 * (i + 1)) := sh_next hx (by omega)
       have heqn : uvM 0 0 (s.drop at_) = uvM (i + 1) (x + (b.toNat - 128) * 2 ^ (7 * i)) (s.drop (at_ + (i + 1))) := by
        rw [heq, hdr]
        have hd2 : s.drop (at_ + (i + 1)) = l' := by rw [← Nat.add_assoc, ← List.drop_drop, hdr]; rfl
        rw [hd2]
        conv => lhs; unfold uvM
        rw [if_neg hno, if_neg (by omega)]
       have hBn : Blk w2 g 222 #[str s, .int .i64 (at_ + (i + 1) : Nat), .int .i64 0] := hB
       refine W_rs (sm rfl rfl (st (X.add64 rfl rfl (by omega)) rfl (sa rfl rfl (Wn (tN (W_goto (tG (scA ⟨_, _, ?_, ⟨i + 1, x + (b.toNat - 128) * 2 ^ (7 * i), rfl, rfl, by omega, hxn, heqn, hcw, hBn, by omega⟩, ⟨rfl, by rw [show b.toNat % 128 = b.toNat - 128 by omega]; rfl, rfl, rfl, trivial⟩⟩))))))))
       omega
      ·first | replace h53 := of_decide_eq_false h53 | replace h53 := of_decide_eq_true (notF h53) | replace h53 := notF h53 | skip
       have hres : uvM 0 0 (s.drop at_) = (x + b.toNat * 2 ^ (7 * i), i + 1, 0) := by
        rw [heq, hdr]
        unfold uvM
        rw [if_neg hno, if_pos (by omega)]
       rw [hres]
       have hbm : b.toNat % 128 = b.toNat := by omega
       refine W_skip (tN (W_seq (W_rs (sm rfl rfl (sa rfl rfl (Wn (tN (W_ret (tR (scR ?_))))))))))
       rw [hbm]
       exact (rT rfl rfl ⟨rfl, hB, hcw⟩).1
    ·first | replace h38 := of_decide_eq_false h38 | replace h38 := of_decide_eq_true (notF h38) | replace h38 := notF h38 | skip
     refine gN (g := 38) rfl rfl rfl rfl (gN (g := 38) rfl rfl rfl rfl (gY (g := 35) rfl rfl rfl (st (X.pickF rfl rfl) rfl (st (X.pickF rfl rfl) rfl (sa rfl rfl (Wn (tN (W_no rfl (rfl) (W_skip (bN ?_))))))))))
     refine tN (W_rs ?_)
     have hno : ¬ ((i = 9 ∧ 1 < b.toNat) ∨ (0 < i ∧ b.toNat = 0)) := by omega
     have hmul : ((b.toNat % 128 : Nat) : Int) * ((2 ^ (7 * i) : Nat) : Int) = ((b.toNat % 128 * 2 ^ (7 * i) : Nat) : Int) := by rw [Int.natCast_mul]
     have hsh : b.toNat % 128 * 2 ^ (7 * i) + 2 ^ (7 * i) ≤ 18446744073709551616 := sh_bound hi (by omega) (by omega)
     refine sm rfl rfl (sm rfl rfl (st (X.bits (z := ((b.toNat % 128 : Nat) : Int)) (by simp) rfl rfl (and127 b)) rfl ?_))
     refine st (X.convI (m := ((b.toNat % 128 : Nat) : Int)) (z := ((b.toNat % 128 : Nat) : Int)) rfl Tryz.underlying5 Tryz.underlying165 (IntWalk.u64_in _ (by omega))) rfl (sm rfl rfl (st (X.mul64 rfl rfl (by omega)) rfl (st (X.convI (m := 7 * (i : Int)) (z := 7 * (i : Int)) rfl Tryz.underlying3 Tryz.underlying173 (IntWalk.u64_in _ (by omega))) rfl (st (X.shl (s := 7 * i) (q := ((2 ^ (7 * i) : Nat) : Int)) (z := ((b.toNat % 128 : Nat) : Int) * ((2 ^ (7 * i) : Nat) : Int)) rfl rfl (by omega) (by show 7 * (i : Int) ≤ 64; omega) (by omega) (by simp) (by rw [hmul]; exact IntWalk.u64_in _ (by omega))) rfl ?_))))
     refine st (X.bits (by simp) rfl rfl (or_add64 _ _ _ hx (by omega))) rfl ?_
     refine sa rfl rfl (Wn (tN (W_seq (W_rs (sm rfl rfl (st (X.geq rfl rfl) rfl (Wn (tN (W_if rfl (fun h53 => ?_) (fun h53 => ?_))))))))))
     ·first | replace h53 := of_decide_eq_true h53 | replace h53 := of_decide_eq_false (notT h53) | replace h53 := notT h53 | skip
      have hxn : x + (b.toNat - 128) * 2 ^ (7 * i) < 2 ^ (7 * (i + 1)) := sh_next hx (by omega)
      have heqn : uvM 0 0 (s.drop at_) = uvM (i + 1) (x + (b.toNat - 128) * 2 ^ (7 * i)) (s.drop (at_ + (i + 1))) := by
       rw [heq, hdr]
       have hd2 : s.drop (at_ + (i + 1)) = l' := by rw [← Nat.add_assoc, ← List.drop_drop, hdr]; rfl
       rw [hd2]
       conv => lhs; unfold uvM
       rw [if_neg hno, if_neg (by omega)]
      have hBn : Blk w2 g 222 #[str s, .int .i64 (at_ + (i + 1) : Nat), .int .i64 0] := hB
      refine W_rs (sm rfl rfl (st (X.add64 rfl rfl (by omega)) rfl (sa rfl rfl (Wn (tN (W_goto (tG (scA ⟨_, _, ?_, ⟨i + 1, x + (b.toNat - 128) * 2 ^ (7 * i), rfl, rfl, by omega, hxn, heqn, hcw, hBn, by omega⟩, ⟨rfl, by rw [show b.toNat % 128 = b.toNat - 128 by omega]; rfl, rfl, rfl, trivial⟩⟩))))))))
      omega
     ·first | replace h53 := of_decide_eq_false h53 | replace h53 := of_decide_eq_true (notF h53) | replace h53 := notF h53 | skip
      have hres : uvM 0 0 (s.drop at_) = (x + b.toNat * 2 ^ (7 * i), i + 1, 0) := by
       rw [heq, hdr]
       unfold uvM
       rw [if_neg hno, if_pos (by omega)]
      rw [hres]
      have hbm : b.toNat % 128 = b.toNat := by omega
      refine W_skip (tN (W_seq (W_rs (sm rfl rfl (sa rfl rfl (Wn (tN (W_ret (tR (scR ?_))))))))))
      rw [hbm]
      exact (rT rfl rfl ⟨rfl, hB, hcw⟩).1
 ·intro hpass_
  refine W_seq (W_rs (sm rfl rfl (st (X.rdEq rfl) rfl (sbN rfl (rfl) rfl (gY (g := 9) rfl rfl rfl (sm rfl rfl (gY (g := 9) rfl rfl rfl (st (X.nilChk rfl) rfl (gY (g := 9) rfl rfl rfl (st (X.fa fa222_2 rfl) rfl ?_))))))))))
  refine gY (g := 9) rfl rfl rfl (st (X.ldL rfl hB Tryz.underlying26 rfl rfl) rfl (gY (g := 9) rfl rfl rfl (st (X.neq rfl rfl) rfl (st (X.pickF rfl rfl) rfl (Wn (tN (W_no rfl (rfl) (W_skip (tN (W_rs ?_))))))))))
  refine sa rfl rfl (Wn (tN (W_rs (sm rfl rfl (st (X.nilChk rfl) rfl (st (X.fa fa222_1 rfl) rfl (st (X.ldL rfl hB Tryz.underlying3 rfl rfl) rfl (sa rfl rfl (sa rfl rfl (Wn ?_))))))))))
  refine tN (W_label_s (W_sub _ (hpass_ _ _ _ ⟨0, 0, rfl, rfl, by omega, by simp, rfl, hcw, hB, ha⟩) ⟨rfl, rfl, rfl, rfl, trivial⟩))
omit hB in
theorem Text_any (most : Nat) (hm : most ≤ 1099511627776) (hB : Blk w g 222 #[str s, .int .i64 at_, .int .i64 0]) (hs : s.length ≤ 1099511627776) (ha : at_ ≤ s.length) : Calls Tryz.prog 107 #[.pointer (some ⟨g, 0, none⟩), .int .i64 most] w fun e w' =>
  e = .returned (str (textR s at_ most).1) ∧ Blk w' g 222 #[str s, .int .i64 (textR s at_ most).2.1, .int .i64 (textR s at_ most).2.2] ∧ Chg (fun k => k = g) w w' := by
 have hlt := hB.lt
 have hU := Uvar_any g s at_ 0 w hB hs ha
 have hua := uvR_at (e := 0) ha
 unfold textR
 obtain ⟨u, hu⟩ : ∃ u, uvR s at_ 0 = u := ⟨_, rfl⟩
 rw [hu] at hU hua ⊢
 obtain ⟨n, a1, e1⟩ := u
 replace hua : a1 ≤ s.length := hua
 simp only
 refine W_enter (args := [.pointer (some ⟨g, 0, none⟩), .int .i64 most]) 40 Tryz.func107 rfl rfl rfl (W_sub [(0, .pointer (some ⟨g, 0, none⟩)), (1, .int .i64 most)] ?_ ⟨rfl, rfl, trivial⟩)
 have hcw := Chg.refl (fun k => k = g) w
 refine W_rs (sa rfl rfl (Wn (tN (W_rs (sm rfl rfl (sc _ Tryz.func108 rfl (by kernel_rfl) rfl rfl ((At_any g s at_ 0 _ hB).mono ?_)))))))
 rintro e_ w_ ⟨rfl, rfl⟩
 refine cR (sa rfl rfl (Wn (tN (W_rs (sm rfl rfl (sc _ Tryz.func147 rfl (by kernel_rfl) rfl rfl (hU.mono ?_)))))))
 rintro e_ w1 ⟨rfl, hB1, hX⟩
 refine cR ?_
 have hn1 := hcw.next hX (fun k hk => .inl hk)
 clear hcw hB
 have hcw := hn1
 have hB : Blk w1 g 222 #[str s, .int .i64 a1, .int .i64 e1] := hB1
 clear hB1 hn1
 refine sa rfl rfl (Wn (tN (W_seq (W_block (W_rs (sm rfl rfl (sc _ Tryz.func106 rfl (by kernel_rfl) rfl rfl ((Err_any g s a1 e1 _ hB).mono ?_))))))))
 rintro e_ w_ ⟨rfl, rfl⟩
 refine cR (st (X.neq rfl rfl) rfl (sa rfl rfl (Wn (tN (W_if rfl (fun h11 => ?_) (fun h11 => ?_))))))
 ·first | replace h11 := of_decide_eq_true h11 | replace h11 := of_decide_eq_false (notT h11) | replace h11 := notT h11 | skip
  rw [if_pos h11]
  refine W_rs (sa rfl rfl (Wn (tN (W_ret (bR (tR ?_))))))
  exact (rT rfl rfl ⟨rfl, hB, hcw⟩).1
 ·first | replace h11 := of_decide_eq_false h11 | replace h11 := of_decide_eq_true (notF h11) | replace h11 := notF h11 | skip
  rw [if_neg h11]
  obtain rfl : e1 = 0 := Classical.byContradiction h11
  refine W_rs (sm rfl rfl (st (X.lss rfl rfl) rfl (sbN rfl (decide_eq_false (by omega)) rfl (gY (g := 18) rfl rfl rfl (sm rfl rfl (gY (g := 18) rfl rfl rfl (sm rfl rfl (gY (g := 18) rfl rfl rfl (st (X.convI (m := (most : Int)) (z := (most : Int)) rfl Tryz.underlying3 Tryz.underlying165 (IntWalk.u64_in _ (by omega))) rfl (gY (g := 18) rfl rfl rfl ?_))))))))))
  refine st (X.gtr rfl rfl) rfl (st (X.pickF rfl rfl) rfl (sa rfl rfl (Wn (tN (W_if rfl (fun h15 => ?_) (fun h15 => ?_))))))
  ·first | replace h15 := of_decide_eq_true h15 | replace h15 := of_decide_eq_false (notT h15) | replace h15 := notT h15 | skip
   rw [if_pos (by have : (most : Int) < (n : Int) := h15; omega)]
   refine W_rs (sm rfl rfl (sm rfl rfl (sc _ Tryz.func148 rfl (by kernel_rfl) rfl rfl ((fail_any g s _ _ _ hB 12 at_).mono ?_))))
   rintro e_ w2 ⟨rfl, hB1, hX⟩
   refine cR ?_
   have hn1 := hcw.next hX (fun k hk => .inl hk)
   clear hcw hB
   have hcw := hn1
   have hB := hB1
   refine Wn (tN (W_rs (sa rfl rfl (Wn (tN (W_ret (bR (tR ?_))))))))
   exact (rT rfl rfl ⟨rfl, hB, hcw⟩).1
  ·first | replace h15 := of_decide_eq_false h15 | replace h15 := of_decide_eq_true (notF h15) | replace h15 := notF h15 | skip
   have hnm : n ≤ most := by have : ¬ (most : Int) < (n : Int) := h15; omega
   rw [if_neg (by omega)]
   refine W_rs (sm rfl rfl (sm rfl rfl (sc _ Tryz.func149 rfl (by kernel_rfl) rfl rfl ((Left_any g s a1 0 _ hB hs hua).mono ?_))))
   rintro e_ w3 ⟨rfl, hb⟩
   refine cR ?_
   replace hcw := hcw.then_below hb
   replace hB := hB.bel hb
   have hz_w3 := hb.size
   clear hb
   refine st (X.convI (m := ((s.length - a1 : Nat) : Int)) (z := ((s.length - a1 : Nat) : Int)) rfl Tryz.underlying3 Tryz.underlying165 (IntWalk.u64_in _ (by omega))) rfl (st (X.gtr rfl rfl) rfl (sa rfl rfl (Wn (tN (W_if rfl (fun h27 => ?_) (fun h27 => ?_))))))
   ·first | replace h27 := of_decide_eq_true h27 | replace h27 := of_decide_eq_false (notT h27) | replace h27 := notT h27 | skip
    rw [if_pos (by have : ((s.length - a1 : Nat) : Int) < (n : Int) := h27; omega)]
    refine W_rs (sm rfl rfl (sm rfl rfl (sc _ Tryz.func148 rfl (by kernel_rfl) rfl rfl ((fail_any g s _ _ _ hB 10 at_).mono ?_))))
    rintro e_ w4 ⟨rfl, hB1, hX⟩
    refine cR ?_
    have hn1 := hcw.next hX (fun k hk => .inl hk)
    clear hcw hB
    have hcw := hn1
    have hB := hB1
    refine Wn (tN (W_rs (sa rfl rfl (Wn (tN (W_ret (bR (tR ?_))))))))
    exact (rT rfl rfl ⟨rfl, hB, hcw⟩).1
   ·first | replace h27 := of_decide_eq_false h27 | replace h27 := of_decide_eq_true (notF h27) | replace h27 := notF h27 | skip
    rw [if_neg (by have : ¬ ((s.length - a1 : Nat) : Int) < (n : Int) := h27; omega)]
    refine W_skip (bN (tN (W_rs (sm rfl rfl (sm rfl rfl (st (X.convI (m := (n : Int)) (z := (n : Int)) rfl Tryz.underlying165 Tryz.underlying3 (w64 (by omega))) rfl (sc _ Tryz.func150 rfl (by kernel_rfl) rfl rfl ((take_any g s a1 0 _ hB n hs hua (by omega)).mono ?_))))))))
    rintro e_ w5 ⟨rfl, hB1, hX⟩
    refine cR ?_
    have hn1 := hcw.next hX (fun k hk => .inl hk)
    clear hcw hB
    have hcw := hn1
    have hB := hB1
    refine sa rfl rfl (Wn (tN (W_ret ?_)))
    exact (rT rfl rfl ⟨rfl, hB, hcw⟩).1
end
end Go.Proofs.YtnlabkogebnioaaGreatDoor
namespace Go.Proofs.YtnlabkogebnioaaGreatDoor
open Go.RowKit
section
variable {P : Program} {fn : Func} {R : Ending → World → Prop} {l : Env} {w : World}
theorem r4 {x y z u : ResultVar} {v1 v2 v3 v4 : Value} (hf : fn.results = #[x, y, z, u]) (hx : ResVar P l w x v1) (hy : ResVar P l w y v2) (hz : ResVar P l w z v3) (hu : ResVar P l w u v4) (hR : R (.returned (.tuple #[v1, v2, v3, v4])) w) : fnPost P fn R .ret l w ∧ fnPost P fn R .normal l w := by
 have h : ∃ v, (∀ a : Array Value, (∀ t v, lk l t = some v → a.getD t undef = v) → (results fn a).run P w = .ok v w) ∧ R (.returned v) w := ⟨.tuple #[v1, v2, v3, v4], fun a ha => by
  have h1 := run_resVar hx a ha
  have h2 := run_resVar hy a ha
  have h3 := run_resVar hz a ha
  have h4 := run_resVar hu a ha
  rw [results_eq, hf]
  simp only [List.mapM_toArray, List.mapM_cons, List.mapM_nil, Sem.run_bind, Sem.run_pure, map_eq_pure_bind]
  simp only [h1, h2, h3, h4, Result.andThen_ok]
  rfl, hR⟩
 exact ⟨h, h⟩
theorem r4T {t t2 t3 t4 : Nat} {v v2 v3 v4 : Value} (hf : fn.results = #[.tmp t, .tmp t2, .tmp t3, .tmp t4]) (hx : lk l t = some v) (hy : lk l t2 = some v2) (hz : lk l t3 = some v3) (hu : lk l t4 = some v4) (hR : R (.returned (.tuple #[v, v2, v3, v4])) w) : fnPost P fn R .ret l w ∧ fnPost P fn R .normal l w := r4 hf hx hy hz hu hR
end
def nextM (s : List UInt8) : UInt8 × List UInt8 × Nat × Int :=
  if s = [] then (0, [], 0, 10) else if s.headD 0 = 0 then (0, [], 0, 14)
  else if (textR s 1 1048576).2.2 ≠ 0 then (0, [], 0, (textR s 1 1048576).2.2)
  else if s.length - (textR s 1 1048576).2.1 < 4 then (0, [], 0, 10)
  else if leN ((s.drop (textR s 1 1048576).2.1).take 4) ≠ (Crc.crc (s.take (textR s 1 1048576).2.1)).toNat then (0, [], 0, 13)
  else (s.headD 0, (textR s 1 1048576).1, (textR s 1 1048576).2.1 + 4, 0)
def nextV (x : UInt8 × List UInt8 × Nat × Int) : Value := .tuple #[.int .u8 x.1.toNat, str x.2.1, .int .i64 x.2.2.1, .int .i64 x.2.2.2]
theorem takeM_at {s : List UInt8} {a : Nat} {e : Int} {n : Nat} (h : a ≤ s.length) : (takeM s a e n).2.1 ≤ s.length := by
 unfold takeM
 split
 ·exact h
 ·split
  ·exact h
  ·simp only
   omega
theorem textR_at {s : List UInt8} {a m : Nat} (h : a ≤ s.length) : (textR s a m).2.1 ≤ s.length := by
 have hu := uvR_at (e := 0) h
 unfold textR
 split
 ·exact hu
 ·split
  ·exact h
  ·split
   ·exact h
   ·exact takeM_at hu
theorem take_cases {s ul : List UInt8} {a ua n : Nat} {e ue : Int} (h : takeM s a e n = (ul, ua, ue)) : (e ≠ 0 ∧ ue = e) ∨ (e = 0 ∧ s.length - a < n ∧ ue = 10) ∨ (e = 0 ∧ ¬ s.length - a < n ∧ ue = 0 ∧ ul = (s.drop a).take n ∧ ua = a + n) := by
 unfold takeM at h
 by_cases he : e ≠ 0
 ·rw [if_pos he] at h
  injection h with h1 h2
  injection h2 with h2 h3
  exact .inl ⟨he, h3.symm⟩
 ·have he0 : e = 0 := Classical.byContradiction he
  rw [if_neg he] at h
  by_cases hl : s.length - a < n
  ·rw [if_pos hl] at h
   injection h with h1 h2
   injection h2 with h2 h3
   exact .inr (.inl ⟨he0, hl, h3.symm⟩)
  ·rw [if_neg hl] at h
   injection h with h1 h2
   injection h2 with h2 h3
   exact .inr (.inr ⟨he0, hl, h3.symm, h1.symm, h2.symm⟩)
set_option maxRecDepth 10000 in
theorem Next_any (s : List UInt8) (w : World) (hs : s.length ≤ 1099511627776) : Calls Tryz.prog 61 #[str s] w fun e w' => e = .returned (nextV (nextM s)) ∧ Below w.heap.size w w' := by
 unfold nextM
 cases hse : s with
 | nil =>
  rw [if_pos rfl]
  refine W_enter (args := [str []]) 47 Tryz.func61 rfl rfl rfl (W_sub [(0, str [])] ?_ ⟨rfl, trivial⟩)
  have hbw := Below.refl w.heap.size w
  refine W_rs (sa rfl rfl (sa rfl rfl (sa rfl rfl (sa rfl rfl (Wn (tN (W_rs (sm rfl rfl (sc _ Tryz.func104 rfl (by kernel_rfl) rfl rfl ((Read_rd [] _).mono ?_))))))))))
  rintro e_ w1 ⟨g, rfl, hB, hg, hgl, hb⟩
  refine cR ?_
  replace hbw := bthen hbw hb
  have hz_w1 := hb.size
  clear hb
  refine sa rfl rfl (Wn (tN (W_rs (sm rfl rfl (sc _ Tryz.func105 rfl (by kernel_rfl) rfl rfl ((U8_any g [] 0 0 _ hB (by simp) (Nat.zero_le _)).mono ?_))))))
  rintro e_ w2 ⟨rfl, hB1, hC⟩
  refine cR ?_
  replace hbw := bset hbw hC (by omega)
  have hz_w2 := hC.size
  clear hC
  clear hB
  have hB : Blk w2 g 222 #[str [], .int .i64 0, .int .i64 10] := hB1
  clear hB1
  refine sa rfl rfl (Wn (tN (W_seq (W_block (W_rs (sm rfl rfl (sc _ Tryz.func106 rfl (by kernel_rfl) rfl rfl ((Err_any g [] 0 10 _ hB).mono ?_))))))))
  rintro e_ w_ ⟨rfl, rfl⟩
  refine cR (st (X.neq rfl rfl) rfl (sa rfl rfl (Wn (tN (W_yes rfl (rfl) (W_rs (sm rfl rfl (sc _ Tryz.func106 rfl (by kernel_rfl) rfl rfl ((Err_any g [] 0 10 _ hB).mono ?_)))))))))
  rintro e_ w_ ⟨rfl, rfl⟩
  refine cR (sa rfl rfl (sa rfl rfl (sa rfl rfl (sa rfl rfl (Wn (tN (W_ret (bR (tR ?_)))))))))
  exact (r4T rfl rfl rfl rfl rfl ⟨rfl, hbw⟩).1
 | cons k s1 =>
  rw [← hse]
  have hne : s ≠ [] := by rw [hse]; simp
  have hk : s.headD 0 = k := by rw [hse]; rfl
  have hl1 : 1 ≤ s.length := by rw [hse]; simp
  have ht1 : takeM s 0 0 1 = ([k], 1, 0) := by
   rw [hse]
   unfold takeM
   rw [if_neg (by simp), if_neg (by simp)]
   rfl
  have hta := textR_at (m := 1048576) hl1
  rw [if_neg hne, hk]
  obtain ⟨t, ht⟩ : ∃ t, textR s 1 1048576 = t := ⟨_, rfl⟩
  have hTx := fun g w hB => Text_any g s 1 w 1048576 (by omega) hB hs hl1
  rw [ht] at hta ⊢
  simp only [ht] at hTx
  obtain ⟨body, a1, e1⟩ := t
  replace hta : a1 ≤ s.length := hta
  simp only at hTx ⊢
  refine W_enter (args := [str s]) 47 Tryz.func61 rfl rfl rfl (W_sub [(0, str s)] ?_ ⟨rfl, trivial⟩)
  have hbw := Below.refl w.heap.size w
  refine W_rs (sa rfl rfl (sa rfl rfl (sa rfl rfl (sa rfl rfl (Wn (tN (W_rs (sm rfl rfl (sc _ Tryz.func104 rfl (by kernel_rfl) rfl rfl ((Read_rd s _).mono ?_))))))))))
  rintro e_ w1 ⟨g, rfl, hB, hg, hgl, hb⟩
  refine cR ?_
  replace hbw := bthen hbw hb
  have hz_w1 := hb.size
  clear hb
  refine sa rfl rfl (Wn (tN (W_rs (sm rfl rfl (sc _ Tryz.func105 rfl (by kernel_rfl) rfl rfl ((U8_any g s 0 0 _ hB hs (Nat.zero_le _)).mono ?_))))))
  rintro e_ w2 ⟨rfl, hB1, hC⟩
  refine cR ?_
  replace hbw := bset hbw hC (by omega)
  have hz_w2 := hC.size
  clear hC
  rw [ht1] at hB1
  rw [ht1]
  clear hB
  have hB : Blk w2 g 222 #[str s, .int .i64 1, .int .i64 0] := hB1
  clear hB1
  show WL _ _ _ _ _ _ ((_, .int .u8 k.toNat) :: _) _
  refine sa rfl rfl (Wn (tN (W_seq (W_block (W_rs (sm rfl rfl (sc _ Tryz.func106 rfl (by kernel_rfl) rfl rfl ((Err_any g s 1 0 _ hB).mono ?_))))))))
  rintro e_ w_ ⟨rfl, rfl⟩
  refine cR (st (X.neq rfl rfl) rfl (sa rfl rfl (Wn (tN (W_no rfl (rfl) (W_rs (sm rfl rfl (st (X.eql rfl rfl) rfl (sa rfl rfl (Wn ?_))))))))))
  refine tN (W_if rfl (fun h21 => ?_) (fun h21 => ?_))
  ·first | replace h21 := of_decide_eq_true h21 | replace h21 := of_decide_eq_false (notT h21) | replace h21 := notT h21 | skip
   rw [if_pos (by apply UInt8.toNat.inj; show k.toNat = 0; omega)]
   refine W_rs (sa rfl rfl (sa rfl rfl (sa rfl rfl (sa rfl rfl (Wn (tN (W_ret (bR (tR ?_)))))))))
   exact (r4T rfl rfl rfl rfl rfl ⟨rfl, hbw⟩).1
  ·first | replace h21 := of_decide_eq_false h21 | replace h21 := of_decide_eq_true (notF h21) | replace h21 := notF h21 | skip
   rw [if_neg (fun e => h21 (by rw [e]; rfl))]
   refine W_skip (bN (tN (W_rs (sm rfl rfl (sc _ Tryz.func107 rfl (by kernel_rfl) rfl rfl ((hTx g _ hB).mono ?_))))))
   rintro e_ w3 ⟨rfl, hB1, hC⟩
   refine cR ?_
   replace hbw := bset hbw hC (by omega)
   have hz_w3 := hC.size
   clear hC
   clear hB
   have hB := hB1
   clear hB1
   refine sa rfl rfl (Wn (tN (W_rs (sm rfl rfl (sc _ Tryz.func108 rfl (by kernel_rfl) rfl rfl ((At_any g s a1 e1 _ hB).mono ?_))))))
   rintro e_ w_ ⟨rfl, rfl⟩
   refine cR (sa rfl rfl (Wn (tN (W_rs (sm rfl rfl ?_)))))
   have hU := U32_any g s a1 e1 _ hB hs hta
   obtain ⟨u, hu⟩ : ∃ u, takeM s a1 e1 4 = u := ⟨_, rfl⟩
   rw [hu] at hU
   obtain ⟨ul, ua, ue⟩ := u
   simp only at hU
   refine sc _ Tryz.func109 rfl (by kernel_rfl) rfl rfl ((hU).mono ?_)
   rintro e_ w4 ⟨rfl, hB1, hC⟩
   refine cR ?_
   replace hbw := bset hbw hC (by omega)
   have hz_w4 := hC.size
   clear hC
   clear hB
   have hB := hB1
   clear hB1 hU
   refine sa rfl rfl (Wn (tN (W_seq (W_block (W_rs (sm rfl rfl (sc _ Tryz.func106 rfl (by kernel_rfl) rfl rfl ((Err_any g s ua ue _ hB).mono ?_))))))))
   rintro e_ w_ ⟨rfl, rfl⟩
   refine cR (st (X.neq rfl rfl) rfl (sa rfl rfl (Wn (tN (W_if rfl (fun h30 => ?_) (fun h30 => ?_))))))
   ·first | replace h30 := of_decide_eq_true h30 | replace h30 := of_decide_eq_false (notT h30) | replace h30 := notT h30 | skip
    refine W_rs ?_
    have hres : (if e1 ≠ 0 then ((0 : UInt8), ([] : List UInt8), 0, e1) else if s.length - a1 < 4 then (0, [], 0, 10) else if leN ((s.drop a1).take 4) ≠ (Crc.crc (s.take a1)).toNat then (0, [], 0, 13) else (k, body, a1 + 4, 0)) = (0, [], 0, ue) := by
     rcases take_cases hu with ⟨h1, h2⟩ | ⟨h1, h2, h3⟩ | ⟨_, _, h3, _⟩
     ·rw [if_pos h1, h2]
     ·rw [if_neg (by rw [h1]; simp), if_pos h2, h3]
     ·exact absurd h3 h30
    refine sm rfl rfl (sc _ Tryz.func106 rfl (by kernel_rfl) rfl rfl ((Err_any g s ua ue _ hB).mono ?_))
    rintro e_ w_ ⟨rfl, rfl⟩
    refine cR (sa rfl rfl (sa rfl rfl (sa rfl rfl (sa rfl rfl (Wn (tN (W_ret (bR (tR ?_)))))))))
    rw [hres]
    exact (r4T rfl rfl rfl rfl rfl ⟨rfl, hbw⟩).1
   ·first | replace h30 := of_decide_eq_false h30 | replace h30 := of_decide_eq_true (notF h30) | replace h30 := notF h30 | skip
    have h30' : ue = 0 := Classical.byContradiction h30
    obtain ⟨he1, hl4, _, hul, hua⟩ : e1 = 0 ∧ ¬ s.length - a1 < 4 ∧ ue = 0 ∧ ul = (s.drop a1).take 4 ∧ ua = a1 + 4 := by
     rcases take_cases hu with ⟨h1, h2⟩ | ⟨h1, h2, h3⟩ | h
     ·rw [h2] at h30'; exact absurd h30' h1
     ·rw [h3] at h30'; cases h30'
     ·exact h
    rw [if_neg (by rw [he1]; simp), if_neg hl4]
    refine W_rs (sm rfl rfl (sm rfl rfl (sm rfl rfl (st (X.toS (s := s) rfl rfl Tryz.underlying9 rfl hta) rfl (sc _ Tryz.func78 rfl (by kernel_rfl) rfl rfl ((Crc_any (s.take a1) _ (by rw [List.length_take]; omega)).mono ?_))))))
    rintro e_ w5 ⟨rfl, hb⟩
    refine cR ?_
    replace hbw := bthen hbw hb
    replace hB := hB.bel hb
    have hz_w5 := hb.size
    clear hb
    refine st (X.neq rfl rfl) rfl (sa rfl rfl (Wn (tN (W_if rfl (fun h36 => ?_) (fun h36 => ?_)))))
    ·first | replace h36 := of_decide_eq_true h36 | replace h36 := of_decide_eq_false (notT h36) | replace h36 := notT h36 | skip
     rw [if_pos (by rw [← hul]; omega)]
     refine W_rs (sa rfl rfl (sa rfl rfl (sa rfl rfl (sa rfl rfl (Wn (tN (W_ret (bR (tR ?_)))))))))
     exact (r4T rfl rfl rfl rfl rfl ⟨rfl, hbw⟩).1
    ·first | replace h36 := of_decide_eq_false h36 | replace h36 := of_decide_eq_true (notF h36) | replace h36 := notF h36 | skip
     rw [if_neg (by rw [← hul]; omega), ← hua]
     refine W_skip (bN (tN (W_rs (sm rfl rfl (sm rfl rfl (sm rfl rfl (sc _ Tryz.func108 rfl (by kernel_rfl) rfl rfl ((At_any g s ua ue _ hB).mono ?_))))))))
     rintro e_ w_ ⟨rfl, rfl⟩
     refine cR (sa rfl rfl (sa rfl rfl (sa rfl rfl (sa rfl rfl (Wn (tN (W_ret ?_)))))))
     exact (r4T rfl rfl rfl rfl rfl ⟨rfl, hbw⟩).1
end Go.Proofs.YtnlabkogebnioaaGreatDoor
namespace Go.Proofs.YtnlabkogebnioaaGreatDoor
open Go.RowKit
def fixB : Nat → Nat → List UInt8
  | _, 0 => []
  | x, n + 1 => UInt8.ofNat (x % 256) :: fixB (x / 256) n
theorem fixB_length : ∀ (x n : Nat), (fixB x n).length = n
 | _, 0 => rfl
 | x, n + 1 => by rw [fixB, List.length_cons, fixB_length]
theorem leN_fixB : ∀ (n x : Nat), x < 256 ^ n → leN (fixB x n) = x
 | 0, x, h => by simp at h; subst h; rfl
 | n + 1, x, h => by
  rw [fixB, leN, leN_fixB n (x / 256) (by rw [Nat.pow_succ] at h; exact Nat.div_lt_of_lt_mul (by rw [Nat.mul_comm]; exact h))]
  have : (UInt8.ofNat (x % 256)).toNat = x % 256 := by simp
  rw [this]
  omega
theorem fixB_snoc : ∀ (i x : Nat), fixB x i ++ [UInt8.ofNat (x / 256 ^ i % 256)] = fixB x (i + 1)
 | 0, x => by simp [fixB]
 | i + 1, x => by
  have := fixB_snoc i (x / 256)
  rw [Nat.div_div_eq_div_mul, ← Nat.pow_succ'] at this
  rw [fixB, List.cons_append, this]
  rfl
end Go.Proofs.YtnlabkogebnioaaGreatDoor
namespace Go.Proofs.YtnlabkogebnioaaGreatDoor
open Go.RowKit
def uvF : Nat → Nat → List UInt8
  | 0, _ => []
  | n + 1, x => if x < 128 then [UInt8.ofNat (x % 256)] else (UInt8.ofNat (x % 256) ||| 128) :: uvF n (x / 128)
def uvB (x : Nat) : List UInt8 := uvF 10 x
theorem uvF_lt {n x : Nat} (hn : 0 < n) (h : x < 128) : uvF n x = [UInt8.ofNat (x % 256)] := by
 obtain ⟨m, rfl⟩ : ∃ m, n = m + 1 := ⟨n - 1, by omega⟩
 rw [uvF, if_pos h]
theorem uvF_ge {n x : Nat} (hn : 0 < n) (h : ¬ x < 128) : uvF n x = [UInt8.ofNat (x % 256) ||| 128] ++ uvF (n - 1) (x / 128) := by
 obtain ⟨m, rfl⟩ : ∃ m, n = m + 1 := ⟨n - 1, by omega⟩
 rw [uvF, if_neg h]
 rfl
theorem uv_step {k x : Nat} (hk : k ≤ 9) (h : x < 2 ^ (64 - 7 * k)) (h8 : 128 ≤ x) : k + 1 ≤ 9 ∧ x / 128 < 2 ^ (64 - 7 * (k + 1)) := by
 have : k = 0 ∨ k = 1 ∨ k = 2 ∨ k = 3 ∨ k = 4 ∨ k = 5 ∨ k = 6 ∨ k = 7 ∨ k = 8 ∨ k = 9 := by omega
 rcases this with rfl | rfl | rfl | rfl | rfl | rfl | rfl | rfl | rfl | rfl
 all_goals (simp only [Nat.reduceMul, Nat.reduceSub, Nat.reducePow, Nat.reduceAdd] at h ⊢; omega)
section
variable {l : Env} {x : Operand} {p : Option Addr} {t' ty : TypeId} {w : World}
theorem wrNeP (w : World) (a : Addr) : (binOp .neq 217 (.pointer (some a)) (.pointer none)).run Tryz.prog w = .ok (.bool true) w := by kernel_rfl
theorem wrEqP (w : World) (a : Addr) : (binOp .eql 217 (.pointer (some a)) (.pointer none)).run Tryz.prog w = .ok (.bool false) w := by kernel_rfl
theorem X.wrNe {a : Addr} (hx : ev l x = some (.pointer (some a))) : X Tryz.prog l (.binOp .neq 217 x (.const (.pointer none)) t') ty w (.bool true) w :=
 X.bin hx rfl guard_ptr (wrNeP w a)
theorem X.wrEq {a : Addr} (hx : ev l x = some (.pointer (some a))) : X Tryz.prog l (.binOp .eql 217 x (.const (.pointer none)) t') ty w (.bool false) w :=
 X.bin hx rfl guard_ptr (wrEqP w a)
end
theorem uvB_length : ∀ (x : Nat), x < 100000000 → (uvB x).length ≤ 4 := by
 intro x hx
 unfold uvB
 rw [uvF]
 split
 ·simp
 rw [uvF]
 split
 ·simp
 rw [uvF]
 split
 ·simp
 rw [uvF]
 split
 ·simp
 ·omega
structure WrAt (w : World) (B g : Nat) (t : List UInt8) : Prop where
  ge : B ≤ g
  is : ∃ v, Blk w g 170 #[v] ∧ Row w 5 1 v t.length (t.map bv) ∧ ∀ k, v.ownBlock = some k → B ≤ k
theorem WrAt.bel {w w' : World} {B g : Nat} {t : List UInt8} (h : WrAt w B g t) (hb : Below w.heap.size w w') : WrAt w' B g t := by
 obtain ⟨h1, v, h2, h3, h4⟩ := h
 exact ⟨h1, v, h2.bel hb, h3.bel hb, h4⟩
theorem WrAt.lt {w : World} {B g : Nat} {t : List UInt8} (h : WrAt w B g t) : g < w.heap.size := by
 obtain ⟨h1, v, h2, h3, h4⟩ := h
 exact h2.lt
theorem wput_any (B g : Nat) (t m : List UInt8) (u : Value) (w : World) (h : WrAt w B g t) (hu : Reads w 1 u m.length (m.map bv)) (hl : t.length + m.length ≤ 4398046511104) :
  Calls Tryz.prog 141 #[.pointer (some ⟨g, 0, none⟩), u] w fun e w' => e = .returned (.tuple #[]) ∧ WrAt w' B g (t ++ m) ∧ Chg (fun k => B ≤ k) w w' := by
 obtain ⟨hge, v, hB, hR, hvo⟩ := h
 have hlt := hB.lt
 refine W_enter (args := [.pointer (some ⟨g, 0, none⟩), u]) 15 Tryz.func141 rfl rfl rfl (W_sub [(0, .pointer (some ⟨g, 0, none⟩)), (1, u)] ?_ ⟨rfl, rfl, trivial⟩)
 have hcw := Chg.refl (fun k => B ≤ k) w
 refine W_rs (sm rfl rfl (st (X.wrNe rfl) rfl (Wn (tN (W_yes rfl (rfl) (W_reg (sm rfl rfl (sm rfl rfl (st (X.nilChk rfl) rfl (st (X.fa fa170_0 rfl) rfl ?_))))))))))
 refine st (X.ldL rfl hB Tryz.underlying123 rfl rfl) rfl (sm rfl rfl (sapp rfl rfl Tryz.underlying123 inf5 rfl (by decide) hR (hu.src Tryz.underlying123 (bv_one m)) (by simp only [maxLen]; omega) (by omega) rfl (fun v' w1 hR2 hC2 hv => ?_)))
 obtain ⟨a', c', rfl, _, _⟩ := hR2.shape
 have hz_w1 := hC2.size
 replace hB := hB.chg hC2 (fun hk => hR.ne2 hB (by decide) _ hk rfl)
 have hne := hR2.ne2 hB (by decide)
 replace hcw := hcw.next hC2 (fun i hi => .inl (hvo i hi))
 replace hR := hR2
 clear hC2 hR2
 refine st (X.nilChk rfl) rfl (st (X.fa fa170_0 rfl) rfl (ssB rfl rfl hB siz123 rfl (by first | decide | simp) (fun w2 hB_ hc_ => ?_)))
 replace hB := hB_
 clear hB_
 replace hR := hR.chg hc_ (by first | (show ¬ _ = _; omega) | (intro k_ hk_; simp [Value.ownBlock] at hk_; subst hk_; show ¬ _ = _; omega) | assumption | trivial)
 replace hcw := hcw.next hc_ (fun i_ hi_ => by first | exact .inl hi_ | exact .inl (.inl hi_) | (right; subst hi_; omega) | (left; subst hi_; show _ ≤ _; omega) | (left; subst hi_; assumption))
 have hz_w2 := hc_.size
 clear hc_
 refine Wn ((r0 rfl ⟨rfl, ⟨hge, _, hB, ?_, ?_⟩, hcw⟩).2)
 ·rw [List.map_append, List.length_append]; exact hR
 ·intro k hk
  rcases hv with hv | hv
  ·exact hvo k (hv ▸ hk)
  ·rw [hv] at hk
   injection hk with hk
   omega
section
variable (B g : Nat) (t : List UInt8) (w : World) (h : WrAt w B g t)
include h
theorem WU8_any (x : UInt8) (hl : t.length ≤ 1099511627776) : Calls Tryz.prog 98 #[.pointer (some ⟨g, 0, none⟩), .int .u8 x.toNat] w fun e w' => e = .returned (.tuple #[]) ∧ WrAt w' B g (t ++ [x]) ∧ Chg (fun k => B ≤ k) w w' := by
 have hlt := h.lt
 have hge := h.ge
 refine W_enter (args := [.pointer (some ⟨g, 0, none⟩), .int .u8 x.toNat]) 8 Tryz.func98 rfl rfl rfl (W_sub [(0, .pointer (some ⟨g, 0, none⟩)), (1, .int .u8 x.toNat)] ?_ ⟨rfl, rfl, trivial⟩)
 have hcw := Chg.refl (fun k => B ≤ k) w
 refine W_reg (sm rfl rfl (sm rfl rfl (sbs1 rfl Tryz.underlying123 inf5 rfl rfl (by decide) (by decide) rfl (fun g6 w1 hR6 hg6 hb => ?_))))
 replace hcw := hcw.then_below hb
 replace h := h.bel hb
 have hz_w1 := hb.size
 clear hb
 have hl6 := hR6.blt (by decide)
 refine sc _ Tryz.func141 rfl (by kernel_rfl) rfl rfl ((wput_any B g t [x] _ _ h hR6.reads (by simp; omega)).mono ?_)
 clear h
 rintro e_ w2 ⟨rfl, h, hC⟩
 refine cR ?_
 replace hcw := hcw.next hC (fun i_ hi_ => by first | exact .inl hi_ | exact .inl (.inl hi_) | (right; subst hi_; omega) | (left; subst hi_; show _ ≤ _; omega) | (left; subst hi_; assumption))
 have hz_w2 := hC.size
 clear hC
 refine Wn ?_
 exact (r0 rfl ⟨rfl, h, hcw⟩).2
theorem WRaw_any (m : List UInt8) (hl : t.length ≤ 1099511627776) (hm : m.length ≤ 1099511627776) : Calls Tryz.prog 143 #[.pointer (some ⟨g, 0, none⟩), str m] w fun e w' => e = .returned (.tuple #[]) ∧ WrAt w' B g (t ++ m) ∧ Chg (fun k => B ≤ k) w w' := by
 have hlt := h.lt
 have hge := h.ge
 refine W_enter (args := [.pointer (some ⟨g, 0, none⟩), str m]) 8 Tryz.func143 rfl rfl rfl (W_sub [(0, .pointer (some ⟨g, 0, none⟩)), (1, str m)] ?_ ⟨rfl, rfl, trivial⟩)
 have hcw := Chg.refl (fun k => B ≤ k) w
 refine W_reg (sm rfl rfl (sm rfl rfl (scb (s := m) rfl Tryz.underlying9 Tryz.underlying123 Tryz.underlying5 (by omega) rfl (fun gv cv w1 hR hgv hgl hb => ?_))))
 replace h := h.bel hb
 replace hcw := hcw.then_below hb
 have hz_w1 := hb.size
 clear hb
 refine sc _ Tryz.func141 rfl (by kernel_rfl) rfl rfl ((wput_any B g t m _ _ h hR (by omega)).mono ?_)
 clear h
 rintro e_ w2 ⟨rfl, h, hC⟩
 refine cR ?_
 replace hcw := hcw.next hC (fun i_ hi_ => by first | exact .inl hi_ | exact .inl (.inl hi_) | (right; subst hi_; omega) | (left; subst hi_; show _ ≤ _; omega) | (left; subst hi_; assumption))
 have hz_w2 := hC.size
 clear hC
 refine Wn ?_
 exact (r0 rfl ⟨rfl, h, hcw⟩).2
theorem WUvar_any (x : Nat) (hl : t.length ≤ 1099511627776) (hx : x < 18446744073709551616) : Calls Tryz.prog 142 #[.pointer (some ⟨g, 0, none⟩), .int .u64 x] w fun e w' => e = .returned (.tuple #[]) ∧ WrAt w' B g (t ++ uvB x) ∧ Chg (fun k => B ≤ k) w w' := by
 have hlt := h.lt
 have hge := h.ge
 refine W_enter (args := [.pointer (some ⟨g, 0, none⟩), .int .u64 x]) 19 Tryz.func142 rfl rfl rfl (W_sub [(0, .pointer (some ⟨g, 0, none⟩)), (1, .int .u64 x)] ?_ ⟨rfl, rfl, trivial⟩)
 have hcw := Chg.refl (fun k => B ≤ k) w
 refine W_seq (W_block (W_lp (fun nw1_ lw1_ w1 => ∃ y : Nat, ∃ m : List UInt8, nw1_ = 0 + y ∧ lw1_ = ([(0, .pointer (some ⟨g, 0, none⟩)), (1, .int .u64 y)] : Env) ∧ (y < 2 ^ (64 - 7 * m.length)) ∧ (m.length ≤ 9) ∧ (uvB x = m ++ uvF (10 - m.length) y) ∧ (WrAt w1 B g (t ++ m)) ∧ (Chg (fun k => B ≤ k) w w1)) _ ⟨_, ⟨x, [], rfl, rfl, by simpa using hx, by simp, rfl, by rw [List.append_nil]; exact h, hcw⟩, ⟨rfl, rfl, trivial⟩⟩ ?_))
 clear hcw
 rintro nw1_ lw1_ w1 ⟨y, m, rfl, rfl, hy, hm9, hub, h, hcw⟩
 have hlt2 := h.lt
 have hz_w1 := hcw.size
 have hml : (t ++ m).length = t.length + m.length := List.length_append
 have hy64 : y < 18446744073709551616 := Nat.lt_of_lt_of_le hy (Nat.pow_le_pow_right (by decide) (show 64 - 7 * m.length ≤ 64 by omega))
 have hbt : (UInt8.ofNat (y % 256)).toNat = y % 256 := by simp
 refine W_seq (W_rs (sm rfl rfl (st (X.geq rfl rfl) rfl (Wn (tN (W_if rfl (fun h5 => ?_) (fun h5 => ?_)))))))
 ·first | replace h5 := of_decide_eq_true h5 | replace h5 := of_decide_eq_false (notT h5) | replace h5 := notT h5 | skip
  have hst := uv_step hm9 hy (by omega)
  refine W_skip (tN (W_seq (W_block (W_reg (sm rfl rfl (sm rfl rfl (st (X.convI (m := (y : Int)) (z := ((UInt8.ofNat (y % 256)).toNat : Int)) rfl Tryz.underlying165 Tryz.underlying5 (by rw [hbt, w8]; omega)) rfl ?_)))))))
  refine st (X.bits (by simp) rfl rfl (or_u8 _ 128)) rfl ?_
  refine sbs1 rfl Tryz.underlying123 inf5 rfl rfl (by decide) (by decide) rfl (fun g12 w2 hR12 hg12 hb => ?_)
  replace hcw := hcw.then_below hb
  replace h := h.bel hb
  have hz_w2 := hb.size
  clear hb
  have hl12 := hR12.blt (by decide)
  refine sc _ Tryz.func141 rfl (by kernel_rfl) rfl rfl ((wput_any B g (t ++ m) [UInt8.ofNat (y % 256) ||| 128] _ _ h hR12.reads (by simp; omega)).mono ?_)
  clear h
  rintro e_ w3 ⟨rfl, h, hC⟩
  refine cR ?_
  replace hcw := hcw.next hC (fun i_ hi_ => by first | exact .inl hi_ | exact .inl (.inl hi_) | (right; subst hi_; omega) | (left; subst hi_; show _ ≤ _; omega) | (left; subst hi_; assumption))
  have hz_w3 := hC.size
  clear hC
  refine Wn (bN (tN (W_reg (sm rfl rfl (st (X.shr (q := 128) rfl rfl (by decide) (by decide) rfl rfl) rfl (sa rfl rfl (Wn (tN ⟨_, _, ?_, ⟨y / 128, m ++ [UInt8.ofNat (y % 256) ||| 128], rfl, rfl, by rw [List.length_append]; exact hst.2, by rw [List.length_append]; exact hst.1, by rw [hub, uvF_ge (by omega) (by omega), List.append_assoc, List.length_append, Nat.sub_sub]; rfl, by rw [← List.append_assoc]; exact h, hcw⟩, ⟨rfl, rfl, trivial⟩⟩))))))))
  omega
 ·first | replace h5 := of_decide_eq_false h5 | replace h5 := of_decide_eq_true (notF h5) | replace h5 := notF h5 | skip
  refine W_exit (tE (tE (bH (tN (W_reg (sm rfl rfl (sm rfl rfl (st (X.convI (m := (y : Int)) (z := ((UInt8.ofNat (y % 256)).toNat : Int)) rfl Tryz.underlying165 Tryz.underlying5 (by rw [hbt, w8]; omega)) rfl ?_))))))))
  refine sbs1 rfl Tryz.underlying123 inf5 rfl rfl (by decide) (by decide) rfl (fun g17 w4 hR17 hg17 hb => ?_)
  replace hcw := hcw.then_below hb
  replace h := h.bel hb
  have hz_w4 := hb.size
  clear hb
  have hl17 := hR17.blt (by decide)
  refine sc _ Tryz.func141 rfl (by kernel_rfl) rfl rfl ((wput_any B g (t ++ m) [UInt8.ofNat (y % 256)] _ _ h hR17.reads (by simp; omega)).mono ?_)
  clear h
  rintro e_ w5 ⟨rfl, h, hC⟩
  refine cR ?_
  replace hcw := hcw.next hC (fun i_ hi_ => by first | exact .inl hi_ | exact .inl (.inl hi_) | (right; subst hi_; omega) | (left; subst hi_; show _ ≤ _; omega) | (left; subst hi_; assumption))
  have hz_w5 := hC.size
  clear hC
  refine Wn ?_
  have hub2 : uvB x = m ++ [UInt8.ofNat (y % 256)] := by rw [hub, uvF_lt (by omega) (by omega)]
  rw [List.append_assoc, ← hub2] at h
  exact (r0 rfl ⟨rfl, h, hcw⟩).2
theorem WText_any (m : List UInt8) (hl : t.length ≤ 1000000) (hm : m.length ≤ 10000000) : Calls Tryz.prog 99 #[.pointer (some ⟨g, 0, none⟩), str m] w fun e w' => e = .returned (.tuple #[]) ∧ WrAt w' B g (t ++ (uvB m.length ++ m)) ∧ Chg (fun k => B ≤ k) w w' := by
 have hlt := h.lt
 have hge := h.ge
 have hul := uvB_length m.length (by omega)
 refine W_enter (args := [.pointer (some ⟨g, 0, none⟩), str m]) 12 Tryz.func99 rfl rfl rfl (W_sub [(0, .pointer (some ⟨g, 0, none⟩)), (1, str m)] ?_ ⟨rfl, rfl, trivial⟩)
 have hcw := Chg.refl (fun k => B ≤ k) w
 refine W_rs (sm rfl rfl (sm rfl rfl (st (X.lenS rfl rfl Tryz.underlying9) rfl (st (X.convI (m := (m.length : Int)) (z := (m.length : Int)) rfl Tryz.underlying3 Tryz.underlying165 (IntWalk.u64_in _ (by omega))) rfl (sc _ Tryz.func142 rfl (by kernel_rfl) rfl rfl ((WUvar_any B g t _ h m.length (by omega) (by omega)).mono ?_))))))
 clear h
 rintro e_ w1 ⟨rfl, h, hC⟩
 refine cR ?_
 replace hcw := hcw.next hC (fun i_ hi_ => by first | exact .inl hi_ | exact .inl (.inl hi_) | (right; subst hi_; omega) | (left; subst hi_; show _ ≤ _; omega) | (left; subst hi_; assumption))
 have hz_w1 := hC.size
 clear hC
 refine Wn (tN (W_reg (sm rfl rfl (sm rfl rfl (sc _ Tryz.func143 rfl (by kernel_rfl) rfl rfl ((WRaw_any B g (t ++ uvB m.length) _ h m (by rw [List.length_append]; omega) (by omega)).mono ?_))))))
 clear h
 rintro e_ w2 ⟨rfl, h, hC⟩
 refine cR ?_
 replace hcw := hcw.next hC (fun i_ hi_ => by first | exact .inl hi_ | exact .inl (.inl hi_) | (right; subst hi_; omega) | (left; subst hi_; show _ ≤ _; omega) | (left; subst hi_; assumption))
 have hz_w2 := hC.size
 clear hC
 refine Wn ?_
 rw [List.append_assoc] at h
 exact (r0 rfl ⟨rfl, h, hcw⟩).2
theorem Wfixed_any (x n : Nat) (hl : t.length ≤ 1099511627776) (hn : n ≤ 8) (hx : x < 18446744073709551616) : Calls Tryz.prog 144 #[.pointer (some ⟨g, 0, none⟩), .int .u64 x, .int .i64 n] w fun e w' => e = .returned (.tuple #[]) ∧ WrAt w' B g (t ++ fixB x n) ∧ Chg (fun k => B ≤ k) w w' := by
 have hlt := h.lt
 have hge := h.ge
 refine W_enter (args := [.pointer (some ⟨g, 0, none⟩), .int .u64 x, .int .i64 n]) 17 Tryz.func144 rfl rfl rfl (W_sub [(0, .pointer (some ⟨g, 0, none⟩)), (1, .int .u64 x), (2, .int .i64 n)] ?_ ⟨rfl, rfl, rfl, trivial⟩)
 have hcw := Chg.refl (fun k => B ≤ k) w
 refine W_rs (sm rfl rfl (sm rfl rfl (Wn (tN (W_block (W_lp (fun nw1_ lw1_ w1 => ∃ i : Nat, nw1_ = n - i ∧ lw1_ = ([(0, .pointer (some ⟨g, 0, none⟩)), (1, .int .u64 (x / 256 ^ i : Nat)), (6, .int .i64 n), (7, .int .i64 i)] : Env) ∧ (i ≤ n) ∧ (WrAt w1 B g (t ++ fixB x i)) ∧ (Chg (fun k => B ≤ k) w w1)) _ ⟨_, ⟨0, rfl, rfl, by omega, by rw [fixB, List.append_nil]; exact h, hcw⟩, ⟨rfl, by rw [Nat.pow_zero, Nat.div_one]; rfl, rfl, rfl, trivial⟩⟩ ?_))))))
 clear hcw
 rintro nw1_ lw1_ w1 ⟨i, rfl, rfl, hi, h, hcw⟩
 have hlt2 := h.lt
 have hz_w1 := hcw.size
 have hml : (t ++ fixB x i).length = t.length + i := by rw [List.length_append, fixB_length]
 have hfl := fixB_length x i
 refine W_rs (st (X.lss rfl rfl) rfl (Wn (tN (W_seq (W_if rfl (fun h8 => ?_) (fun h8 => ?_))))))
 ·first | replace h8 := of_decide_eq_true h8 | replace h8 := of_decide_eq_false (notT h8) | replace h8 := notT h8 | skip
  obtain ⟨y, hy⟩ : ∃ y, x / 256 ^ i = y := ⟨_, rfl⟩
  have hxi : y < 18446744073709551616 := by have := Nat.div_le_self x (256 ^ i); omega
  rw [hy]
  have hbt : (UInt8.ofNat (y % 256)).toNat = y % 256 := by simp
  refine W_skip (tN (W_seq (W_block (W_rs (sm rfl rfl (sm rfl rfl (st (X.convI (m := (y : Int)) (z := ((UInt8.ofNat (y % 256)).toNat : Int)) rfl Tryz.underlying165 Tryz.underlying5 (by rw [hbt, w8]; omega)) rfl ?_)))))))
  refine sbs1 rfl Tryz.underlying123 inf5 rfl rfl (by decide) (by decide) rfl (fun g12 w2 hR12 hg12 hb => ?_)
  replace hcw := hcw.then_below hb
  replace h := h.bel hb
  have hz_w2 := hb.size
  clear hb
  have hl12 := hR12.blt (by decide)
  refine sc _ Tryz.func141 rfl (by kernel_rfl) rfl rfl ((wput_any B g (t ++ fixB x i) [UInt8.ofNat (y % 256)] _ _ h hR12.reads (by simp; omega)).mono ?_)
  clear h
  rintro e_ w3 ⟨rfl, h, hC⟩
  refine cR ?_
  replace hcw := hcw.next hC (fun i_ hi_ => by first | exact .inl hi_ | exact .inl (.inl hi_) | (right; subst hi_; omega) | (left; subst hi_; show _ ≤ _; omega) | (left; subst hi_; assumption))
  have hz_w3 := hC.size
  clear hC
  rw [← hy] at h ⊢
  refine Wn (tN (W_reg (sm rfl rfl (st (X.shr (q := 256) rfl rfl (by decide) (by decide) rfl rfl) rfl (sa rfl rfl (Wn (bN (tN (W_reg (st (X.add64 rfl rfl (by omega)) rfl ?_))))))))))
  refine sm rfl rfl (Wn (tN ⟨_, _, ?_, ⟨i + 1, rfl, rfl, by omega, by rw [← fixB_snoc, ← List.append_assoc]; exact h, hcw⟩, ⟨rfl, by rw [Nat.pow_succ, ← Nat.div_div_eq_div_mul]; rfl, rfl, rfl, trivial⟩⟩))
  omega
 ·first | replace h8 := of_decide_eq_false h8 | replace h8 := of_decide_eq_true (notF h8) | replace h8 := notF h8 | skip
  refine W_exit (tE (tE (bH ?_)))
  obtain rfl : i = n := by omega
  exact (r0 rfl ⟨rfl, h, hcw⟩).2
theorem WU32_any (x : Nat) (hl : t.length ≤ 1099511627776) (hx : x < 4294967296) : Calls Tryz.prog 100 #[.pointer (some ⟨g, 0, none⟩), .int .u32 x] w fun e w' => e = .returned (.tuple #[]) ∧ WrAt w' B g (t ++ fixB x 4) ∧ Chg (fun k => B ≤ k) w w' := by
 have hlt := h.lt
 have hge := h.ge
 refine W_enter (args := [.pointer (some ⟨g, 0, none⟩), .int .u32 x]) 8 Tryz.func100 rfl rfl rfl (W_sub [(0, .pointer (some ⟨g, 0, none⟩)), (1, .int .u32 x)] ?_ ⟨rfl, rfl, trivial⟩)
 have hcw := Chg.refl (fun k => B ≤ k) w
 refine W_reg (sm rfl rfl (sm rfl rfl (st (X.convI (m := (x : Int)) (z := (x : Int)) rfl Tryz.underlying145 Tryz.underlying165 (IntWalk.u64_in _ (by omega))) rfl (sc _ Tryz.func144 rfl (by kernel_rfl) rfl rfl ((Wfixed_any B g t _ h x 4 hl (by omega) (by omega)).mono ?_)))))
 clear h
 rintro e_ w1 ⟨rfl, h, hC⟩
 refine cR ?_
 replace hcw := hcw.next hC (fun i_ hi_ => by first | exact .inl hi_ | exact .inl (.inl hi_) | (right; subst hi_; omega) | (left; subst hi_; show _ ≤ _; omega) | (left; subst hi_; assumption))
 have hz_w1 := hC.size
 clear hC
 refine Wn ?_
 exact (r0 rfl ⟨rfl, h, hcw⟩).2
theorem WString_any : Calls Tryz.prog 101 #[.pointer (some ⟨g, 0, none⟩)] w fun e w' => e = .returned (str t) ∧ w = w' := by
 obtain ⟨hge, v, hB, hR, hvo⟩ := h
 refine W_enter (args := [.pointer (some ⟨g, 0, none⟩)]) 10 Tryz.func101 rfl rfl rfl (W_sub [(0, .pointer (some ⟨g, 0, none⟩))] ?_ ⟨rfl, trivial⟩)
 refine W_rs (sa rfl rfl (Wn (tN (W_seq (W_rs (sm rfl rfl (st (X.wrEq rfl) rfl (Wn (tN (W_no rfl (rfl) ?_))))))))))
 refine W_skip (tN (W_rs (sm rfl rfl (st (X.nilChk rfl) rfl (st (X.fa fa170_0 rfl) rfl (st (X.ldL rfl hB Tryz.underlying123 rfl rfl) rfl (st (X.strOf (s := t) rfl Tryz.underlying123 Tryz.underlying5 Tryz.underlying9 hR.reads) rfl (sa rfl rfl (Wn (tN ?_))))))))))
 refine W_ret ?_
 exact (rT rfl rfl ⟨rfl, rfl⟩).1
end
def sealM (k : UInt8) (b : List UInt8) : List UInt8 := if k = 0 ∨ 1048576 < b.length then [] else ([k] ++ (uvB b.length ++ b)) ++ fixB (Crc.crc ([k] ++ (uvB b.length ++ b))).toNat 4
theorem Seal_any (k : UInt8) (b : List UInt8) (w : World) (hl : b.length ≤ 1099511627776) : Calls Tryz.prog 52 #[.int .u8 k.toNat, str b] w fun e w' => e = .returned (str (sealM k b)) ∧ Below w.heap.size w w' := by
 unfold sealM
 refine W_enter (args := [.int .u8 k.toNat, str b]) 21 Tryz.func52 rfl rfl rfl (W_sub [(0, .int .u8 k.toNat), (1, str b)] ?_ ⟨rfl, rfl, trivial⟩)
 have hcw := Chg.refl (fun k => w.heap.size ≤ k) w
 refine W_rs (sa rfl rfl (Wn (tN (W_seq (W_rs (sm rfl rfl (st (X.eql rfl rfl) rfl (sb rfl rfl (fun h8 => ?_) (fun h8 => ?_)))))))))
 ·first | replace h8 := of_decide_eq_true h8 | replace h8 := of_decide_eq_false (notT h8) | replace h8 := notT h8 | skip
  rw [if_pos (.inl (by apply UInt8.toNat.inj; show k.toNat = 0; omega))]
  refine gN (g := 8) rfl rfl rfl rfl (gN (g := 8) rfl rfl rfl rfl (gN (g := 8) rfl rfl rfl rfl (st (X.pickT rfl rfl) rfl (Wn (tN (W_yes rfl (rfl) (W_rs (sa rfl rfl (Wn (tN ?_))))))))))
  refine W_ret (tR ?_)
  exact (rT rfl rfl ⟨rfl, hcw.below (Nat.le_refl _) (fun _ h => h)⟩).1
 ·first | replace h8 := of_decide_eq_false h8 | replace h8 := of_decide_eq_true (notF h8) | replace h8 := notF h8 | skip
  have hk0 : k ≠ 0 := fun e => h8 (by rw [e]; rfl)
  refine gY (g := 8) rfl rfl rfl (sm rfl rfl (gY (g := 8) rfl rfl rfl (st (X.lenS rfl rfl Tryz.underlying9) rfl (gY (g := 8) rfl rfl rfl (st (X.gtr rfl rfl) rfl (st (X.pickF rfl rfl) rfl (Wn (tN (W_if rfl (fun h12 => ?_) (fun h12 => ?_))))))))))
  ·first | replace h12 := of_decide_eq_true h12 | replace h12 := of_decide_eq_false (notT h12) | replace h12 := notT h12 | skip
   rw [if_pos (.inr (by omega))]
   refine W_rs (sa rfl rfl (Wn (tN (W_ret (tR ?_)))))
   exact (rT rfl rfl ⟨rfl, hcw.below (Nat.le_refl _) (fun _ h => h)⟩).1
  ·first | replace h12 := of_decide_eq_false h12 | replace h12 := of_decide_eq_true (notF h12) | replace h12 := notF h12 | skip
   rw [if_neg (fun e => by rcases e with e | e; exact hk0 e; omega)]
   refine W_skip (tN (W_rs (salA inf170 rfl (fun g5 w1 hB5 hg5 hb hl5 => ?_))))
   replace hcw := hcw.then_below hb
   have hz_w1 := hb.size
   clear hb
   refine Wn (tN (W_rs ?_))
   have h : WrAt w1 w.heap.size g5 [] := ⟨by omega, _, hB5, Row.nil _ _ _, by simp [Value.ownBlock]⟩
   have hul := uvB_length b.length (by omega)
   clear hB5
   refine sm rfl rfl (sc _ Tryz.func98 rfl (by kernel_rfl) rfl rfl ((WU8_any _ _ [] _ h k (by simp)).mono ?_))
   clear h
   rintro e_ w2 ⟨rfl, h, hC⟩
   refine cR ?_
   replace hcw := hcw.next hC (fun i_ hi_ => by first | exact .inl hi_ | exact .inl (.inl hi_) | (right; subst hi_; omega) | (left; subst hi_; show _ ≤ _; omega) | (left; subst hi_; assumption))
   have hz_w2 := hC.size
   clear hC
   refine Wn (tN (W_rs (sm rfl rfl (sc _ Tryz.func99 rfl (by kernel_rfl) rfl rfl ((WText_any _ _ ([] ++ [k]) _ h b (by simp) (by omega)).mono ?_)))))
   clear h
   rintro e_ w3 ⟨rfl, h, hC⟩
   refine cR ?_
   replace hcw := hcw.next hC (fun i_ hi_ => by first | exact .inl hi_ | exact .inl (.inl hi_) | (right; subst hi_; omega) | (left; subst hi_; show _ ≤ _; omega) | (left; subst hi_; assumption))
   have hz_w3 := hC.size
   clear hC
   obtain ⟨p, hp⟩ : ∃ p, [k] ++ (uvB b.length ++ b) = p := ⟨_, rfl⟩
   have hpl : p.length = 1 + ((uvB b.length).length + b.length) := by rw [← hp]; simp; omega
   rw [List.nil_append, hp] at h
   rw [hp]
   refine Wn (tN (W_rs (sc _ Tryz.func101 rfl (by kernel_rfl) rfl rfl ((WString_any _ _ _ _ h).mono ?_))))
   rintro e_ w_ ⟨rfl, rfl⟩
   refine cR (sc _ Tryz.func78 rfl (by kernel_rfl) rfl rfl ((Crc_any p _ (by omega)).mono ?_))
   rintro e_ w4 ⟨rfl, hb⟩
   refine cR ?_
   replace hcw := hcw.then_below hb
   replace h := h.bel hb
   have hz_w4 := hb.size
   clear hb
   have hcl := (Crc.crc p).toNat_lt
   refine sc _ Tryz.func100 rfl (by kernel_rfl) rfl rfl ((WU32_any _ _ p _ h (Crc.crc p).toNat (by omega) (by omega)).mono ?_)
   clear h
   rintro e_ w5 ⟨rfl, h, hC⟩
   refine cR ?_
   replace hcw := hcw.next hC (fun i_ hi_ => by first | exact .inl hi_ | exact .inl (.inl hi_) | (right; subst hi_; omega) | (left; subst hi_; show _ ≤ _; omega) | (left; subst hi_; assumption))
   have hz_w5 := hC.size
   clear hC
   refine Wn (tN (W_rs (sc _ Tryz.func101 rfl (by kernel_rfl) rfl rfl ((WString_any _ _ _ _ h).mono ?_))))
   rintro e_ w_ ⟨rfl, rfl⟩
   refine cR (sa rfl rfl (Wn (tN (W_ret ?_))))
   exact (rT rfl rfl ⟨rfl, hcw.below (Nat.le_refl _) (fun _ h => h)⟩).1
end Go.Proofs.YtnlabkogebnioaaGreatDoor
namespace Go.Proofs.YtnlabkogebnioaaGreatDoor
open Go.RowKit
theorem takeM_ge {s : List UInt8} {t n : Nat} {e : Int} (h : 1 ≤ t) : 1 ≤ (takeM s t e n).2.1 := by
 unfold takeM
 by_cases he : e ≠ 0
 ·rw [if_pos he]; exact h
 ·rw [if_neg he]
  by_cases hl : s.length - t < n
  ·rw [if_pos hl]; exact h
  ·rw [if_neg hl]; simp only; omega
theorem nextM_len {s : List UInt8} (h : (nextM s).2.2.2 = 0) : 5 ≤ (nextM s).2.2.1 ∧ (nextM s).2.2.1 ≤ s.length := by
 unfold nextM at h ⊢
 split at h
 ·simp at h
 rename_i h1
 rw [if_neg h1]
 split at h
 ·simp at h
 rename_i h2
 rw [if_neg h2]
 split at h
 ·rename_i h3
  exact absurd h h3
 rename_i h3
 rw [if_neg h3]
 split at h
 ·simp at h
 rename_i h4
 rw [if_neg h4]
 split at h
 ·simp at h
 rename_i h5
 rw [if_neg h5]
 have hl : 1 ≤ s.length := by
  cases s with
  | nil => exact absurd rfl h1
  | cons x l => simp
 have ha : 1 ≤ (textR s 1 1048576).2.1 := by
  unfold textR
  have hu : 1 ≤ (uvR s 1 0).2.1 := by
   unfold uvR
   rw [if_neg (by simp)]
   split
   ·simp only; omega
   ·exact Nat.le_refl _
  split
  ·exact hu
  ·split
   ·exact Nat.le_refl _
   ·split
    ·exact Nat.le_refl _
    ·exact takeM_ge hu
 simp only
 omega
theorem nextM_body (s : List UInt8) : (nextM s).2.1.length ≤ s.length := by
 unfold nextM
 split
 ·simp
 split
 ·simp
 split
 ·simp
 split
 ·simp
 split
 ·simp
 ·simp only
  unfold textR
  split
  ·simp
  split
  ·simp
  split
  ·simp
  unfold takeM
  split
  ·simp
  ·simp only [List.length_take, List.length_drop]
   omega
theorem nextM_body5 {s : List UInt8} (h : (nextM s).2.2.2 = 0) : (nextM s).2.1.length + 5 ≤ (nextM s).2.2.1 := by
 unfold nextM at h ⊢
 split at h
 ·simp at h
 rename_i h1
 rw [if_neg h1]
 split at h
 ·simp at h
 rename_i h2
 rw [if_neg h2]
 split at h
 ·rename_i h3
  exact absurd h h3
 rename_i h3
 rw [if_neg h3]
 split at h
 ·simp at h
 rename_i h4
 rw [if_neg h4]
 split at h
 ·simp at h
 rename_i h5
 rw [if_neg h5]
 have ha : (textR s 1 1048576).1.length + 1 ≤ (textR s 1 1048576).2.1 := by
  have hu : 1 ≤ (uvR s 1 0).2.1 := by
   unfold uvR
   rw [if_neg (by simp)]
   split
   ·simp only; omega
   ·exact Nat.le_refl _
  unfold textR at h3 ⊢
  split at h3
  ·rename_i h6
   exact absurd (by simpa using h3) h6
  rename_i h6
  rw [if_neg h6]
  split at h3
  ·simp at h3
  rename_i h7
  rw [if_neg h7]
  split at h3
  ·simp at h3
  rename_i h8
  rw [if_neg h8]
  unfold takeM
  rw [if_neg (by simp), if_neg h8]
  simp only [List.length_take, List.length_drop]
  omega
 simp only
 omega
end Go.Proofs.YtnlabkogebnioaaGreatDoor
namespace Go.Proofs.YtnlabkogebnioaaGreatDoor.Sha
def rotr (x n : UInt32) : UInt32 := (x >>> n) ||| (x <<< (32 - n))
def s0 (x : UInt32) : UInt32 := rotr x 7 ^^^ rotr x 18 ^^^ (x >>> 3)
def s1 (x : UInt32) : UInt32 := rotr x 17 ^^^ rotr x 19 ^^^ (x >>> 10)
def be (a b c d : UInt8) : UInt32 := ((a.toUInt32 <<< 24 ||| b.toUInt32 <<< 16) ||| c.toUInt32 <<< 8) ||| d.toUInt32
def wordAt (s : List UInt8) (t : Nat) : UInt32 := be (s.getD (4 * t) 0) (s.getD (4 * t + 1) 0) (s.getD (4 * t + 2) 0) (s.getD (4 * t + 3) 0)
def wordsTo (s : List UInt8) : Nat → List UInt32
  | 0 => []
  | t + 1 => wordsTo s t ++ [wordAt s t]
def ext (l : List UInt32) (t : Nat) : UInt32 := s1 (l.getD (t - 2) 0) + l.getD (t - 7) 0 + s0 (l.getD (t - 15) 0) + l.getD (t - 16) 0
def extTo (l : List UInt32) : Nat → List UInt32
  | 0 => l
  | j + 1 => extTo l j ++ [ext (extTo l j) (16 + j)]
structure St where
  a : UInt32
  b : UInt32
  c : UInt32
  d : UInt32
  e : UInt32
  f : UInt32
  g : UInt32
  h : UInt32
def kTab : List UInt32 := [
  0x428a2f98, 0x71374491, 0xb5c0fbcf, 0xe9b5dba5, 0x3956c25b, 0x59f111f1, 0x923f82a4, 0xab1c5ed5,
  0xd807aa98, 0x12835b01, 0x243185be, 0x550c7dc3, 0x72be5d74, 0x80deb1fe, 0x9bdc06a7, 0xc19bf174,
  0xe49b69c1, 0xefbe4786, 0x0fc19dc6, 0x240ca1cc, 0x2de92c6f, 0x4a7484aa, 0x5cb0a9dc, 0x76f988da,
  0x983e5152, 0xa831c66d, 0xb00327c8, 0xbf597fc7, 0xc6e00bf3, 0xd5a79147, 0x06ca6351, 0x14292967,
  0x27b70a85, 0x2e1b2138, 0x4d2c6dfc, 0x53380d13, 0x650a7354, 0x766a0abb, 0x81c2c92e, 0x92722c85,
  0xa2bfe8a1, 0xa81a664b, 0xc24b8b70, 0xc76c51a3, 0xd192e819, 0xd6990624, 0xf40e3585, 0x106aa070,
  0x19a4c116, 0x1e376c08, 0x2748774c, 0x34b0bcb5, 0x391c0cb3, 0x4ed8aa4a, 0x5b9cca4f, 0x682e6ff3,
  0x748f82ee, 0x78a5636f, 0x84c87814, 0x8cc70208, 0x90befffa, 0xa4506ceb, 0xbef9a3f7, 0xc67178f2]
def begin_ : St := ⟨0x6a09e667, 0xbb67ae85, 0x3c6ef372, 0xa54ff53a, 0x510e527f, 0x9b05688c, 0x1f83d9ab, 0x5be0cd19⟩
def t1 (v : St) (k w : UInt32) : UInt32 := v.h + (rotr v.e 6 ^^^ rotr v.e 11 ^^^ rotr v.e 25) + ((v.e &&& v.f) ^^^ (~~~v.e &&& v.g)) + k + w
def t2 (v : St) : UInt32 := (rotr v.a 2 ^^^ rotr v.a 13 ^^^ rotr v.a 22) + ((v.a &&& v.b) ^^^ (v.a &&& v.c) ^^^ (v.b &&& v.c))
def round (v : St) (k w : UInt32) : St := ⟨t1 v k w + t2 v, v.a, v.b, v.c, v.d + t1 v k w, v.e, v.f, v.g⟩
def roundsTo (ws : List UInt32) (v : St) : Nat → St
  | 0 => v
  | t + 1 => round (roundsTo ws v t) (kTab.getD t 0) (ws.getD t 0)
def addSt (x y : St) : St := ⟨x.a + y.a, x.b + y.b, x.c + y.c, x.d + y.d, x.e + y.e, x.f + y.f, x.g + y.g, x.h + y.h⟩
def sched (s : List UInt8) : List UInt32 := extTo (wordsTo s 16) 48
def block (v : St) (s : List UInt8) : St := addSt v (roundsTo (sched s) v 64)
def absorbN : Nat → St → List UInt8 → St × List UInt8
  | 0, v, l => (v, l)
  | n + 1, v, l => absorbN n (block v (l.take 64)) (l.drop 64)
def absorb (v : St) (l : List UInt8) : St × List UInt8 := absorbN (l.length / 64) v l
def zeros (len : Nat) : Nat := (119 - len % 64) % 64
def lenByte (n i : Nat) : UInt8 := UInt8.ofNat (n * 8 / 2 ^ (8 * i))
def lenTo (n : Nat) : Nat → List UInt8
  | 0 => []
  | j + 1 => lenTo n j ++ [lenByte n (7 - j)]
def pad (len n : Nat) : List UInt8 := 128 :: (List.replicate (zeros len) 0 ++ lenTo n 8)
def wordBytes (x : UInt32) : List UInt8 := [(x >>> 24).toUInt8, (x >>> 16).toUInt8, (x >>> 8).toUInt8, x.toUInt8]
def St.words (v : St) : List UInt32 := [v.a, v.b, v.c, v.d, v.e, v.f, v.g, v.h]
def St.bytes (v : St) : List UInt8 := v.words.flatMap wordBytes
def sumOf (v : St) (rest : List UInt8) (n : Nat) : List UInt8 := (absorb v (rest ++ pad rest.length n)).1.bytes
def sha (m : List UInt8) : List UInt8 := sumOf (absorb begin_ m).1 (absorb begin_ m).2 m.length
theorem absorb_end (v : St) (l : List UInt8) (h : l.length < 64) : absorb v l = (v, l) := by
 unfold absorb
 rw [show l.length / 64 = 0 from by omega]
 rfl
theorem absorb_step (v : St) (l : List UInt8) (h : 64 ≤ l.length) : absorb v l = absorb (block v (l.take 64)) (l.drop 64) := by
 unfold absorb
 rw [show l.length / 64 = (l.drop 64).length / 64 + 1 from by rw [List.length_drop]; omega]
 rfl
theorem absorbN_length (n : Nat) : ∀ (v : St) (l : List UInt8), (absorbN n v l).2.length = l.length - 64 * n := by
 induction n with
 | zero => intro v l; rfl
 | succ n ih => intro v l; simp only [absorbN]; rw [ih, List.length_drop]; omega
theorem absorb_length (v : St) (l : List UInt8) : (absorb v l).2.length = l.length % 64 := by
 unfold absorb
 rw [absorbN_length]
 omega
end Go.Proofs.YtnlabkogebnioaaGreatDoor.Sha
