/- What PackBack needs, part 4. -/
import Derived.Test.YtnlabkogebnioaaGreatDoorPackBackP3
namespace Go.Proofs.YtnlabkogebnioaaGreatDoor
open Go.RowKit Sha
theorem frames_any (s : List UInt8) (w : World) : Calls Tryz.prog 87 #[str s] w fun e w' => ∃ gB, e = .returned (.func (.func 133) #[] #[.pointer (some ⟨gB, 0, none⟩)]) ∧ Blk w' gB 9 #[str s] ∧ w.heap.size ≤ gB ∧ Below w.heap.size w w' := by
 refine W_enter (args := [str s]) 4 Tryz.func87 rfl rfl rfl (W_sub [(0, str s)] ?_ ⟨rfl, trivial⟩)
 have hbw := Below.refl w.heap.size w
 refine W_rs (sbox rfl rfl rfl (fun g1 w1 hB1 hg1 hb hl1 => ?_))
 replace hbw := bthen hbw hb
 have hz_w1 := hb.size
 clear hb
 refine sa rfl rfl (Wn (tN (W_rs (st (w' := w1) (v := .func (.func 133) #[] #[.pointer (some ⟨g1, 0, none⟩)]) (fun ρ hρ => by unfold execOp; simp [hρ (.tmp 1) _ rfl, Instr.makeFunc]) rfl ?_))))
 refine sa rfl rfl (Wn (tN (W_ret ?_)))
 exact (rT rfl rfl ⟨g1, rfl, hB1, hg1, hbw⟩).1
theorem bscn (b : Nat) (w : World) : (Instr.build 97 #[(1, .map (some b))]).run Tryz.prog w = .ok (.agg #[.slice none 0 0, .map (some b), .int .i64 0, .bool false]) w := by kernel_rfl
theorem wp_seqW {P : Program} {N : Nat} {x y : Code} {Qr : Exit → Act → World → Prop} {l : Env} {a : Act} {w : World} (h : W P N [] (onlyN (fun l w => ∀ a, Rep N [] l a → y.wp P Qr a w)) x l w) (ha : Rep N [] l a) : (Code.seq x y).wp P Qr a w :=
 wp_seq (Code.wp_mono (fun e a w hq => by
  obtain ⟨l', hr, hq⟩ := hq
  cases e with
  | normal => exact hq a hr
  | _ => exact hq.elim) (h a ha))
structure ScI (w : World) (B gx gm g3 g6 : Nat) (n : Int) (x : Scn) (W : World) : Prop where
  scn : ∃ v, ScnAt W gx gm v x ∧ (∀ k, v.ownBlock = some k → B ≤ k)
  b3 : Blk W g3 3 #[.int .i64 n]
  b6 : Blk W g6 92 #[.pointer (some ⟨gx, 0, none⟩)]
  below : Below w.heap.size w W
  sz : B ≤ W.heap.size
structure ScO (w : World) (B gx gm g3 g6 gB : Nat) : Prop where
  h3 : w.heap.size ≤ g3
  hm : g3 < gm
  hx : gm < gx
  h6 : gx < g6
  hB : g6 < gB
  hBB : gB < B
theorem ScI.grown {w W W' : World} {B gx gm g3 g6 gB : Nat} {n : Int} {x : Scn} {row : Option Nat} (h : ScI w B gx gm g3 g6 n x W) (ho : ScO w B gx gm g3 g6 gB) (hg : W.grownBy W' row) (hr : ∀ r, row = some r → B ≤ r ∧ ∃ o : Obj, W.heap[r]? = some o ∧ o.isCells = false) : ScI w B gx gm g3 g6 n x W' := by
 have h1 := ho.h3; have h2 := ho.hm; have h3 := ho.hx; have h4 := ho.h6; have h5 := ho.hB; have h6 := ho.hBB
 obtain ⟨v, hs, hv⟩ := h.scn
 have hc := chg_of_grown hg
 refine ⟨⟨v, hs.chg hc (fun e => by have := (hr _ e).1; omega) (fun e => by have := (hr _ e).1; omega) (fun k hk e => by
  obtain ⟨o, ho, hn⟩ := (hr _ e).2
  have := hs.row.onCells k o hk ho
  rw [hn] at this
  cases this), hv⟩, h.b3.chg hc (fun e => by have := (hr _ e).1; omega), h.b6.chg hc (fun e => by have := (hr _ e).1; omega), ?_, ?_⟩
 ·exact h.below.grown hg h.below.size (fun k e => by have := (hr _ e).1; omega)
 ·exact Nat.le_trans h.sz hg.size
theorem keepsFrom_scan {W W' : World} {B gx gm : Nat} {v : Value} {x : Scn} (hs : ScnAt W gx gm v x) (hc : Chg (fun k => k = gx ∨ k = gm ∨ v.ownBlock = some k) W W') (h1 : gx < B) (h2 : gm < B) : KeepsFrom B W W' :=
 ⟨hc.size, fun k o hB hk ho => (hc.block k (Array.getElem?_eq_some_iff.1 hk).1 (by
  rintro (rfl | rfl | e)
  ·omega
  ·omega
  ·have := hs.row.onCells k o e hk
   rw [ho] at this
   cases this)).trans hk⟩
def ScnOwn (B : Nat) (gx gm : Nat) (v : Value) : Prop := B ≤ gx ∧ B ≤ gm ∧ ∀ k, v.ownBlock = some k → B ≤ k
def ScanPost (w : World) (r : Scn × Int) (e : Ending) (w' : World) : Prop :=
  ∃ p : Option Addr, e = .returned (.tuple #[.pointer p, .int .i64 r.2]) ∧ (r.2 ≠ 0 → p = none) ∧
  (r.2 = 0 → ∃ gx gm v, p = some ⟨gx, 0, none⟩ ∧ ScnAt w' gx gm v r.1 ∧ ScnOwn w.heap.size gx gm v) ∧ Below w.heap.size w w'
set_option maxRecDepth 10000 in
theorem scan_any (s : List UInt8) (n : Int) (w : World) (hT : ShaTabs w) (hs : s.length ≤ 16777216) :
  Calls Tryz.prog 42 #[str s, .int .i64 n] w (ScanPost w (scanP s n)) := by
 by_cases hn : rightP n = true
 rotate_left
 ·have hp : scanP s n = (⟨[], 0, false⟩, 1) := by unfold scanP; rw [if_pos (by simpa using hn)]
  rw [hp]
  refine W_enter (args := [str s, .int .i64 n]) 52 Tryz.func42 rfl rfl rfl (W_sub [(0, str s), (1, .int .i64 n)] ?_ ⟨rfl, rfl, trivial⟩)
  have hbw := Below.refl w.heap.size w
  refine W_rs (sbox rfl rfl rfl (fun g3 w1 hB3 hg3 hb hl3 => ?_))
  replace hbw := bthen hbw hb
  have hz_w1 := hb.size
  clear hb
  refine sa rfl rfl (sa rfl rfl (Wn (tN (W_seq (W_rs (st (X.ldL rfl hB3 Tryz.underlying3 rfl rfl) rfl (sc _ Tryz.func86 rfl (by kernel_rfl) rfl rfl ((pright_any n _).mono ?_))))))))
  rintro e_ w2 ⟨rfl, hb⟩
  refine cR ?_
  replace hbw := bthen hbw hb
  replace hB3 := hB3.bel hb
  have hz_w2 := hb.size
  clear hb
  refine st (X.not rfl) rfl (Wn (tN (W_yes rfl (by simpa using hn) ?_)))
  refine W_rs (sa rfl rfl (sa rfl rfl (Wn (tN (W_ret (tR ?_))))))
  exact (rTT rfl rfl rfl ⟨none, rfl, fun _ => rfl, fun h => absurd h (by decide), hbw⟩).1
 refine (callsIn_wide (n := 1)).1 (callsIn_of_wp_marks Tryz.func42 rfl trivial (wpIn_wide.2 ?_) rfl)
 refine wp_seqW (N := 52) (l := [(0, str s), (1, .int .i64 n)]) ?_ ⟨by kernel_rfl, rfl, okL_val ⟨by kernel_rfl, by kernel_rfl, trivial⟩⟩
 have hbw := Below.refl w.heap.size w
 refine W_reg (sbox rfl rfl rfl (fun g3 w1 hB3 hg3 hb hl3 => ?_))
 replace hbw := bthen hbw hb
 clear hb
 refine sa rfl rfl (sa rfl rfl (Wn (nN fun a ha => (wp_seqW ?_ ha))))
 refine W_rs (st (X.ldL rfl hB3 Tryz.underlying3 rfl rfl) rfl (sc _ Tryz.func86 rfl (by kernel_rfl) rfl rfl ((pright_any n _).mono ?_)))
 rintro e_ w2 ⟨rfl, hb⟩
 refine cR ?_
 replace hbw := bthen hbw hb
 replace hB3 := hB3.bel hb
 have hz2 := hb.size
 clear hb ha a
 refine st (X.not rfl) rfl (Wn (tN (W_no rfl (by rw [hn]; rfl) ?_)))
 refine W_skip (nN fun a ha => (wp_seqW ?_ ha))
 refine W_reg (smm (enc := encSum) (encv := encInt) rfl (fun gm w3 hM hgm hb hlm => ?_))
 replace hbw := bthen hbw hb
 replace hB3 := hB3.bel hb
 have hz3 := hb.size
 clear hb ha a
 refine st (X.bld rfl (bscn gm _)) rfl (sboxA rfl rfl (fun gx w4 hBx hgx hb hlx => ?_))
 replace hbw := bthen hbw hb
 replace hB3 := hB3.bel hb
 replace hM := hM.bel hb
 have hz4 := hb.size
 clear hb
 refine sal1 inf92 rfl rfl (fun g6 w5 hB6 hg6 hb hl6 => ?_)
 replace hbw := bthen hbw hb
 replace hB3 := hB3.bel hb
 replace hM := hM.bel hb
 replace hBx := hBx.bel hb
 have hz5 := hb.size
 clear hb
 refine ssB rfl rfl hB6 siz92 rfl (by decide) (fun w6 hB_ hc_ => ?_)
 replace hB6 := hB_
 replace hB3 := hB3.chg hc_ (by show ¬ g3 = g6; omega)
 replace hM := hM.chg hc_ (by show ¬ gm = g6; omega)
 replace hBx := hBx.chg hc_ (by show ¬ gx = g6; omega)
 replace hbw := bset hbw hc_ (by omega)
 have hz6 := hc_.size
 clear hB_ hc_
 refine Wn (nN fun a ha => (wp_seq (wp_seqW ?_ ha)))
 refine W_reg (sm rfl rfl (sc _ Tryz.func87 rfl (by kernel_rfl) rfl rfl ((frames_any s _).mono ?_)))
 rintro e_ w7 ⟨gB, rfl, hBs, hgB, hb⟩
 refine cR ?_
 replace hbw := bthen hbw hb
 replace hB3 := hB3.bel hb
 replace hM := hM.bel hb
 replace hBx := hBx.bel hb
 replace hB6 := hB6.bel hb
 have hz7 := hb.size
 clear hb ha a
 refine Wn (nN fun a ha => ?_)
 have hlB := hBs.lt
 have hO : ScO w w7.heap.size gx gm g3 g6 gB := ⟨hg3, by omega, by omega, by omega, by omega, hlB⟩
 have hT7 := hT.belowAll hbw
 have hz0 := hbw.size
 refine wp_block ((wpIn_wide (n := 1)).1 ?_)
 have hseq := frames_stops 0 w7 gB s hBs (by omega)
 refine wpIn_rangeFunc_ownH rfl (Nat.le_refl 1) (ha.knows (.tmp 15) _ rfl) trivial (fun args w => by kernel_rfl) hseq (fun h k => Eq.trans k h)
  (fun W l o o' hl h1 _ _ => by show (W.heap.setIfInBounds l o')[gB]? = _; rw [Array.getElem?_setIfInBounds, if_neg (by have := hO.hBB; omega)]) (Below.refl _ _) (fun _ => rfl)
  (fun pre W => ∃ x, goF n sc0 (pre.map (·.1)) = some x ∧ ScI w w7.heap.size gx gm g3 g6 n x W)
  (fun c pre W => c = .exit 0 ∧ ∃ q p x, pre.map (·.1) = q ++ [p] ∧ goF n sc0 q = some x ∧ stepF n x p = none ∧ ScI w w7.heap.size gx gm g3 g6 n x W)
  (fun pre W W' row h hg hr => by obtain ⟨x, h1, h2⟩ := h; exact ⟨x, h1, h2.grown hO hg hr⟩)
  (fun c pre W W' row h hg hr => by obtain ⟨hc, q, p, x, h1, h2, h3, h4⟩ := h; exact ⟨hc, q, p, x, h1, h2, h3, h4.grown hO hg hr⟩)
  ⟨sc0, rfl, ⟨_, ⟨hBx, Row.nil _ _ _, ⟨[], hM, rfl⟩, by simp [S32, sc0]⟩, fun k hk => by simp [Value.ownBlock] at hk⟩, hB3, hB6, hbw, Nat.le_refl _⟩
  (fun x a' W => ∃ g7, Rep 52 [] [(7, .pointer (some ⟨g7, 0, none⟩)), (3, .pointer (some ⟨g3, 0, none⟩)), (6, .pointer (some ⟨g6, 0, none⟩))] a' ∧ Blk W g7 159 #[.int .u8 x.1.kind.toNat, str x.1.body, .int .i64 x.1.pos, .int .i64 x.1.next] ∧ w7.heap.size ≤ g7)
  (fun x a' _ W W' row h hg hr => by obtain ⟨g7, h1, h2, h3⟩ := h; exact ⟨g7, h1, h2.grown hg (fun r e => (hr r e).2), h3⟩) ?_ ?_ ?_ ?_
 ·-- the loop's variable is laid
  intro lp pre x W K hI hK
  have ha' : Rep 52 [] [(16, encPc x.1), (3, .pointer (some ⟨g3, 0, none⟩)), (6, .pointer (some ⟨g6, 0, none⟩))] { tmps := (#[16].zip #[encPc x.1]).foldl (fun t (p, v) => t.setIfInBounds p v) a.tmps, defers := [] } := by
   have := (ha.sub (r := [(3, .pointer (some ⟨g3, 0, none⟩)), (6, .pointer (some ⟨g6, 0, none⟩))]) ⟨rfl, rfl, trivial⟩).put (d := 16) rfl (encPc x.1)
   have e : ({ tmps := (#[16].zip #[encPc x.1]).foldl (fun t (p, v) => t.setIfInBounds p v) a.tmps, defers := [] } : Act) = a.put (some 16) (encPc x.1) := by
    have hd := ha.defers
    cases a
    simp at hd
    subst hd
    simp [Act.put]
   rw [e]
   exact this
  obtain ⟨x0, hx0, hI0⟩ := hI
  refine outI (Q := fun e l W' => e = .normal ∧ ∃ g7, l = [(7, .pointer (some ⟨g7, 0, none⟩)), (3, .pointer (some ⟨g3, 0, none⟩)), (6, .pointer (some ⟨g6, 0, none⟩))] ∧ Blk W' g7 159 #[.int .u8 x.1.kind.toNat, str x.1.body, .int .i64 x.1.pos, .int .i64 x.1.next] ∧ W.heap.size ≤ g7 ∧ Below W.heap.size W W') ?_ ha' ?_
  ·refine WLI_of rfl (fun l w h => by cases h.1) ?_
   refine salA inf159 rfl (fun g7 wa hB7 hg7 hb hl7 => (ssBN rfl rfl hB7 siz159 rfl rfl (fun wb hB_ hc => (WL_sub [(7, .pointer (some ⟨g7, 0, none⟩)), (3, .pointer (some ⟨g3, 0, none⟩)), (6, .pointer (some ⟨g6, 0, none⟩))] ?_ ⟨rfl, rfl, rfl, trivial⟩))))
   exact Wn ⟨rfl, g7, rfl, hB_, hg7, bset hb hc hg7⟩
  ·rintro e l a' W' hr ⟨rfl, g7, rfl, hB7, hg7, hb⟩
   have hch : Chg (fun _ => False) W W' := Chg.of_below hb _
   have hoc : OnCells (fun _ => False) W := fun k o h _ => h.elim
   have hz := hI0.b6.lt
   obtain ⟨v, hs1, hv1⟩ := hI0.scn
   have hzz := hI0.sz
   have hzb := hb.size
   exact hK a' W' (keepsFrom_of hch hoc _) (hb.block gB (by have := hO.hBB; omega)) ⟨x0, hx0, ⟨v, hs1.bel hb, hv1⟩, hI0.b3.bel hb, hI0.b6.bel hb, bthen hI0.below hb, by omega⟩ ⟨g7, hr, hB7, by omega⟩
 ·-- the body
  intro lp pre x a' W _ _ hI ⟨g7, hr, h7, hg7⟩ hlen
  obtain ⟨x0, hx0, hI0⟩ := hI
  obtain ⟨v, hSn, hv⟩ := hI0.scn
  have hzW := hI0.sz
  have h3 := hI0.b3
  have h6 := hI0.b6
  have hTW := hT.belowAll hI0.below
  have hN : NoTab (fun k => k = gx ∨ k = gm ∨ v.ownBlock = some k) := by
   have hnt := noTab_from hT (Nat.le_refl _)
   have o1 := hO.h3; have o2 := hO.hm; have o3 := hO.hx; have o4 := hO.h6; have o5 := hO.hB; have o6 := hO.hBB
   refine ⟨?_, ?_⟩
   ·rintro (e | e | e)
    ·exact hnt.1 (by omega)
    ·exact hnt.1 (by omega)
    ·exact hnt.1 (by have := hv _ e; omega)
   ·rintro (e | e | e)
    ·exact hnt.2 (by omega)
    ·exact hnt.2 (by omega)
    ·exact hnt.2 (by have := hv _ e; omega)
  have hl0 : x0.l.length ≤ 20000000 := by
   have h1 := goF_len hx0
   simp only [List.length_map] at h1
   have : sc0.l.length = 0 := rfl
   omega
  have o1 := hO.h3; have o2 := hO.hm; have o3 := hO.hx; have o4 := hO.h6; have o5 := hO.hB; have o6 := hO.hBB
  have hvl := rowLt hSn.row
  have hn3 : ¬ (g3 = gx ∨ g3 = gm ∨ v.ownBlock = some g3) := by rintro (e | e | e); omega; omega; have := hv _ e; omega
  have hn6 : ¬ (g6 = gx ∨ g6 = gm ∨ v.ownBlock = some g6) := by rintro (e | e | e); omega; omega; have := hv _ e; omega
  have hnB : ¬ (gB = gx ∨ gB = gm ∨ v.ownBlock = some gB) := by rintro (e | e | e); omega; omega; have := hv _ e; omega
  have hn7 : ¬ v.ownBlock = some g7 := fun e => hSn.row.ne2 h7 (by decide) _ e rfl
  have hmap : (pre ++ [x]).map (·.1) = pre.map (·.1) ++ [x.1] := by simp
  refine WI_out (n := 1 - 1 - 1) (l := [(7, .pointer (some ⟨g7, 0, none⟩)), (3, .pointer (some ⟨g3, 0, none⟩)), (6, .pointer (some ⟨g6, 0, none⟩))])
   (Q := fun e _ W' => ∃ y, Chg (fun k => k = gx ∨ k = gm ∨ v.ownBlock = some k) W W' ∧ Blk W' g3 3 #[.int .i64 n] ∧ Blk W' g6 92 #[.pointer (some ⟨gx, 0, none⟩)] ∧
    (∃ v', ScnAt W' gx gm v' y ∧ (∀ k, v'.ownBlock = some k → w7.heap.size ≤ k)) ∧ ((e = .normal ∧ stepF n x0 x.1 = some y) ∨ (e = .exit 0 ∧ stepF n x0 x.1 = none ∧ y = x0))) ?_ hr ?_
  ·have hqo_ : ∀ (l : Env) (w : World), ¬ (∃ y, Chg (fun k => k = gx ∨ k = gm ∨ v.ownBlock = some k) W w ∧ Blk w g3 3 #[.int .i64 n] ∧ Blk w g6 92 #[.pointer (some ⟨gx, 0, none⟩)] ∧
    (∃ v', ScnAt w gx gm v' y ∧ (∀ k, v'.ownBlock = some k → w7.heap.size ≤ k)) ∧ ((Exit.outgrown = .normal ∧ stepF n x0 x.1 = some y) ∨ (Exit.outgrown = .exit 0 ∧ stepF n x0 x.1 = none ∧ y = x0))) := by
    rintro l w ⟨y, _, _, _, _, (⟨h, _⟩ | ⟨h, _⟩)⟩ <;> cases h
   have hcw := Chg.refl (fun k => k = gx ∨ k = gm ∨ v.ownBlock = some k) W
   refine WI_block (WI_seq (WI_seq (WI_reg rfl (fun l_ w_ h_ => hqo_ l_ w_ h_) (st (X.fa fa159_2 rfl) rfl (st (X.ldL rfl h7 Tryz.underlying3 rfl rfl) rfl (st (X.eql rfl rfl) rfl (Wn (tN (WI_if rfl (fun h19 => ?_) (fun h19 => ?_))))))))))
   ·first | replace h19 := of_decide_eq_true h19 | replace h19 := of_decide_eq_false (notT h19) | replace h19 := notT h19 | skip
    refine WI_seq ?_
    by_cases hsp_ : x.1.kind = 1
    ·refine WI_seq (WI_drN (fun W_ => Blk W_ g3 3 #[.int .i64 n] ∧ Blk W_ g7 159 #[.int .u8 x.1.kind.toNat, str x.1.body, .int .i64 x.1.pos, .int .i64 x.1.next]) [0, 1, 2, 3, 4, 5, 6, 7, 8, 9] [true, true, true, true, true, true, true, false, true, true] (by kernel_rfl) (by kernel_rfl) rfl (⟨h3.drew, h7.drew⟩) ?_)
     obtain ⟨w1, hw_⟩ : ∃ w1 : World, w1 = World.drew W := ⟨_, rfl⟩
     rw [← hw_]
     have hb : Below W.heap.size W w1 := by rw [hw_]; exact bdrew (Below.refl _ _)
     clear hw_
     have hS := hb
     replace hcw := hcw.then_below hb
     replace h3 := h3.bel hb
     replace h6 := h6.bel hb
     replace h7 := h7.bel hb
     replace hSn := hSn.bel hb
     have hz_w1 := hb.size
     clear hb
     refine oY rfl (fun W_ hW_ => (X.fa fa159_0 rfl)) rfl (oY rfl (fun W_ hW_ => (X.ldL rfl hW_.2 Tryz.underlying5 rfl rfl)) rfl (oY rfl (fun W_ hW_ => (X.neq rfl rfl)) rfl (oY rfl (fun W_ hW_ => (X.mvB (c := false) rfl (by rw [hsp_]; rfl))) rfl ?_)))
     refine oYg (g := 23) rfl rfl rfl rfl (fun W_ hW_ => (X.fa fa159_1 rfl)) rfl (oYg (g := 23) rfl rfl rfl rfl (fun W_ hW_ => (X.ldL rfl hW_.2 Tryz.underlying9 rfl rfl)) rfl (oYg (g := 23) rfl rfl rfl rfl (fun W_ hW_ => (X.ldL rfl hW_.1 Tryz.underlying3 rfl rfl)) rfl (oL rfl (fun Q_ hQ_ hP_ => (gY (g := 23) rfl rfl rfl (sc _ Tryz.func53 rfl (by kernel_rfl) rfl rfl ((pfour_any n _).mono ?_)))))))
     rintro e_ w2 ⟨rfl, hb⟩
     refine cR ?_
     replace hcw := hcw.then_below hb
     replace h3 := h3.bel hb
     replace h6 := h6.bel hb
     replace h7 := h7.bel hb
     replace hSn := hSn.bel hb
     have hz_w2 := hb.size
     clear hb
     refine Wn (hQ_ _ _ (⟨h3, h7⟩) ?_)
     clear hQ_ hP_ Q_
     refine oYg (g := 23) rfl rfl rfl rfl (fun W_ hW_ => (X.neS rfl rfl)) rfl (oY rfl (fun W_ hW_ => (X.pickF rfl rfl)) rfl (oN (nN (WI_if rfl (fun h29 => ?_) (fun h29 => ?_)))))
     ·first | replace h29 := of_decide_eq_true h29 | replace h29 := of_decide_eq_false (notT h29) | replace h29 := notT h29 | skip
      refine WI_exit (tE (tE (bM rfl ?_)))
      exact ⟨x0, hcw, h3, h6, ⟨v, hSn, hv⟩, .inr ⟨rfl, by unfold stepF; rw [if_pos (by omega), if_neg (fun e => h29 e.2)], rfl⟩⟩
     ·first | replace h29 := of_decide_eq_false h29 | replace h29 := of_decide_eq_true (notF h29) | replace h29 := notF h29 | skip
      refine WI_skip (tN (WI_seq (WI_reg rfl (fun l_ w_ h_ => hqo_ l_ w_ h_) (st (X.ldL rfl h6 Tryz.underlying92 rfl rfl) rfl (st (X.fa fa159_3 rfl) rfl (st (X.ldL rfl h7 Tryz.underlying3 rfl rfl) rfl (st (X.nilChk rfl) rfl (st (X.fa fa97_2 rfl) rfl (ssB rfl rfl hSn.blk siz3 rfl (by simp) (fun w3 hB_ hc_ => ?_))))))))))
      have hSn2 : ScnAt w3 gx gm v { x0 with good := x.1.next } := ⟨hB_, hSn.row.chg hc_ (fun k hk e => by have := hv k hk; have e : k = gx := e; omega), by obtain ⟨m, a, b⟩ := hSn.map; exact ⟨m, a.chg hc_ (by show ¬ gm = gx; omega), b⟩, hSn.s32⟩
      replace h3 := h3.chg hc_ (by show ¬ g3 = gx; omega)
      replace h6 := h6.chg hc_ (by show ¬ g6 = gx; omega)
      replace hcw := hcw.next hc_ (fun i hi => .inl (.inl hi))
      clear hB_ hc_ hSn
      refine Wn (tN (WI_exit (tE (bH ?_))))
      exact ⟨_, hcw, h3, h6, ⟨v, hSn2, hv⟩, .inl ⟨rfl, by unfold stepF; rw [if_pos (by omega), if_pos ⟨hsp_, Decidable.of_not_not h29⟩]⟩⟩
    ·refine WI_seq (WI_drN (fun W_ => Blk W_ g3 3 #[.int .i64 n] ∧ Blk W_ g7 159 #[.int .u8 x.1.kind.toNat, str x.1.body, .int .i64 x.1.pos, .int .i64 x.1.next]) [0, 1, 2, 3, 4, 5, 6, 7, 8, 9] [true, true, true, true, true, true, true, false, true, true] (by kernel_rfl) (by kernel_rfl) rfl (⟨h3.drew, h7.drew⟩) ?_)
     obtain ⟨w4, hw_⟩ : ∃ w4 : World, w4 = World.drew W := ⟨_, rfl⟩
     rw [← hw_]
     have hb : Below W.heap.size W w4 := by rw [hw_]; exact bdrew (Below.refl _ _)
     clear hw_
     have hS := hb
     replace hcw := hcw.then_below hb
     replace h3 := h3.bel hb
     replace h6 := h6.bel hb
     replace h7 := h7.bel hb
     replace hSn := hSn.bel hb
     have hz_w4 := hb.size
     clear hb
     refine oY rfl (fun W_ hW_ => (X.fa fa159_0 rfl)) rfl (oY rfl (fun W_ hW_ => (X.ldL rfl hW_.2 Tryz.underlying5 rfl rfl)) rfl (oY rfl (fun W_ hW_ => (X.neq rfl rfl)) rfl (oY rfl (fun W_ hW_ => (X.mvB (c := true) rfl (decide_eq_true (by intro e; exact hsp_ (UInt8.toNat.inj (by show x.1.kind.toNat = 1; omega)))))) rfl ?_)))
     refine oNg (g := 23) rfl rfl rfl rfl (⟨h3, h7⟩) rfl (oNg (g := 23) rfl rfl rfl rfl (⟨h3, h7⟩) rfl (oNg (g := 23) rfl rfl rfl rfl (⟨h3, h7⟩) rfl (oNg (g := 23) rfl rfl rfl rfl (⟨h3, h7⟩) rfl (oNg (g := 23) rfl rfl rfl rfl (⟨h3, h7⟩) rfl (oY rfl (fun W_ hW_ => (X.pickT rfl rfl)) rfl (oN (nN (WI_yes rfl (rfl) (WI_exit (tE (tE (bM rfl ?_))))))))))))
     exact ⟨x0, hcw, h3, h6, ⟨v, hSn, hv⟩, .inr ⟨rfl, by unfold stepF; rw [if_pos (by omega), if_neg (fun e => hsp_ e.1)], rfl⟩⟩
   ·first | replace h19 := of_decide_eq_false h19 | replace h19 := of_decide_eq_true (notF h19) | replace h19 := notF h19 | skip
    refine WI_skip (tN (WI_seq (WI_reg rfl (fun l_ w_ h_ => hqo_ l_ w_ h_) (st (X.ldL rfl h6 Tryz.underlying92 rfl rfl) rfl (st (X.nilChk rfl) rfl (st (X.fa fa97_3 rfl) rfl (st (X.ldL rfl hSn.blk Tryz.underlying4 rfl rfl) rfl (sb rfl rfl (fun h39 => ?_) (fun h39 => ?_)))))))))
    ·first | replace h39 := of_decide_eq_true h39 | replace h39 := of_decide_eq_false (notT h39) | replace h39 := notT h39 | skip
     refine gN (g := 39) rfl rfl rfl rfl (gN (g := 39) rfl rfl rfl rfl (gN (g := 39) rfl rfl rfl rfl (gN (g := 39) rfl rfl rfl rfl (gN (g := 39) rfl rfl rfl rfl (st (X.pickT rfl rfl) rfl (Wn (tN (WI_yes rfl (rfl) (WI_exit (bM rfl ?_))))))))))
     exact ⟨x0, hcw, h3, h6, ⟨v, hSn, hv⟩, .inr ⟨rfl, by unfold stepF; rw [if_neg (by omega), if_pos h39], rfl⟩⟩
    ·first | replace h39 := of_decide_eq_false h39 | replace h39 := of_decide_eq_true (notF h39) | replace h39 := notF h39 | skip
     refine gY (g := 39) rfl rfl rfl (st (X.ldL rfl h6 Tryz.underlying92 rfl rfl) rfl (gY (g := 39) rfl rfl rfl (st (X.ldBN rfl h7 Tryz.underlying159 rfl siz159) rfl (gY (g := 39) rfl rfl rfl (st (X.ldL rfl h3 Tryz.underlying3 rfl rfl) rfl (gY (g := 39) rfl rfl rfl (sc _ Tryz.func88 rfl (by kernel_rfl) rfl rfl ((ptake_any gx gm v x0 x.1 n _ hSn (hTW.chg hcw hN) hN hl0 x.2).mono ?_))))))))
     rintro e_ w5 ⟨v', rfl, hS', hv', hC1⟩
     refine cR ?_
     replace h3 := h3.chg hC1 hn3
     replace h6 := h6.chg hC1 hn6
     replace hcw := hcw.next hC1 (fun i hi => .inl hi)
     have hzc := hC1.size
     clear hC1
     refine gY (g := 39) rfl rfl rfl (st (X.not rfl) rfl (st (X.pickF rfl rfl) rfl (Wn (tN (WI_if rfl (fun h45 => ?_) (fun h45 => ?_))))))
     ·first | replace h45 := of_decide_eq_true h45 | replace h45 := of_decide_eq_false (notT h45) | replace h45 := notT h45 | skip
      refine WI_exit (bM rfl ?_)
      have hno : takeF n x0 x.1 = none := by cases h : takeF n x0 x.1 with | none => rfl | some y => rw [h] at h45; simp at h45
      rw [hno] at hS'
      exact ⟨x0, hcw, h3, h6, ⟨v', hS', fun k hk => (hv' k hk).elim (hv k) (fun e => by omega)⟩, .inr ⟨rfl, by unfold stepF; rw [if_neg (by omega), if_neg (by rw [h39]; decide)]; exact hno, rfl⟩⟩
     ·first | replace h45 := of_decide_eq_false h45 | replace h45 := of_decide_eq_true (notF h45) | replace h45 := notF h45 | skip
      refine WI_skip (bN ?_)
      obtain ⟨y, hy⟩ : ∃ y, takeF n x0 x.1 = some y := by cases h : takeF n x0 x.1 with | none => rw [h] at h45; simp at h45 | some y => exact ⟨y, rfl⟩
      rw [hy] at hS'
      exact ⟨y, hcw, h3, h6, ⟨v', hS', fun k hk => (hv' k hk).elim (hv k) (fun e => by omega)⟩, .inl ⟨rfl, by unfold stepF; rw [if_neg (by omega), if_neg (by rw [h39]; decide)]; exact hy⟩⟩
  ·rintro e l a2 W' _ ⟨y, hC, h3', h6', hS', hcase⟩
   have hkf := keepsFrom_scan hSn hC (show gx < w7.heap.size by omega) (by omega)
   have hkb : KeepB gB W W' := hC.block gB (by omega) hnB
   have hbW : Below w.heap.size w W' := bchg hI0.below hC (by rintro k (e | e | e); omega; omega; have := hv _ e; omega)
   have hzC := hC.size
   rcases hcase with ⟨rfl, hst⟩ | ⟨rfl, hst, rfl⟩
   ·exact ⟨hkf, hkb, y, by rw [hmap, goF_snoc hx0]; exact hst, hS', h3', h6', hbW, by omega⟩
   ·exact ⟨hkf, rfl, pre.map (·.1), x.1, y, hmap, hx0, hst, hS', h3', h6', hbW, by omega⟩
 ·-- behind the loop
  intro D xs W hDle hxs hI hK
  obtain ⟨x, hx, hI⟩ := hI
  have hfold : foldF n sc0 (framesM s) = x := by rw [← hxs]; exact goF_fold hx
  show Code.wp _ _ _ _ _
  have haD : Rep 52 [{ target := .collected D, args := #[] }] [(6, .pointer (some ⟨g6, 0, none⟩))] { a with defers := { target := .collected D, args := #[] } :: a.defers } := by
   refine ⟨ha.size, by rw [ha.defers], fun t u hu => ha.val t u ?_⟩
   unfold lk at hu
   cases ht : Nat.beq t 6 with
   | true =>
    have e : t = 6 := Nat.eq_of_beq_eq_true ht
    subst e
    exact hu
   | false => rw [ht] at hu; cases hu
  refine W_out (N := 52) (ds := [{ target := .collected D, args := #[] }]) (l := [(6, .pointer (some ⟨g6, 0, none⟩))]) (Q := fun e l W' => W' = W ∧ e = .ret ∧ fnPost Tryz.prog Tryz.f42 (ScanPost w (scanP s n)) .ret l (W'.putObj D (.deferred none))) ?_ haD.size haD.defers ⟨haD.val 6 _ rfl, trivial⟩ ?_
  ·have h6 := hI.b6
   have hgr : W.grownBy (W.putObj D (.deferred none)) (some D) := grownBy_putObj' W D _
   have hI2 := hI.grown hO hgr (fun r e => by cases e; exact ⟨hDle, _, hK, rfl⟩)
   obtain ⟨v, hSn, hv⟩ := hI.scn
   obtain ⟨v2, hSn2, hv2⟩ := hI2.scn
   have o1 := hO.h3; have o2 := hO.hm; have o3 := hO.hx; have o4 := hO.h6; have o5 := hO.hB; have o6 := hO.hBB
   refine W_seq (W_rs (st (X.ldL rfl h6 Tryz.underlying92 rfl rfl) rfl (st (X.nilChk rfl) rfl (st (X.fa fa97_2 rfl) rfl (st (X.ldL rfl hSn.blk Tryz.underlying3 rfl rfl) rfl (st (X.eql rfl rfl) rfl (Wn (tN (W_if rfl (fun h50 => ?_) (fun h50 => ?_))))))))))
   ·first | replace h50 := of_decide_eq_true h50 | replace h50 := of_decide_eq_false (notT h50) | replace h50 := notT h50 | skip
    refine W_rs (sa rfl rfl (sa rfl rfl (Wn (tN (W_ret (tR (⟨rfl, rfl, (rTT rfl rfl rfl ?_).1⟩)))))))
    rw [scanP_fold s hn, hfold, if_pos (by omega)]
    exact ⟨none, rfl, fun _ => rfl, fun h => absurd h (by decide), hI2.below⟩
   ·first | replace h50 := of_decide_eq_false h50 | replace h50 := of_decide_eq_true (notF h50) | replace h50 := notF h50 | skip
    refine W_skip (tN (W_rs (st (X.ldL rfl h6 Tryz.underlying92 rfl rfl) rfl (sa rfl rfl (sa rfl rfl (Wn (tN (W_ret (⟨rfl, rfl, (rTT rfl rfl rfl ?_).1⟩)))))))))
    rw [scanP_fold s hn, hfold, if_neg (by omega)]
    exact ⟨some ⟨gx, 0, none⟩, rfl, fun h => absurd rfl h, fun _ => ⟨gx, gm, v2, rfl, hSn2, by omega, by omega, fun k hk => by have := hv2 k hk; omega⟩, hI2.below⟩
  ·rintro e l a3 W' hr3 ⟨rfl, rfl, hp⟩
   exact retM hr3 hK hp
 ·-- a round that was left
  intro D c pre W hDle hpre hIx hK
  obtain ⟨rfl, q, p, x, hq, hx, hst, hI⟩ := hIx
  have hfold : foldF n sc0 (framesM s) = x := by
   obtain ⟨t, ht⟩ := hpre
   rw [← ht, hq, List.append_assoc]
   exact foldF_stop hx hst
  refine wpIn_exit ?_
  show Code.wp _ _ _ _ _
  have haD : Rep 52 [{ target := .collected D, args := #[] }] [(6, .pointer (some ⟨g6, 0, none⟩))] { a with defers := { target := .collected D, args := #[] } :: a.defers } := by
   refine ⟨ha.size, by rw [ha.defers], fun t u hu => ha.val t u ?_⟩
   unfold lk at hu
   cases ht : Nat.beq t 6 with
   | true =>
    have e : t = 6 := Nat.eq_of_beq_eq_true ht
    subst e
    exact hu
   | false => rw [ht] at hu; cases hu
  refine W_out (N := 52) (ds := [{ target := .collected D, args := #[] }]) (l := [(6, .pointer (some ⟨g6, 0, none⟩))]) (Q := fun e l W' => W' = W ∧ e = .ret ∧ fnPost Tryz.prog Tryz.f42 (ScanPost w (scanP s n)) .ret l (W'.putObj D (.deferred none))) ?_ haD.size haD.defers ⟨haD.val 6 _ rfl, trivial⟩ ?_
  ·have h6 := hI.b6
   have hgr : W.grownBy (W.putObj D (.deferred none)) (some D) := grownBy_putObj' W D _
   have hI2 := hI.grown hO hgr (fun r e => by cases e; exact ⟨hDle, _, hK, rfl⟩)
   obtain ⟨v, hSn, hv⟩ := hI.scn
   obtain ⟨v2, hSn2, hv2⟩ := hI2.scn
   have o1 := hO.h3; have o2 := hO.hm; have o3 := hO.hx; have o4 := hO.h6; have o5 := hO.hB; have o6 := hO.hBB
   refine W_seq (W_rs (st (X.ldL rfl h6 Tryz.underlying92 rfl rfl) rfl (st (X.nilChk rfl) rfl (st (X.fa fa97_2 rfl) rfl (st (X.ldL rfl hSn.blk Tryz.underlying3 rfl rfl) rfl (st (X.eql rfl rfl) rfl (Wn (tN (W_if rfl (fun h50 => ?_) (fun h50 => ?_))))))))))
   ·first | replace h50 := of_decide_eq_true h50 | replace h50 := of_decide_eq_false (notT h50) | replace h50 := notT h50 | skip
    refine W_rs (sa rfl rfl (sa rfl rfl (Wn (tN (W_ret (tR (⟨rfl, rfl, (rTT rfl rfl rfl ?_).1⟩)))))))
    rw [scanP_fold s hn, hfold, if_pos (by omega)]
    exact ⟨none, rfl, fun _ => rfl, fun h => absurd h (by decide), hI2.below⟩
   ·first | replace h50 := of_decide_eq_false h50 | replace h50 := of_decide_eq_true (notF h50) | replace h50 := notF h50 | skip
    refine W_skip (tN (W_rs (st (X.ldL rfl h6 Tryz.underlying92 rfl rfl) rfl (sa rfl rfl (sa rfl rfl (Wn (tN (W_ret (⟨rfl, rfl, (rTT rfl rfl rfl ?_).1⟩)))))))))
    rw [scanP_fold s hn, hfold, if_neg (by omega)]
    exact ⟨some ⟨gx, 0, none⟩, rfl, fun h => absurd rfl h, fun _ => ⟨gx, gm, v2, rfl, hSn2, by omega, by omega, fun k hk => by have := hv2 k hk; omega⟩, hI2.below⟩
  ·rintro e l a3 W' hr3 ⟨rfl, rfl, hp⟩
   exact retM hr3 hK hp
end Go.Proofs.YtnlabkogebnioaaGreatDoor
namespace Go.Proofs.YtnlabkogebnioaaGreatDoor
open Go.RowKit Sha
structure Wri where
  n : Int
  l : List Ent
  closed : Bool
def headB (n : Int) : List UInt8 := sealM 1 (four n)
def chunkB (d : List UInt8) : List UInt8 := sealM 2 (sha d ++ d)
def footB (l : List Ent) : List UInt8 := sealM 3 (four l.length)
def pbeginM (D : DiskD) (n : Int) : Int × DiskD :=
  if rightP n = false then (1, D)
  else if (createM D (nameP n)).1 ≠ 0 then createM D (nameP n)
  else if (appendM (createM D (nameP n)).2 (nameP n) (headB n)).1 ≠ 0 then ((appendM (createM D (nameP n)).2 (nameP n) (headB n)).1, (removeM (appendM (createM D (nameP n)).2 (nameP n) (headB n)).2 (nameP n)).2)
  else appendM (createM D (nameP n)).2 (nameP n) (headB n)
def paddM (D : DiskD) (x : Wri) (d : List UInt8) : (Ent × Int) × Wri × DiskD :=
  if x.closed = true ∨ d = [] then ((eZ, 1), x, D)
  else if 1024 < d.length then ((eZ, 31), x, D)
  else match findM x.l (sha d) with
    | some e => ((e, 16), x, D)
    | none =>
      if (sizeM D (nameP x.n)).2 ≠ 0 then ((eZ, (sizeM D (nameP x.n)).2), x, D)
      else if (appendM D (nameP x.n) (chunkB d)).1 ≠ 0 then ((eZ, (appendM D (nameP x.n) (chunkB d)).1), x, (appendM D (nameP x.n) (chunkB d)).2)
      else ((⟨sha d, x.n, (sizeM D (nameP x.n)).1, d.length⟩, 0), { x with l := x.l ++ [⟨sha d, x.n, (sizeM D (nameP x.n)).1, d.length⟩] }, (appendM D (nameP x.n) (chunkB d)).2)
def pcloseM (D : DiskD) (x : Wri) : (List Ent × Int) × Wri × DiskD :=
  if x.closed = true then (([], 1), x, D)
  else if (appendM D (nameP x.n) (footB x.l)).1 ≠ 0 then (([], (appendM D (nameP x.n) (footB x.l)).1), x, (appendM D (nameP x.n) (footB x.l)).2)
  else if (syncM (appendM D (nameP x.n) (footB x.l)).2 (nameP x.n)).1 ≠ 0 then (([], (syncM (appendM D (nameP x.n) (footB x.l)).2 (nameP x.n)).1), x, (syncM (appendM D (nameP x.n) (footB x.l)).2 (nameP x.n)).2)
  else (((makeM x.l).1, 0), { x with closed := true }, (syncM (appendM D (nameP x.n) (footB x.l)).2 (nameP x.n)).2)
def preadM (D : DiskD) (k : Key) : List UInt8 × Int := match mget D.files k with
  | none => ([], 15)
  | some f => (f.now, 0)
def popenM (D : DiskD) (n : Int) : Scn × Int :=
  if rightP n = false then (sc0, 1)
  else if (preadM D (nameP n)).2 ≠ 0 then (sc0, (preadM D (nameP n)).2)
  else scanP (preadM D (nameP n)).1 n
def longM (n : Nat) : Nat := (sealM 2 (List.replicate (32 + n) 0)).length
def gotM (len : Int) (a s : List UInt8) : List UInt8 × Int :=
  if (nextM s).2.2.2 ≠ 0 ∨ (nextM s).1 ≠ 2 then ([], 35)
  else if openB (nextM s).2.1 = true ∧ (nextM s).2.1.take 32 = a ∧ ((nextM s).2.1.length : Int) = 32 + len then ((nextM s).2.1.drop 32, 0) else ([], 35)
def pgetM (D : DiskD) (n : Int) (l : List Ent) (a : List UInt8) : List UInt8 × Int := match findM l a with
  | none => ([], 15)
  | some e => match mget D.files (nameP n) with
    | none => ([], 15)
    | some f => if (f.now.length : Int) < e.pos then ([], 35) else gotM e.len a ((f.now.drop e.pos.toNat).take (longM e.len.toNat))
def newP (n : Int) : List UInt8 := idxP n ++ newB
def psaveM (D : DiskD) (n : Int) (l : List Ent) : Int × DiskD :=
  if rightP n = false then (1, D)
  else if (createM (removeM D (newP n)).2 (newP n)).1 ≠ 0 then createM (removeM D (newP n)).2 (newP n)
  else if (appendM (createM (removeM D (newP n)).2 (newP n)).2 (newP n) (encM l)).1 ≠ 0 then
    ((appendM (createM (removeM D (newP n)).2 (newP n)).2 (newP n) (encM l)).1, (removeM (appendM (createM (removeM D (newP n)).2 (newP n)).2 (newP n) (encM l)).2 (newP n)).2)
  else renameM (syncM (appendM (createM (removeM D (newP n)).2 (newP n)).2 (newP n) (encM l)).2 (newP n)).2 (newP n) (idxP n)
def ploadM (D : DiskD) (n : Int) : List Ent × Int :=
  if rightP n = false then ([], 1)
  else if (preadM D (idxP n)).2 ≠ 0 then ([], (preadM D (idxP n)).2)
  else decM (preadM D (idxP n)).1
def prebuildM (D : DiskD) (n : Int) : (List Ent × Int) × DiskD :=
  if (popenM D n).2 ≠ 0 then (([], (popenM D n).2), D)
  else if (psaveM D n (makeM (popenM D n).1.l).1).1 ≠ 0 then (([], (psaveM D n (makeM (popenM D n).1.l).1).1), (psaveM D n (makeM (popenM D n).1.l).1).2)
  else (((makeM (popenM D n).1.l).1, 0), (psaveM D n (makeM (popenM D n).1.l).1).2)
end Go.Proofs.YtnlabkogebnioaaGreatDoor
namespace Go.Proofs.YtnlabkogebnioaaGreatDoor
set_option maxRecDepth 10000 in
theorem or128B (b : UInt8) : (b ||| 128).toNat = b.toNat % 128 + 128 := by
 have h : ∀ n : Fin 256, (n.val ||| 128) = n.val % 128 + 128 := by decide
 rw [UInt8.toNat_or]
 exact h ⟨b.toNat, b.toNat_lt⟩
theorem uvM_uvF : ∀ (f i x y : Nat) (r : List UInt8), y < 128 ^ (f + 1) → y < 128 ^ (9 - i) → i < 9 → (0 < i → 0 < y) → uvM i x (uvF (f + 1) y ++ r) = (x + y * 2 ^ (7 * i), i + (uvF (f + 1) y).length, 0) := by
 intro f
 induction f with
 | zero =>
  intro i x y r hy _ hi h0
  have hy' : y < 128 := by simpa using hy
  have hb : (UInt8.ofNat (y % 256)).toNat = y := by simp; omega
  rw [uvF_lt (by omega) hy', List.cons_append, List.nil_append, uvM, hb, if_neg (by omega), if_pos hy']
  rfl
 | succ f ih =>
  intro i x y r hy hy9 hi h0
  by_cases h8 : y < 128
  ·have hb : (UInt8.ofNat (y % 256)).toNat = y := by simp; omega
   rw [uvF_lt (by omega) h8, List.cons_append, List.nil_append, uvM, hb, if_neg (by omega), if_pos h8]
   rfl
  ·have hb : (UInt8.ofNat (y % 256)).toNat = y % 256 := by simp
   have hb2 : (UInt8.ofNat (y % 256) ||| 128).toNat = y % 128 + 128 := by rw [or128B, hb]; omega
   have hi2 : i + 1 < 9 := by
    rcases Nat.lt_or_ge (i + 1) 9 with h | h
    ·exact h
    ·rw [show 9 - i = 1 by omega] at hy9
     omega
   have e9 : (128 : Nat) ^ (9 - i) = 128 ^ (9 - (i + 1)) * 128 := by rw [show 9 - i = (9 - (i + 1)) + 1 by omega, Nat.pow_succ]
   have ef : (128 : Nat) ^ (f + 1 + 1) = 128 ^ (f + 1) * 128 := by rw [Nat.pow_succ]
   have := ih (i + 1) (x + (y % 128 + 128 - 128) * 2 ^ (7 * i)) (y / 128) r (by rw [ef] at hy; omega) (by rw [e9] at hy9; omega) hi2 (fun _ => by omega)
   rw [uvF_ge (by omega) h8, Nat.add_sub_cancel, List.append_assoc, List.cons_append, List.nil_append, uvM, hb2, if_neg (by omega), if_neg (by omega), this]
   have ep : 2 ^ (7 * (i + 1)) = 128 * 2 ^ (7 * i) := by rw [show 7 * (i + 1) = 7 * i + 7 by omega, Nat.pow_add, Nat.mul_comm]
   have e1 : x + (y % 128 + 128 - 128) * 2 ^ (7 * i) + y / 128 * 2 ^ (7 * (i + 1)) = x + y * 2 ^ (7 * i) := by
    rw [ep, ← Nat.mul_assoc, Nat.add_sub_cancel, Nat.add_assoc, ← Nat.add_mul]
    congr 2
    omega
   rw [e1]
   have e2 : i + 1 + (uvF (f + 1) (y / 128)).length = i + ((UInt8.ofNat (y % 256) ||| 128) :: uvF (f + 1) (y / 128)).length := by rw [List.length_cons]; omega
   rw [e2]
   rfl
theorem uvM_uvB (y : Nat) (r : List UInt8) (hy : y < 128 ^ 9) : uvM 0 0 (uvB y ++ r) = (y, (uvB y).length, 0) := by
 have := uvM_uvF 9 0 0 y r (Nat.lt_of_lt_of_le hy (by decide)) hy (by decide) (by omega)
 simpa [uvB] using this
theorem sealM_eq {k : UInt8} {b : List UInt8} (hk : k ≠ 0) (hb : b.length ≤ 1048576) : sealM k b = ([k] ++ (uvB b.length ++ b)) ++ fixB (Crc.crc ([k] ++ (uvB b.length ++ b))).toNat 4 := by
 unfold sealM
 rw [if_neg (fun e => by rcases e with e | e; exact hk e; omega)]
theorem seal_length {k : UInt8} {b : List UInt8} (hk : k ≠ 0) (hb : b.length ≤ 1048576) : (sealM k b).length = 1 + (uvB b.length).length + b.length + 4 := by
 rw [sealM_eq hk hb]
 simp only [List.length_append, List.length_cons, List.length_nil, fixB_length]
 omega
theorem nextM_seal {k : UInt8} {b : List UInt8} (t : List UInt8) (hk : k ≠ 0) (hb : b.length ≤ 1048576) : nextM (sealM k b ++ t) = (k, b, (sealM k b).length, 0) := by
 have hl := seal_length hk hb
 obtain ⟨u, hu⟩ : ∃ u, uvB b.length = u := ⟨_, rfl⟩
 obtain ⟨c, hc⟩ : ∃ c, Crc.crc ([k] ++ (u ++ b)) = c := ⟨_, rfl⟩
 have hcl := c.toNat_lt
 obtain ⟨s, hs⟩ : ∃ s, sealM k b ++ t = s := ⟨_, rfl⟩
 have hs1 : s = k :: (u ++ (b ++ (fixB c.toNat 4 ++ t))) := by
  rw [← hs, sealM_eq hk hb, hu, hc]
  simp
 have hsl : s.length = 1 + u.length + b.length + 4 + t.length := by
  rw [← hs, List.length_append, hl, hu]
 have hd1 : s.drop 1 = u ++ (b ++ (fixB c.toNat 4 ++ t)) := by rw [hs1]; rfl
 have hduv : uvM 0 0 (s.drop 1) = (b.length, u.length, 0) := by
  rw [hd1, ← hu]
  exact uvM_uvB _ _ (by omega)
 have huR : uvR s 1 0 = (b.length, 1 + u.length, 0) := by
  unfold uvR
  rw [hduv]
  simp
 have hdu : s.drop (1 + u.length) = b ++ (fixB c.toNat 4 ++ t) := by
  rw [← List.drop_drop, hd1, List.drop_left]
 have hT : textR s 1 1048576 = (b, 1 + u.length + b.length, 0) := by
  unfold textR takeM
  rw [huR]
  simp only [ne_eq, not_true_eq_false, if_false]
  rw [if_neg (by omega), if_neg (by omega), if_neg (by omega), hdu, List.take_left]
 have hdb : s.drop (1 + u.length + b.length) = fixB c.toNat 4 ++ t := by
  rw [← List.drop_drop, hdu, List.drop_left]
 have h4 : (s.drop (1 + u.length + b.length)).take 4 = fixB c.toNat 4 := by
  rw [hdb, List.take_append_of_le_length (by rw [fixB_length]; omega), List.take_of_length_le (by rw [fixB_length]; omega)]
 have htk : s.take (1 + u.length + b.length) = [k] ++ (u ++ b) := by
  have : s = ([k] ++ (u ++ b)) ++ (fixB c.toNat 4 ++ t) := by rw [hs1]; simp
  rw [this, List.take_append_of_le_length (by simp; omega), List.take_of_length_le (by simp; omega)]
 rw [hs, hl, hu]
 unfold nextM
 rw [if_neg (by rw [hs1]; simp), if_neg (by rw [hs1]; exact hk), hT]
 simp only [ne_eq, not_true_eq_false, if_false]
 rw [if_neg (by omega), h4, htk, hc, leN_fixB 4 c.toNat (by omega), if_neg (by simp), hs1]
 rfl
end Go.Proofs.YtnlabkogebnioaaGreatDoor
namespace Go.Proofs.YtnlabkogebnioaaGreatDoor
open Go.RowKit Sha
theorem d10_letter (n : Nat) : letterB (d10 n) = true := by
 have h : ∀ m : Fin 10, letterB (UInt8.ofNat (48 + m.val)) = true := by decide
 exact h ⟨n % 10, Nat.mod_lt _ (by omega)⟩
theorem dig_letters : ∀ (k n : Nat), (dig k n).all letterB = true
 | 0, _ => rfl
 | k + 1, n => by
  rw [dig, List.all_append, dig_letters k]
  simp [d10_letter]
theorem six_length (n : Nat) : (six n).length = 6 := dig_length 6 n
theorem namedP_ok {kind : List UInt8} {n : Int} (hn : rightP n = true) : namedP kind n = kind ++ six n.toNat := if_pos hn
theorem namedP_len (kind : List UInt8) (n : Int) : (namedP kind n).length ≤ kind.length + 6 := by
 unfold namedP
 split
 ·rw [List.length_append, six_length]; omega
 ·simp
theorem nameOk_of {a b : List UInt8} (ha : a ≠ []) (hl : a.length + b.length ≤ 64) (h1 : a.all letterB = true) (h2 : b.all letterB = true) : nameOk (a ++ b) = true := by
 unfold nameOk
 rw [List.all_append, h1, h2, List.length_append, decide_eq_true hl]
 cases a with
 | nil => exact absurd rfl ha
 | cons x a => rfl
theorem name_ok {n : Int} (hn : rightP n = true) : nameOk (nameP n) = true := by
 unfold nameP
 rw [namedP_ok hn]
 exact nameOk_of (by decide) (by rw [six_length]; decide) (by decide) (dig_letters _ _)
theorem idx_ok {n : Int} (hn : rightP n = true) : nameOk (idxP n) = true := by
 unfold idxP
 rw [namedP_ok hn]
 exact nameOk_of (by decide) (by rw [six_length]; decide) (by decide) (dig_letters _ _)
theorem new_ok {n : Int} (hn : rightP n = true) : nameOk (newP n) = true := by
 unfold newP idxP
 rw [namedP_ok hn, List.append_assoc]
 refine nameOk_of (by decide) (by rw [List.length_append, six_length]; decide) (by decide) ?_
 rw [List.all_append, show (six n.toNat).all letterB = true from dig_letters _ _]
 decide
theorem new_ne_idx (n : Int) : newP n ≠ idxP n := fun e => by
 have := congrArg List.length e
 unfold newP at this
 rw [List.length_append] at this
 simp [newB] at this
theorem idx_len (n : Int) : (idxP n).length ≤ 12 := namedP_len _ _
theorem headB_len (n : Int) : (headB n).length ≤ 20 := by
 unfold headB
 have h4 : (four n).length = 4 := four_length n
 rw [seal_length (by decide) (by omega), h4]
 have := uvB_length 4 (by omega)
 omega
theorem pbegin_good {n : Nat} {D : DiskD} (h : Good n D) (k : Int) : Good (n + 30) (pbeginM D k).2 := by
 have h1 := create_good h (nameP k)
 have h2 := append_good h1 (nameP k) (headB k)
 have hl := headB_len k
 unfold pbeginM
 split
 ·exact h.mono (by omega)
 split
 ·exact h1.mono (by omega)
 split
 ·exact (remove_good h2 _).mono (by omega)
 ·exact h2.mono (by omega)
theorem chunkB_len (d : List UInt8) (hd : d.length ≤ 1048000) : (chunkB d).length ≤ d.length + 50 := by
 unfold chunkB
 have h := sha_length d
 rw [seal_length (by decide) (by rw [List.length_append]; omega), List.length_append, h]
 have := uvB_length (32 + d.length) (by omega)
 omega
theorem footB_len (l : List Ent) : (footB l).length ≤ 20 := by
 unfold footB
 have h4 : (four (l.length : Int)).length = 4 := four_length _
 rw [seal_length (by decide) (by omega), h4]
 have := uvB_length 4 (by omega)
 omega
theorem padd_good {n : Nat} {D : DiskD} (h : Good n D) (x : Wri) (d : List UInt8) : Good (n + 1100) (paddM D x d).2.2 := by
 unfold paddM
 split
 ·exact h.mono (by omega)
 split
 ·exact h.mono (by omega)
 rename_i h1
 have h2 := append_good h (nameP x.n) (chunkB d)
 have hl := chunkB_len d (by omega)
 split
 ·exact h.mono (by omega)
 split
 ·exact h.mono (by omega)
 split
 ·exact h2.mono (by omega)
 ·exact h2.mono (by omega)
theorem pclose_good {n : Nat} {D : DiskD} (h : Good n D) (x : Wri) : Good (n + 30) (pcloseM D x).2.2 := by
 have h2 := append_good h (nameP x.n) (footB x.l)
 have hl := footB_len x.l
 unfold pcloseM
 split
 ·exact h.mono (by omega)
 split
 ·exact h2.mono (by omega)
 split
 ·exact (sync_good h2 _).mono (by omega)
 ·exact (sync_good h2 _).mono (by omega)
theorem psave_good {n : Nat} {D : DiskD} (h : Good n D) (k : Int) (l : List Ent) : Good (n + (encM l).length + 3) (psaveM D k l).2 := by
 have h0 := remove_good h (newP k)
 have h1 := create_good h0 (newP k)
 have h2 := append_good h1 (newP k) (encM l)
 unfold psaveM
 split
 ·exact h.mono (by omega)
 split
 ·exact h1.mono (by omega)
 split
 ·exact (remove_good h2 _).mono (by omega)
 ·exact (rename_good (sync_good h2 _) _ _).mono (by omega)
end Go.Proofs.YtnlabkogebnioaaGreatDoor
namespace Go.Proofs.YtnlabkogebnioaaGreatDoor
open Go.RowKit Sha
structure PTabs (B : Nat) (w : World) : Prop where
  sha : ShaTabs w
  pow : PowTab w
  k : 1 < B
  b : 0 < B
  p : 2 < B
theorem gPow : Tryz.prog.globalNamed "internal/strconv.uint64pow10" = some 2 := by kernel_rfl
theorem PTabs.chg {B : Nat} {w w' : World} {S : Nat → Prop} (h : PTabs B w) (hc : Chg S w w') (hS : ∀ k, S k → B ≤ k) : PTabs B w' := by
 refine ⟨h.sha.chg hc ⟨fun e => by have := hS _ e; have := h.k; omega, fun e => by have := hS _ e; have := h.b; omega⟩, ?_, h.k, h.b, h.p⟩
 have hp : w.var? Tryz.prog "internal/strconv.uint64pow10" = some (Lib.pow10Tab.map fun z => Value.int .u64 z).toArray := h.pow
 show w'.var? Tryz.prog "internal/strconv.uint64pow10" = some (Lib.pow10Tab.map fun z => Value.int .u64 z).toArray
 unfold World.var? at hp ⊢
 rw [gPow] at hp ⊢
 simp only [Option.bind_some] at hp ⊢
 have hlt : 2 < w.heap.size := by
  rcases Nat.lt_or_ge 2 w.heap.size with h' | h'
  ·exact h'
  ·rw [Array.getElem?_eq_none h'] at hp; cases hp
 rw [hc.block _ hlt (fun e => by have := hS _ e; have := h.p; omega)]
 exact hp
theorem PTabs.bel {B : Nat} {w w' : World} (h : PTabs B w) (hb : Below w.heap.size w w') : PTabs B w' := h.chg (Chg.of_below hb (fun _ => False)) (fun _ e => e.elim)
theorem PTabs.to {B C : Nat} {w : World} (h : PTabs B w) (hC : B ≤ C) : PTabs C w := ⟨h.sha, h.pow, by have := h.k; omega, by have := h.b; omega, by have := h.p; omega⟩
theorem nilEqPk (w : World) (a : Addr) : (binOp .eql 50 (.pointer (some a)) (.pointer none)).run Tryz.prog w = .ok (.bool false) w := by kernel_rfl
theorem nilEqNk (w : World) : (binOp .eql 50 (.pointer none) (.pointer none)).run Tryz.prog w = .ok (.bool true) w := by kernel_rfl
theorem nilNePk (w : World) (a : Addr) : (binOp .neq 50 (.pointer (some a)) (.pointer none)).run Tryz.prog w = .ok (.bool true) w := by kernel_rfl
theorem nilNeNk (w : World) : (binOp .neq 50 (.pointer none) (.pointer none)).run Tryz.prog w = .ok (.bool false) w := by kernel_rfl
theorem nilEqPw (w : World) (a : Addr) : (binOp .eql 44 (.pointer (some a)) (.pointer none)).run Tryz.prog w = .ok (.bool false) w := by kernel_rfl
theorem nilEqNw (w : World) : (binOp .eql 44 (.pointer none) (.pointer none)).run Tryz.prog w = .ok (.bool true) w := by kernel_rfl
theorem X.kEq {l : Env} {x : Operand} {w : World} {t' ty : TypeId} {p : Option Addr} (hx : ev l x = some (.pointer p)) : X Tryz.prog l (.binOp .eql 50 x (.const (.pointer none)) t') ty w (.bool p.isNone) w :=
 X.bin hx rfl guard_ptr (by cases p with | none => exact nilEqNk w | some a => exact nilEqPk w a)
theorem X.kNe {l : Env} {x : Operand} {w : World} {t' ty : TypeId} {p : Option Addr} (hx : ev l x = some (.pointer p)) : X Tryz.prog l (.binOp .neq 50 x (.const (.pointer none)) t') ty w (.bool p.isSome) w :=
 X.bin hx rfl guard_ptr (by cases p with | none => exact nilNeNk w | some a => exact nilNePk w a)
theorem X.wEq {l : Env} {x : Operand} {w : World} {t' ty : TypeId} {p : Option Addr} (hx : ev l x = some (.pointer p)) : X Tryz.prog l (.binOp .eql 44 x (.const (.pointer none)) t') ty w (.bool p.isNone) w :=
 X.bin hx rfl guard_ptr (by cases p with | none => exact nilEqNw w | some a => exact nilEqPw w a)
theorem sizeM_none {D : DiskD} {k : Key} (h : mget D.files k = none) : sizeM D k = (0, 15) := by unfold sizeM; rw [h]
theorem sizeM_some' {D : DiskD} {k : Key} {f : FileD} (h : mget D.files k = some f) : sizeM D k = ((f.now.length : Int), 0) := by unfold sizeM; rw [h]
theorem preadM_none {D : DiskD} {k : Key} (h : mget D.files k = none) : preadM D k = ([], 15) := by unfold preadM; rw [h]
theorem preadM_some {D : DiskD} {k : Key} {f : FileD} (h : mget D.files k = some f) : preadM D k = (f.now, 0) := by unfold preadM; rw [h]
theorem readM_whole {D : DiskD} {k : Key} {f : FileD} (h : mget D.files k = some f) : readM D k 0 f.now.length = (f.now, 0) := by
 unfold readM
 rw [h]
 show (if _ then _ else _) = _
 rw [if_neg (by omega)]
 simp
theorem preadM_len {D : DiskD} (hok : DOk D) (k : Key) : (preadM D k).1.length ≤ 16777216 := by
 unfold preadM
 cases h : mget D.files k with
 | none => simp
 | some f => exact (hok.len h).1
theorem pread_any (g : Nat) (D : DiskD) (S : Nat → Prop) (k : Key) (w : World) (h : DiskAt w g D S) (hok : DOk D) :
  Calls Tryz.prog 56 #[.pointer (some ⟨g, 0, none⟩), str k] w fun e w' => e = .returned (.tuple #[str (preadM D k).1, .int .i64 (preadM D k).2]) ∧ Below w.heap.size w w' := by
 have hS := Size_any g D S k
 cases hm : mget D.files k with
 | none =>
  rw [preadM_none hm]
  rw [sizeM_none hm] at hS
  refine W_enter (args := [.pointer (some ⟨g, 0, none⟩), str k]) 23 Tryz.func56 rfl rfl rfl (W_sub [(0, .pointer (some ⟨g, 0, none⟩)), (1, str k)] ?_ ⟨rfl, rfl, trivial⟩)
  have hbw := Below.refl w.heap.size w
  refine W_rs (sa rfl rfl (sa rfl rfl (Wn (tN (W_rs (sm rfl rfl (sm rfl rfl (sc _ Tryz.func20 rfl (by kernel_rfl) rfl rfl ((hS _ h).mono ?_)))))))))
  rintro e_ w1 ⟨rfl, hb⟩
  refine cR ?_
  replace hbw := bthen hbw hb
  replace h := h.bel hb
  have hz_w1 := hb.size
  clear hb
  refine sm rfl rfl (st (X.ext rfl rfl) rfl (st (X.ext rfl rfl) rfl (sa rfl rfl (sa rfl rfl (Wn (tN (W_seq (W_rs (sm rfl rfl (st (X.neq rfl rfl) rfl ?_))))))))))
  refine Wn (tN (W_yes rfl (rfl) (W_rs (sm rfl rfl (sa rfl rfl (sa rfl rfl (Wn (tN (W_ret (tR ?_))))))))))
  exact (rTT rfl rfl rfl ⟨rfl, hbw⟩).1
 | some f =>
  have hR := Read_any g D S k 0 f.now.length
  rw [preadM_some hm]
  rw [sizeM_some' hm] at hS
  rw [readM_whole hm] at hR
  refine W_enter (args := [.pointer (some ⟨g, 0, none⟩), str k]) 23 Tryz.func56 rfl rfl rfl (W_sub [(0, .pointer (some ⟨g, 0, none⟩)), (1, str k)] ?_ ⟨rfl, rfl, trivial⟩)
  have hbw := Below.refl w.heap.size w
  refine W_rs (sa rfl rfl (sa rfl rfl (Wn (tN (W_rs (sm rfl rfl (sm rfl rfl (sc _ Tryz.func20 rfl (by kernel_rfl) rfl rfl ((hS _ h).mono ?_)))))))))
  rintro e_ w1 ⟨rfl, hb⟩
  refine cR ?_
  replace hbw := bthen hbw hb
  replace h := h.bel hb
  have hz_w1 := hb.size
  clear hb
  refine sm rfl rfl (st (X.ext rfl rfl) rfl (st (X.ext rfl rfl) rfl (sa rfl rfl (sa rfl rfl (Wn (tN (W_seq (W_rs (sm rfl rfl (st (X.neq rfl rfl) rfl ?_))))))))))
  refine Wn (tN (W_no rfl (rfl) (W_skip (tN (W_rs (sm rfl rfl (sm rfl rfl (sm rfl rfl (sc _ Tryz.func60 rfl (by kernel_rfl) rfl rfl ((hR _ h hok).mono ?_))))))))))
  rintro e_ w2 ⟨rfl, hb⟩
  refine cR ?_
  replace hbw := bthen hbw hb
  replace h := h.bel hb
  have hz_w2 := hb.size
  clear hb
  refine st (X.ext rfl rfl) rfl (st (X.ext rfl rfl) rfl (sa rfl rfl (sa rfl rfl (Wn (tN (W_ret ?_))))))
  exact (rTT rfl rfl rfl ⟨rfl, hbw⟩).1
structure PakAt (w : World) (gd gp gx gm : Nat) (v : Value) (n : Int) (x : Scn) : Prop where
  blk : Blk w gp 119 #[.pointer (some ⟨gd, 0, none⟩), .int .i64 n, .pointer (some ⟨gx, 0, none⟩)]
  scn : ScnAt w gx gm v x
theorem PakAt.bel {w w' : World} {gd gp gx gm : Nat} {v : Value} {n : Int} {x : Scn} (h : PakAt w gd gp gx gm v n x) (hb : Below w.heap.size w w') : PakAt w' gd gp gx gm v n x := ⟨h.blk.bel hb, h.scn.bel hb⟩
def PakOwn (B : Nat) (gp gx gm : Nat) (v : Value) : Prop := B ≤ gp ∧ ScnOwn B gx gm v
def POpenPost (w : World) (gd : Nat) (n : Int) (r : Scn × Int) (e : Ending) (w' : World) : Prop :=
  ∃ p : Option Addr, e = .returned (.tuple #[.pointer p, .int .i64 r.2]) ∧ (r.2 ≠ 0 → p = none) ∧
  (r.2 = 0 → ∃ gp gx gm v, p = some ⟨gp, 0, none⟩ ∧ PakAt w' gd gp gx gm v n r.1 ∧ PakOwn w.heap.size gp gx gm v) ∧ Below w.heap.size w w'
theorem bpak (gd gx : Nat) (n : Int) (w : World) : (Instr.build 119 #[(0, .pointer (some ⟨gd, 0, none⟩)), (1, .int .i64 n), (2, .pointer (some ⟨gx, 0, none⟩))]).run Tryz.prog w = .ok (.agg #[.pointer (some ⟨gd, 0, none⟩), .int .i64 n, .pointer (some ⟨gx, 0, none⟩)]) w := by kernel_rfl
set_option maxRecDepth 10000 in
theorem popen_any (B gd : Nat) (D : DiskD) (S : Nat → Prop) (n : Int) (w : World) (hd : DiskAt w gd D S) (hok : DOk D) (hT : PTabs B w) :
  Calls Tryz.prog 19 #[.pointer (some ⟨gd, 0, none⟩), .int .i64 n] w (POpenPost w gd n (popenM D n)) := by
 have hlen := preadM_len hok (nameP n)
 unfold popenM
 refine W_enter (args := [.pointer (some ⟨gd, 0, none⟩), .int .i64 n]) 40 Tryz.func19 rfl rfl rfl (W_sub [(0, .pointer (some ⟨gd, 0, none⟩)), (1, .int .i64 n)] ?_ ⟨rfl, rfl, trivial⟩)
 have hbw := Below.refl w.heap.size w
 refine W_rs (sa rfl rfl (sa rfl rfl (Wn (tN (W_seq (W_rs (sm rfl rfl (sm rfl rfl (sc _ Tryz.func55 rfl (by kernel_rfl) rfl rfl ((pmay_any (some ⟨gd, 0, none⟩) n _).mono ?_))))))))))
 rintro e_ w1 ⟨rfl, hb⟩
 refine cR ?_
 replace hbw := bthen hbw hb
 replace hd := hd.bel hb
 replace hT := hT.bel hb
 have hz_w1 := hb.size
 clear hb
 refine sa rfl rfl (Wn (tN (W_rs (sm rfl rfl (st (X.neq rfl rfl) rfl (Wn (tN (W_if rfl (fun h14 => ?_) (fun h14 => ?_)))))))))
 ·first | replace h14 := of_decide_eq_true h14 | replace h14 := of_decide_eq_false (notT h14) | replace h14 := notT h14 | skip
  have hr : rightP n = false := by cases h : rightP n with | false => rfl | true => exact absurd (by simp [mayP, h]) h14
  refine W_rs (sm rfl rfl (sa rfl rfl (sa rfl rfl (Wn (tN (W_ret (tR ?_)))))))
  exact (rTT rfl rfl rfl ⟨none, by simp [mayP, hr], fun _ => rfl, fun h => absurd h (by rw [if_pos hr]; decide), hbw⟩).1
 ·first | replace h14 := of_decide_eq_false h14 | replace h14 := of_decide_eq_true (notF h14) | replace h14 := notF h14 | skip
  have hr : ¬ rightP n = false := fun h => h14 (by simp [mayP, h])
  rw [if_neg hr]
  refine W_skip (tN (W_rs (sm rfl rfl (sm rfl rfl (sc _ Tryz.func21 rfl (by kernel_rfl) rfl rfl ((Name_p n _ hT.pow).mono ?_))))))
  rintro e_ w2 ⟨rfl, hb⟩
  refine cR ?_
  replace hbw := bthen hbw hb
  replace hd := hd.bel hb
  replace hT := hT.bel hb
  have hz_w2 := hb.size
  clear hb
  refine sc _ Tryz.func56 rfl (by kernel_rfl) rfl rfl ((pread_any gd D S (nameP n) _ hd hok).mono ?_)
  rintro e_ w3 ⟨rfl, hb⟩
  refine cR ?_
  replace hbw := bthen hbw hb
  replace hd := hd.bel hb
  replace hT := hT.bel hb
  have hz_w3 := hb.size
  clear hb
  refine sm rfl rfl (st (X.ext rfl rfl) rfl (st (X.ext rfl rfl) rfl (sa rfl rfl (sa rfl rfl (Wn (tN (W_seq (W_rs (sm rfl rfl (st (X.neq rfl rfl) rfl ?_))))))))))
  refine Wn (tN (W_if rfl (fun h24 => ?_) (fun h24 => ?_)))
  ·first | replace h24 := of_decide_eq_true h24 | replace h24 := of_decide_eq_false (notT h24) | replace h24 := notT h24 | skip
   rw [if_pos h24]
   refine W_rs (sm rfl rfl (sa rfl rfl (sa rfl rfl (Wn (tN (W_ret (tR ?_)))))))
   exact (rTT rfl rfl rfl ⟨none, rfl, fun _ => rfl, fun h => absurd h h24, hbw⟩).1
  ·first | replace h24 := of_decide_eq_false h24 | replace h24 := of_decide_eq_true (notF h24) | replace h24 := notF h24 | skip
   rw [if_neg h24]
   refine W_skip (tN (W_rs (sm rfl rfl (sm rfl rfl (sc _ Tryz.func42 rfl (by kernel_rfl) rfl rfl ((scan_any (preadM D (nameP n)).1 n _ hT.sha hlen).mono ?_))))))
   rintro e_ w4 ⟨p, rfl, hpn, hps, hb⟩
   refine cR ?_
   replace hbw := bthen hbw hb
   replace hd := hd.bel hb
   replace hT := hT.bel hb
   have hz_w4 := hb.size
   clear hb
   refine sm rfl rfl (st (X.ext rfl rfl) rfl (st (X.ext rfl rfl) rfl (sa rfl rfl (sa rfl rfl (Wn (tN (W_seq (W_rs (sm rfl rfl (st (X.neq rfl rfl) rfl ?_))))))))))
   refine Wn (tN (W_if rfl (fun h33 => ?_) (fun h33 => ?_)))
   ·first | replace h33 := of_decide_eq_true h33 | replace h33 := of_decide_eq_false (notT h33) | replace h33 := notT h33 | skip
    refine W_rs (sm rfl rfl (sa rfl rfl (sa rfl rfl (Wn (tN (W_ret (tR ?_)))))))
    exact (rTT rfl rfl rfl ⟨none, rfl, fun _ => rfl, fun h => absurd h h33, hbw⟩).1
   ·first | replace h33 := of_decide_eq_false h33 | replace h33 := of_decide_eq_true (notF h33) | replace h33 := notF h33 | skip
    obtain h33 : (scanP (preadM D (nameP n)).1 n).2 = 0 := Decidable.of_not_not h33
    obtain ⟨gx, gm, v, rfl, hS, hSO⟩ := hps h33
    obtain ⟨ho1, ho2, ho3⟩ := hSO
    clear hps hpn
    refine W_skip (tN (W_rs (sm rfl rfl (sm rfl rfl (sm rfl rfl (st (X.bld rfl (bpak gd gx n _)) rfl (sboxA rfl rfl (fun g39 w5 hB39 hg39 hb hl39 => ?_))))))))
    replace hbw := bthen hbw hb
    replace hd := hd.bel hb
    replace hT := hT.bel hb
    replace hS := hS.bel hb
    have hz_w5 := hb.size
    clear hb
    refine sa rfl rfl (sa rfl rfl (Wn (tN (W_ret ((rTT rfl rfl rfl ⟨_, by rw [h33], fun h => absurd h33 h, fun _ => ⟨g39, gx, gm, v, rfl, ⟨hB39, hS⟩, by omega, by omega, by omega, fun k hk => by have := ho3 k hk; omega⟩, hbw⟩).1)))))
end Go.Proofs.YtnlabkogebnioaaGreatDoor
namespace Go.Proofs.YtnlabkogebnioaaGreatDoor
open Go.RowKit Sha
def WrT (gw gx gm : Nat) (v : Value) (k : Nat) : Prop := k = gw ∨ k = gx ∨ k = gm ∨ v.ownBlock = some k
def wriCells (gd gx : Nat) (x : Wri) : Array Value := #[.pointer (some ⟨gd, 0, none⟩), .int .i64 x.n, .pointer (some ⟨gx, 0, none⟩), .bool x.closed]
structure WrF (B : Nat) (w : World) (gd gw gx gm : Nat) (D : DiskD) (v : Value) (S : Nat → Prop) : Prop where
  own : Own B w gd D S
  ap : ∀ k, WrT gw gx gm v k → ¬ S k ∧ B ≤ k
  gB : B ≤ w.heap.size
structure WrAll (B : Nat) (w : World) (gd gw gx gm : Nat) (D : DiskD) (x : Wri) (v : Value) (S : Nat → Prop) : Prop where
  blk : Blk w gw 112 (wriCells gd gx x)
  scn : ScnAt w gx gm v ⟨x.l, 0, false⟩
  wf : WrF B w gd gw gx gm D v S
section
variable {B gd gw gx gm : Nat} {w w' : World} {D : DiskD} {x : Wri} {v : Value} {S T : Nat → Prop}
theorem WrF.bel (h : WrF B w gd gw gx gm D v S) (hb : Below w.heap.size w w') : WrF B w' gd gw gx gm D v S := ⟨h.own.bel hb, h.ap, Nat.le_trans h.gB hb.size⟩
theorem WrF.chg (h : WrF B w gd gw gx gm D v S) (hC : Chg T w w') (hn : ∀ k, S k → ¬ T k) : WrF B w' gd gw gx gm D v S := ⟨h.own.other hC (fun k h1 h2 => hn k h2 h1), h.ap, Nat.le_trans h.gB hC.size⟩
theorem WrAll.bel (h : WrAll B w gd gw gx gm D x v S) (hb : Below w.heap.size w w') : WrAll B w' gd gw gx gm D x v S := ⟨h.blk.bel hb, h.scn.bel hb, h.wf.bel hb⟩
end
theorem pdisk {P : Program} {f : FuncId} {args : Array Value} {B gd : Nat} {w0 w : World} {D : DiskD} {S S1 X : Nat → Prop} {x : Int × DiskD}
  (hc : Calls P f args w (DPost gd S1 w x)) (hd : Own B w gd D S1) (hB : B ≤ w.heap.size) (hT : PTabs B w) (hcw : Chg X w0 w) (hSX : ∀ k, S k → X k) (hS1 : ∀ k, S1 k → S k ∨ w0.heap.size ≤ k) :
  Calls P f args w (fun e' w' => e' = .returned (.int .i64 x.1) ∧ ∃ S2, Own B w' gd x.2 S2 ∧ PTabs B w' ∧ (∀ k, S2 k → S k ∨ w0.heap.size ≤ k) ∧ ((∀ k, S2 k → S1 k ∨ w.heap.size ≤ k) ∧ Chg S1 w w') ∧ Chg X w0 w' ∧ w.heap.size ≤ w'.heap.size) := by
 refine hc.mono ?_
 rintro e' w' ⟨rfl, h1, hX⟩
 have hsz := hcw.size
 refine ⟨rfl, Ext S1 w w', hd.step h1 hX hB, hT.chg hX (fun k hk => (hd.lo k hk).1), ?_, ⟨?_, hX⟩, hcw.next hX (fun i hi => (hS1 i hi).imp (hSX i) id), hX.size⟩
 ·rintro k (h | ⟨h, _⟩)
  ·exact hS1 k h
  ·right; omega
 ·rintro k (h | ⟨h, _⟩)
  ·exact .inl h
  ·exact .inr h
theorem wdisk {P : Program} {f : FuncId} {args : Array Value} {B gd gw gx gm : Nat} {w0 w : World} {D : DiskD} {q : Scn} {cs : Array Value} {v : Value} {S S1 X : Nat → Prop} {x : Int × DiskD}
  (hc : Calls P f args w (DPost gd S1 w x)) (hB : Blk w gw 112 cs) (hS : ScnAt w gx gm v q) (hF : WrF B w gd gw gx gm D v S1) (hT : PTabs B w) (hcw : Chg X w0 w) (hSX : ∀ k, S k → X k) (hS1 : ∀ k, S1 k → S k ∨ w0.heap.size ≤ k) :
  Calls P f args w (fun e' w' => e' = .returned (.int .i64 x.1) ∧ ∃ S2, Blk w' gw 112 cs ∧ ScnAt w' gx gm v q ∧ WrF B w' gd gw gx gm x.2 v S2 ∧ PTabs B w' ∧ (∀ k, S2 k → S k ∨ w0.heap.size ≤ k) ∧ ((∀ k, S2 k → S1 k ∨ w.heap.size ≤ k) ∧ Chg S1 w w') ∧ Chg X w0 w' ∧ w.heap.size ≤ w'.heap.size) := by
 refine hc.mono ?_
 rintro e' w' ⟨rfl, h1, hX⟩
 have hsz := hcw.size
 have hlt := hB.lt
 have hlx := hS.blk.lt
 obtain ⟨m, hM, _⟩ := hS.map
 have hlm := hM.lt
 have hlv := rowLt hS.row
 have hap : ∀ k, WrT gw gx gm v k → k < w.heap.size := by
  rintro k (rfl | rfl | rfl | e)
  ·exact hlt
  ·exact hlx
  ·exact hlm
  ·exact hlv k e
 refine ⟨rfl, Ext S1 w w', hB.chg hX (hF.ap _ (.inl rfl)).1, hS.chg hX (hF.ap _ (.inr (.inl rfl))).1 (hF.ap _ (.inr (.inr (.inl rfl)))).1 (fun k hk => (hF.ap _ (.inr (.inr (.inr hk)))).1), ⟨hF.own.step h1 hX hF.gB, fun k hk => ⟨?_, (hF.ap k hk).2⟩, Nat.le_trans hF.gB hX.size⟩,
  hT.chg hX (fun k hk => (hF.own.lo k hk).1), ?_, ⟨?_, hX⟩, hcw.next hX (fun i hi => (hS1 i hi).imp (hSX i) id), hX.size⟩
 ·rintro (h | ⟨h, _⟩)
  ·exact (hF.ap k hk).1 h
  ·have := hap k hk
   omega
 ·rintro k (h | ⟨h, _⟩)
  ·exact hS1 k h
  ·right; omega
 ·rintro k (h | ⟨h, _⟩)
  ·exact .inl h
  ·exact .inr h
theorem bwri (gd gx : Nat) (n : Int) (w : World) : (Instr.build 112 #[(0, .pointer (some ⟨gd, 0, none⟩)), (1, .int .i64 n), (2, .pointer (some ⟨gx, 0, none⟩))]).run Tryz.prog w = .ok (.agg #[.pointer (some ⟨gd, 0, none⟩), .int .i64 n, .pointer (some ⟨gx, 0, none⟩), .bool false]) w := by kernel_rfl
def PBeginPost (B : Nat) (w : World) (gd : Nat) (S : Nat → Prop) (n : Int) (r : Int × DiskD) (e : Ending) (w' : World) : Prop :=
  ∃ (p : Option Addr) (S' : Nat → Prop), e = .returned (.tuple #[.pointer p, .int .i64 r.1]) ∧ Own B w' gd r.2 S' ∧ (∀ k, S' k → S k ∨ w.heap.size ≤ k) ∧ Chg S w w' ∧ (r.1 ≠ 0 → p = none) ∧
  (r.1 = 0 → ∃ gw gx gm v, p = some ⟨gw, 0, none⟩ ∧ WrAll B w' gd gw gx gm r.2 ⟨n, [], false⟩ v S' ∧ (∀ k, WrT gw gx gm v k → w.heap.size ≤ k))
set_option maxRecDepth 10000 in
theorem pbegin_any (B gd : Nat) (D : DiskD) (S : Nat → Prop) (n : Int) (N : Nat) (w : World) (hd : Own B w gd D S) (hg : Good N D) (hN : N ≤ 1000000000) (hBw : B ≤ w.heap.size) (hT : PTabs B w) :
  Calls Tryz.prog 25 #[.pointer (some ⟨gd, 0, none⟩), .int .i64 n] w (PBeginPost B w gd S n (pbeginM D n)) := by
 have hg1 := create_good hg (nameP n)
 have hg2 := append_good hg1 (nameP n) (headB n)
 have hl := headB_len n
 have hS1 : ∀ k, S k → S k ∨ w.heap.size ≤ k := fun k hk => .inl hk
 unfold pbeginM
 refine W_enter (args := [.pointer (some ⟨gd, 0, none⟩), .int .i64 n]) 43 Tryz.func25 rfl rfl rfl (W_sub [(0, .pointer (some ⟨gd, 0, none⟩)), (1, .int .i64 n)] ?_ ⟨rfl, rfl, trivial⟩)
 have hcw := Chg.refl (S) w
 refine W_rs (sa rfl rfl (sa rfl rfl (Wn (tN (W_seq (W_rs (sm rfl rfl (sm rfl rfl (sc _ Tryz.func55 rfl (by kernel_rfl) rfl rfl ((pmay_any (some ⟨gd, 0, none⟩) n _).mono ?_))))))))))
 rintro e_ w1 ⟨rfl, hb⟩
 refine cR ?_
 replace hcw := hcw.then_below hb
 replace hd := hd.bel hb
 replace hT := hT.bel hb
 have hz_w1 := hb.size
 clear hb
 refine sa rfl rfl (Wn (tN (W_rs (sm rfl rfl (st (X.neq rfl rfl) rfl (Wn (tN (W_if rfl (fun h13 => ?_) (fun h13 => ?_)))))))))
 ·first | replace h13 := of_decide_eq_true h13 | replace h13 := of_decide_eq_false (notT h13) | replace h13 := notT h13 | skip
  have hr : rightP n = false := by cases h : rightP n with | false => rfl | true => exact absurd (by simp [mayP, h]) h13
  refine W_rs (sm rfl rfl (sa rfl rfl (sa rfl rfl (Wn (tN (W_ret (tR ?_)))))))
  exact (rTT rfl rfl rfl ⟨none, S, by simp [mayP, hr], by rw [if_pos hr]; exact hd, hS1, hcw, fun _ => rfl, fun h => absurd h (by rw [if_pos hr]; show ¬ ((1 : Int) = 0); decide)⟩).1
 ·first | replace h13 := of_decide_eq_false h13 | replace h13 := of_decide_eq_true (notF h13) | replace h13 := notF h13 | skip
  have hr : ¬ rightP n = false := fun h => h13 (by simp [mayP, h])
  rw [if_neg hr]
  refine W_skip (tN (W_seq (W_rs (sm rfl rfl (sm rfl rfl (sc _ Tryz.func21 rfl (by kernel_rfl) rfl rfl ((Name_p n _ hT.pow).mono ?_)))))))
  rintro e_ w2 ⟨rfl, hb⟩
  refine cR ?_
  replace hcw := hcw.then_below hb
  replace hd := hd.bel hb
  replace hT := hT.bel hb
  have hz_w2 := hb.size
  clear hb
  refine sc _ Tryz.func66 rfl (by kernel_rfl) rfl rfl ((pdisk (Create_any gd D S (nameP n) _ hd.at_ hg.ok) hd (Nat.le_trans hBw hcw.size) hT hcw (fun k hk => hk) hS1).mono ?_)
  clear hd hT
  rintro e_ w3 ⟨rfl, S1, hd, hT, hS1, hS2, hcw, hz1_⟩
  refine cR ?_
  obtain ⟨e1, D1, hp1⟩ : ∃ e D', createM D (nameP n) = (e, D') := ⟨_, _, rfl⟩
  rw [hp1] at hd hg1 hg2 ⊢
  simp only at hd hg1 hg2 ⊢
  refine sa rfl rfl (Wn (tN (W_rs (sm rfl rfl (st (X.neq rfl rfl) rfl (Wn (tN (W_if rfl (fun h20 => ?_) (fun h20 => ?_)))))))))
  ·first | replace h20 := of_decide_eq_true h20 | replace h20 := of_decide_eq_false (notT h20) | replace h20 := notT h20 | skip
   rw [if_pos h20]
   refine W_rs (sm rfl rfl (sa rfl rfl (sa rfl rfl (Wn (tN (W_ret (tR ?_)))))))
   exact (rTT rfl rfl rfl ⟨none, S1, rfl, hd, hS1, hcw, fun _ => rfl, fun h => absurd h h20⟩).1
  ·first | replace h20 := of_decide_eq_false h20 | replace h20 := of_decide_eq_true (notF h20) | replace h20 := notF h20 | skip
   rw [if_neg h20]
   refine W_skip (tN (W_seq (W_rs (sm rfl rfl (sm rfl rfl (sc _ Tryz.func21 rfl (by kernel_rfl) rfl rfl ((Name_p n _ hT.pow).mono ?_)))))))
   rintro e_ w4 ⟨rfl, hb⟩
   refine cR ?_
   replace hcw := hcw.then_below hb
   replace hd := hd.bel hb
   replace hT := hT.bel hb
   have hz_w4 := hb.size
   clear hb
   refine sm rfl rfl (sc _ Tryz.func53 rfl (by kernel_rfl) rfl rfl ((pfour_any n _).mono ?_))
   rintro e_ w5 ⟨rfl, hb⟩
   refine cR ?_
   replace hcw := hcw.then_below hb
   replace hd := hd.bel hb
   replace hT := hT.bel hb
   have hz_w5 := hb.size
   clear hb
   refine sc _ Tryz.func52 rfl (by kernel_rfl) rfl rfl ((Seal_any 1 (four n) _ (by rw [four_length]; omega)).mono ?_)
   rintro e_ w6 ⟨rfl, hb⟩
   refine cR ?_
   replace hcw := hcw.then_below hb
   replace hd := hd.bel hb
   replace hT := hT.bel hb
   have hz_w6 := hb.size
   clear hb
   refine sc _ Tryz.func51 rfl (by kernel_rfl) rfl rfl ((pdisk (Append_any gd D1 _ (nameP n) (headB n) _ hd.at_ hg1.ok (hg1.bud (by omega)) (by omega)) hd (Nat.le_trans hBw hcw.size) hT hcw (fun k hk => hk) hS1).mono ?_)
   clear hd hT
   rintro e_ w7 ⟨rfl, S2, hd, hT, hS1, hS2, hcw, hz2_⟩
   refine cR ?_
   obtain ⟨e2, D2, hp2⟩ : ∃ e D', appendM D1 (nameP n) (headB n) = (e, D') := ⟨_, _, rfl⟩
   rw [hp2] at hd hg2 ⊢
   simp only at hd hg2 ⊢
   refine sa rfl rfl (Wn (tN (W_rs (sm rfl rfl (st (X.neq rfl rfl) rfl (Wn (tN (W_if rfl (fun h30 => ?_) (fun h30 => ?_)))))))))
   ·first | replace h30 := of_decide_eq_true h30 | replace h30 := of_decide_eq_false (notT h30) | replace h30 := notT h30 | skip
    rw [if_pos h30]
    refine W_rs (sm rfl rfl (sm rfl rfl (sc _ Tryz.func21 rfl (by kernel_rfl) rfl rfl ((Name_p n _ hT.pow).mono ?_))))
    rintro e_ w8 ⟨rfl, hb⟩
    refine cR ?_
    replace hcw := hcw.then_below hb
    replace hd := hd.bel hb
    replace hT := hT.bel hb
    have hz_w8 := hb.size
    clear hb
    refine sc _ Tryz.func67 rfl (by kernel_rfl) rfl rfl ((pdisk (Remove_any gd D2 _ (nameP n) _ hd.at_ hg2.ok) hd (Nat.le_trans hBw hcw.size) hT hcw (fun k hk => hk) hS1).mono ?_)
    clear hd hT
    rintro e_ w9 ⟨rfl, S3, hd, hT, hS1, hS2, hcw, hz3_⟩
    refine cR (Wn (tN (W_rs (sm rfl rfl (sa rfl rfl (sa rfl rfl (Wn (tN (W_ret (tR ?_))))))))))
    exact (rTT rfl rfl rfl ⟨none, S3, rfl, hd, hS1, hcw, fun _ => rfl, fun h => absurd h h30⟩).1
   ·first | replace h30 := of_decide_eq_false h30 | replace h30 := of_decide_eq_true (notF h30) | replace h30 := notF h30 | skip
    rw [if_neg h30]
    obtain rfl : e2 = 0 := Decidable.of_not_not h30
    refine W_skip (tN (W_rs (sm rfl rfl (sm rfl rfl ?_))))
    have hlo0 := hd.lo
    have hzc0 := hcw.size
    refine smm (enc := encSum) (encv := encInt) rfl (fun gm w10 hM hgm hb hlm => ?_)
    replace hcw := hcw.then_below hb
    replace hd := hd.bel hb
    replace hT := hT.bel hb
    have hz_w10 := hb.size
    clear hb
    refine st (X.bld rfl (bscn gm _)) rfl (sboxA rfl rfl (fun g40 w11 hB40 hg40 hb hl40 => ?_))
    replace hcw := hcw.then_below hb
    replace hd := hd.bel hb
    replace hT := hT.bel hb
    replace hM := hM.bel hb
    have hz_w11 := hb.size
    clear hb
    refine st (X.bld rfl (bwri gd _ n _)) rfl (sboxA rfl rfl (fun g42 w12 hB42 hg42 hb hl42 => ?_))
    replace hcw := hcw.then_below hb
    replace hd := hd.bel hb
    replace hT := hT.bel hb
    replace hM := hM.bel hb
    replace hB40 := hB40.bel hb
    have hz_w12 := hb.size
    clear hb
    refine sa rfl rfl (sa rfl rfl (Wn (tN (W_ret ((rTT rfl rfl rfl ⟨some ⟨g42, 0, none⟩, S2, rfl, hd, hS1, hcw, fun h => absurd rfl h, fun _ => ⟨g42, g40, gm, .slice none 0 0, rfl, ⟨hB42, ⟨hB40, Row.nil _ _ _, ⟨[], hM, rfl⟩, by simp [S32]⟩, ⟨hd, ?_, Nat.le_trans hBw hcw.size⟩⟩, ?_⟩⟩).1)))))
    ·rintro k (rfl | rfl | rfl | e)
     ·exact ⟨fun e => by have := (hlo0 _ e).2; omega, by omega⟩
     ·exact ⟨fun e => by have := (hlo0 _ e).2; omega, by omega⟩
     ·exact ⟨fun e => by have := (hlo0 _ e).2; omega, by omega⟩
     ·simp [Value.ownBlock] at e
    ·rintro k (rfl | rfl | rfl | e)
     ·omega
     ·omega
     ·omega
     ·simp [Value.ownBlock] at e
end Go.Proofs.YtnlabkogebnioaaGreatDoor
namespace Go.Proofs.YtnlabkogebnioaaGreatDoor
open Go.RowKit Sha
theorem hasOf_nodup {m : List (Sum32 × Int)} {l : List Ent} (h : m.map (fun p => (p.1.1, p.2)) = hasOf l) (hn : (m.map (·.1)).Nodup) : (l.map (·.sum)).Nodup := by
 have e1 : (m.map (·.1)).map (·.1) = l.map (·.sum) := by
  have e : (m.map (fun p => (p.1.1, p.2))).map (·.1) = (m.map (·.1)).map (·.1) := by simp [List.map_map, Function.comp_def]
  rw [← e, h]
  unfold hasOf
  rw [List.map_map]
  have : ((fun x => x.1) ∘ fun p : Ent × Nat => (p.1.sum, (p.2 : Int))) = (fun e : Ent => e.sum) ∘ Prod.fst := rfl
  rw [this, ← List.map_map, List.zipIdx_map_fst]
 rw [← e1]
 rw [List.nodup_iff_pairwise_ne, List.pairwise_map]
 exact (List.nodup_iff_pairwise_ne.1 hn).imp fun h e => h (Subtype.ext e)
theorem mget_memG {κ ν : Type} [DecidableEq κ] {m : List (κ × ν)} {k : κ} {v : ν} (h : mget m k = some v) : (k, v) ∈ m := by
 induction m with
 | nil => simp [mget] at h
 | cons p m ih =>
  obtain ⟨a, u⟩ := p
  unfold mget at h
  split at h
  ·rename_i hk
   injection h with h
   rw [hk, h]
   exact List.mem_cons_self ..
  ·exact List.mem_cons_of_mem _ (ih h)
theorem has_get {m : List (Sum32 × Int)} {l : List Ent} (h : m.map (fun p => (p.1.1, p.2)) = hasOf l) (hn : (m.map (·.1)).Nodup) {k : Sum32} {i : Int} (hg : mget m k = some i) : ∃ (j : Nat) (e : Ent), i = j ∧ l[j]? = some e ∧ e.sum = k.1 ∧ findM l k.1 = some e := by
 have hm := mget_memG hg
 have h1 : (k.1, i) ∈ hasOf l := by rw [← h]; exact List.mem_map.2 ⟨_, hm, rfl⟩
 obtain ⟨p, hp, he⟩ := List.mem_map.1 h1
 obtain ⟨e, j⟩ := p
 have hj := List.mem_zipIdx_iff_getElem?.1 hp
 injection he with h2 h3
 simp only at hj h2 h3
 refine ⟨j, e, h3.symm, hj, h2, ?_⟩
 have hnl := hasOf_nodup h hn
 obtain ⟨hjl, hje⟩ := List.getElem?_eq_some_iff.1 hj
 cases hf : findM l k.1 with
 | none =>
  have := List.find?_eq_none.1 hf e (List.mem_of_getElem? hj)
  simp [h2] at this
 | some e' =>
  have hm' := List.mem_of_find?_eq_some hf
  have hs' := List.find?_some hf
  simp only [decide_eq_true_eq] at hs'
  obtain ⟨j', hj', rfl⟩ := List.mem_iff_getElem.1 hm'
  have : j = j' := (List.getElem_inj (xs := l.map (·.sum)) (h₀ := by simpa using hjl) (h₁ := by simpa using hj') hnl).1 (by simp only [List.getElem_map]; rw [hje, h2, hs'])
  subst this
  rw [hje]
theorem has_none {m : List (Sum32 × Int)} {l : List Ent} (h : m.map (fun p => (p.1.1, p.2)) = hasOf l) {k : Sum32} (hg : mget m k = none) : findM l k.1 = none ∧ hadM l k.1 = false := by
 have hk := mget_none.1 hg
 have hh : hadM l k.1 = false := Bool.eq_false_iff.2 fun e => hk ((has_mem h k).2 e)
 refine ⟨List.find?_eq_none.2 fun e he => ?_, hh⟩
 have := hadM_false hh e he
 simpa using this
def WrPost (B : Nat) (w : World) (gd gw gx gm : Nat) (D : DiskD) (x : Wri) (v : Value) (S : Nat → Prop) (w' : World) : Prop :=
  ∃ v' S', WrAll B w' gd gw gx gm D x v' S' ∧ (∀ k, S' k → S k ∨ w.heap.size ≤ k) ∧ (∀ k, v'.ownBlock = some k → v.ownBlock = some k ∨ w.heap.size ≤ k) ∧ Chg (fun k => S k ∨ WrT gw gx gm v k) w w'
section
variable {B gd gw gx gm : Nat} {w : World} {D : DiskD} {x : Wri} {v : Value} {S : Nat → Prop}
theorem WrAll.lt (h : WrAll B w gd gw gx gm D x v S) : ∀ k, WrT gw gx gm v k → k < w.heap.size := by
 obtain ⟨m, hM, _⟩ := h.scn.map
 rintro k (rfl | rfl | rfl | e)
 ·exact h.blk.lt
 ·exact h.scn.blk.lt
 ·exact hM.lt
 ·exact rowLt h.scn.row k e
theorem wadd {w0 : World} {X S1 : Nat → Prop} {l : List Ent} {cs : Array Value} (n pos : Int) (a d : List UInt8) (hB : Blk w gw 112 cs) (hS : ScnAt w gx gm v ⟨l, 0, false⟩) (hF : WrF B w gd gw gx gm D v S1) (hcw : Chg X w0 w) (hTX : ∀ k, WrT gw gx gm v k → X k)
  (ha : a.length = 32) (hn : hadM l a = false) (hl : l.length ≤ 20000000) :
  Calls Tryz.prog 69 #[.pointer (some ⟨gx, 0, none⟩), .int .i64 n, .int .i64 pos, .agg (a.map bv).toArray, str d] w (fun e' w' => e' = .returned (.agg (Ent.mk a n pos d.length).cells.toArray) ∧
   ∃ v', Blk w' gw 112 cs ∧ ScnAt w' gx gm v' ⟨l ++ [⟨a, n, pos, d.length⟩], 0, false⟩ ∧ WrF B w' gd gw gx gm D v' S1 ∧ (∀ k, v'.ownBlock = some k → v.ownBlock = some k ∨ w.heap.size ≤ k) ∧ Chg (fun k => k = gx ∨ k = gm ∨ v.ownBlock = some k) w w' ∧ Chg X w0 w' ∧ w.heap.size ≤ w'.heap.size) := by
 refine (add_any gx gm v ⟨l, 0, false⟩ n pos a d w hS ha hn hl).mono ?_
 rintro e w' ⟨v', rfl, h1, h2, h3⟩
 have hlo := hF.own.lo
 obtain ⟨m, hM, _⟩ := hS.map
 have n1 : gw ≠ gx := by
  rintro rfl
  have e1 : w.heap[gw]? = _ := hB
  have e2 : w.heap[gw]? = _ := hS.blk
  rw [e1] at e2
  injection e2 with e2
  injection e2 with _ e2
  exact absurd e2 (by decide)
 have n2 : gw ≠ gm := hB.neM hM
 have n3 : ¬ v.ownBlock = some gw := fun e => hS.row.ne2 hB (by decide) _ e rfl
 have hgB := hF.gB
 refine ⟨rfl, v', hB.chg h3 (by rintro (e | e | e); exact n1 e; exact n2 e; exact n3 e), h1, ⟨hF.own.other h3 ?_, ?_, Nat.le_trans hgB h3.size⟩, h2, h3, hcw.next h3 (fun i hi => .inl (hTX i (.inr hi))), h3.size⟩
 ·rintro k (e | e | e) hs
  ·exact (hF.ap k (.inr (.inl e))).1 hs
  ·exact (hF.ap k (.inr (.inr (.inl e)))).1 hs
  ·exact (hF.ap k (.inr (.inr (.inr e)))).1 hs
 ·rintro k (e | e | e | e)
  ·exact hF.ap k (.inl e)
  ·exact hF.ap k (.inr (.inl e))
  ·exact hF.ap k (.inr (.inr (.inl e)))
  ·rcases h2 k e with e | e
   ·exact hF.ap k (.inr (.inr (.inr e)))
   ·exact ⟨fun hs => by have := (hlo k hs).2; omega, by omega⟩
set_option maxRecDepth 10000 in
theorem padd_any (d : List UInt8) (N : Nat) (h : WrAll B w gd gw gx gm D x v S) (hg : Good N D) (hN : N ≤ 1000000000) (hT : PTabs B w) (hd : d.length ≤ 1099511627776) (hl : x.l.length ≤ 1000000) :
  Calls Tryz.prog 26 #[.pointer (some ⟨gw, 0, none⟩), str d] w (fun e w' => e = .returned (.tuple #[.agg (paddM D x d).1.1.cells.toArray, .int .i64 (paddM D x d).1.2]) ∧ WrPost B w gd gw gx gm (paddM D x d).2.2 (paddM D x d).2.1 v S w') := by
 have hlt := h.lt
 have hB : Blk w gw 112 #[.pointer (some ⟨gd, 0, none⟩), .int .i64 x.n, .pointer (some ⟨gx, 0, none⟩), .bool x.closed] := h.blk
 have hSn := h.scn
 have hF := h.wf
 have h32 := hSn.s32
 have hz : eZ.cells.toArray.size = 35 := Ent.size (by simp [eZ])
 have hS1 : ∀ k, S k → S k ∨ w.heap.size ≤ k := fun k hk => .inl hk
 have hSlo := hF.own.lo
 have hsha : (sha d).length = 32 := sha_length d
 have hv1 : gw < w.heap.size := hlt _ (.inl rfl)
 have hv2 : gx < w.heap.size := hlt _ (.inr (.inl rfl))
 have hv3 : gm < w.heap.size := hlt _ (.inr (.inr (.inl rfl)))
 have hv4 : ∀ k, v.ownBlock = some k → k < w.heap.size := fun k hk => hlt _ (.inr (.inr (.inr hk)))
 have hB0 := hF.gB
 have hRow : Row w 66 35 v x.l.length (x.l.flatMap Ent.cells) := hSn.row
 obtain ⟨q, cq, rfl, hq1, hq2⟩ := hRow.shape
 clear hRow
 clear h
 unfold paddM
 refine W_enter (args := [.pointer (some ⟨gw, 0, none⟩), str d]) 98 Tryz.func26 rfl rfl rfl (W_sub [(0, .pointer (some ⟨gw, 0, none⟩)), (1, str d)] ?_ ⟨rfl, rfl, trivial⟩)
 have hcw := Chg.refl (fun k => S k ∨ WrT gw gx gm (Value.slice q x.l.length cq) k) w
 refine W_rs (salA inf66 rfl (fun g4 w1 hB4 hg4 hb hl4 => ?_))
 replace hcw := hcw.then_below hb
 replace hB := hB.bel hb
 replace hSn := hSn.bel hb
 replace hF := hF.bel hb
 replace hT := hT.bel hb
 have hz_w1 := hb.size
 clear hb
 refine sa rfl rfl (Wn (tN (W_seq (W_block (W_rs (sm rfl rfl (st (X.wEq rfl) rfl (sa rfl rfl (Wn (tN ?_))))))))))
 refine W_no rfl (rfl) (W_rs (sm rfl rfl (st (X.nilChk rfl) rfl (st (X.fa fa112_3 rfl) rfl (st (X.ldL rfl hB Tryz.underlying4 rfl rfl) rfl (sb rfl rfl (fun h20 => ?_) (fun h20 => ?_)))))))
 ·first | replace h20 := of_decide_eq_true h20 | replace h20 := of_decide_eq_false (notT h20) | replace h20 := notT h20 | skip
  refine gN (g := 20) rfl rfl rfl rfl (gN (g := 20) rfl rfl rfl rfl (st (X.pickT rfl rfl) rfl (sa rfl rfl (Wn (tN (W_yes rfl (rfl) (W_rs (st (X.bld rfl (benZ _)) rfl (ssBN rfl rfl hB4 (by rw [hz]; exact siz66) (by rw [hz]; rfl) (Ent.cells_one eZ) (fun w2 hB_ hc_ => ?_))))))))))
  replace hB4 := hB_
  replace hB := hB.chg hc_ (by show ¬ gw = g4; omega)
  replace hSn := hSn.chg hc_ (by show ¬ gx = g4; omega) (by show ¬ gm = g4; omega) (fun k hk => by show ¬ k = g4; have := hv4 k hk; omega)
  replace hF := hF.chg hc_ (fun k hk => by show ¬ k = g4; have := hSlo k hk; omega)
  replace hcw := hcw.next hc_ (fun i hi => .inr (by omega))
  clear hB_ hc_
  refine sa rfl rfl (Wn (tN (W_ret (bR (tR ?_)))))
  rw [if_pos (.inl h20)]
  exact (rCT rfl rfl hB4 Tryz.underlying66 rfl (by rw [hz]; exact siz66) rfl ⟨rfl, _, S, ⟨hB, hSn, hF⟩, hS1, fun k hk => .inl hk, hcw⟩).1
 ·first | replace h20 := of_decide_eq_false h20 | replace h20 := of_decide_eq_true (notF h20) | replace h20 := notF h20 | skip
  refine gY (g := 20) rfl rfl rfl (sm rfl rfl (gY (g := 20) rfl rfl rfl (st (X.eqS rfl rfl) rfl (st (X.pickF rfl rfl) rfl (sa rfl rfl (Wn (tN (W_if rfl (fun h15 => ?_) (fun h15 => ?_)))))))))
  ·first | replace h15 := of_decide_eq_true h15 | replace h15 := of_decide_eq_false (notT h15) | replace h15 := notT h15 | skip
   refine W_rs (st (X.bld rfl (benZ _)) rfl (ssBN rfl rfl hB4 (by rw [hz]; exact siz66) (by rw [hz]; rfl) (Ent.cells_one eZ) (fun w3 hB_ hc_ => ?_)))
   replace hB4 := hB_
   replace hB := hB.chg hc_ (by show ¬ gw = g4; omega)
   replace hSn := hSn.chg hc_ (by show ¬ gx = g4; omega) (by show ¬ gm = g4; omega) (fun k hk => by show ¬ k = g4; have := hv4 k hk; omega)
   replace hF := hF.chg hc_ (fun k hk => by show ¬ k = g4; have := hSlo k hk; omega)
   replace hcw := hcw.next hc_ (fun i hi => .inr (by omega))
   clear hB_ hc_
   refine sa rfl rfl (Wn (tN (W_ret (bR (tR ?_)))))
   rw [if_pos (.inr h15)]
   exact (rCT rfl rfl hB4 Tryz.underlying66 rfl (by rw [hz]; exact siz66) rfl ⟨rfl, _, S, ⟨hB, hSn, hF⟩, hS1, fun k hk => .inl hk, hcw⟩).1
  ·first | replace h15 := of_decide_eq_false h15 | replace h15 := of_decide_eq_true (notF h15) | replace h15 := notF h15 | skip
   rw [if_neg (by rintro (e | e); rw [h20] at e; cases e; exact h15 e)]
   refine W_rs (sm rfl rfl (st (X.lenS rfl rfl Tryz.underlying9) rfl (st (X.gtr rfl rfl) rfl (sa rfl rfl (Wn (tN (W_if rfl (fun h25 => ?_) (fun h25 => ?_))))))))
   ·first | replace h25 := of_decide_eq_true h25 | replace h25 := of_decide_eq_false (notT h25) | replace h25 := notT h25 | skip
    rw [if_pos (by omega)]
    refine W_rs (st (X.bld rfl (benZ _)) rfl (ssBN rfl rfl hB4 (by rw [hz]; exact siz66) (by rw [hz]; rfl) (Ent.cells_one eZ) (fun w4 hB_ hc_ => ?_)))
    replace hB4 := hB_
    replace hB := hB.chg hc_ (by show ¬ gw = g4; omega)
    replace hSn := hSn.chg hc_ (by show ¬ gx = g4; omega) (by show ¬ gm = g4; omega) (fun k hk => by show ¬ k = g4; have := hv4 k hk; omega)
    replace hF := hF.chg hc_ (fun k hk => by show ¬ k = g4; have := hSlo k hk; omega)
    replace hcw := hcw.next hc_ (fun i hi => .inr (by omega))
    clear hB_ hc_
    refine sa rfl rfl (Wn (tN (W_ret (bR (tR ?_)))))
    exact (rCT rfl rfl hB4 Tryz.underlying66 rfl (by rw [hz]; exact siz66) rfl ⟨rfl, _, S, ⟨hB, hSn, hF⟩, hS1, fun k hk => .inl hk, hcw⟩).1
   ·first | replace h25 := of_decide_eq_false h25 | replace h25 := of_decide_eq_true (notF h25) | replace h25 := notF h25 | skip
    rw [if_neg (by omega)]
    refine W_skip (bN (tN (W_rs (sm rfl rfl (sc _ Tryz.func24 rfl (by kernel_rfl) rfl rfl ((Of_list d _ hT.sha (by omega)).mono ?_))))))
    rintro e_ w5 ⟨rfl, hb⟩
    refine cR ?_
    replace hcw := hcw.then_below hb
    replace hB := hB.bel hb
    replace hSn := hSn.bel hb
    replace hF := hF.bel hb
    replace hT := hT.bel hb
    replace hB4 := hB4.bel hb
    have hz_w5 := hb.size
    clear hb
    refine salA inf60 rfl (fun g6 w6 hB6 hg6 hb hl6 => ?_)
    replace hcw := hcw.then_below hb
    replace hB := hB.bel hb
    replace hSn := hSn.bel hb
    replace hF := hF.bel hb
    replace hT := hT.bel hb
    replace hB4 := hB4.bel hb
    have hz_w6 := hb.size
    clear hb
    refine ssBN rfl rfl hB6 (by rw [sumSize hsha]; exact siz60) (by rw [sumSize hsha]; rfl) (sumOne _) (fun w7 hB_ hc_ => ?_)
    replace hB6 := hB_
    replace hB4 := hB4.chg hc_ (by show ¬ g4 = g6; omega)
    replace hB := hB.chg hc_ (by show ¬ gw = g6; omega)
    replace hSn := hSn.chg hc_ (by show ¬ gx = g6; omega) (by show ¬ gm = g6; omega) (fun k hk => by show ¬ k = g6; have := hv4 k hk; omega)
    replace hF := hF.chg hc_ (fun k hk => by show ¬ k = g6; have := hSlo k hk; omega)
    replace hT := hT.chg hc_ (fun k hk => by have h1 : k = g6 := hk; omega)
    replace hcw := hcw.next hc_ (fun i hi => .inr (by omega))
    have hz_w7 := hc_.size
    clear hB_ hc_
    obtain ⟨m, hM, hm⟩ := hSn.map
    refine Wn (tN (W_seq (W_drsN (fun W_ => Blk W_ gw 112 #[.pointer (some ⟨gd, 0, none⟩), .int .i64 x.n, .pointer (some ⟨gx, 0, none⟩), .bool x.closed] ∧ Blk W_ gx 97 #[.slice q x.l.length cq, .map (some gm), .int .i64 (0 : Nat), .bool false] ∧ Blk W_ g6 60 ((sha d).map bv).toArray) [0, 1, 2, 3, 4, 5, 6, 7, 8, 9, 10, 11, 12, 13] [true, true, true, true, true, true, true, true, false, true, true, true, true, true] (by kernel_rfl) (by kernel_rfl) (⟨hB.drew, hSn.blk.drew, hB6.drew⟩) ?_)))
    obtain ⟨w8, hw_⟩ : ∃ w8 : World, w8 = World.drew w7 := ⟨_, rfl⟩
    rw [← hw_]
    have hb : Below w7.heap.size w7 w8 := by rw [hw_]; exact bdrew (Below.refl _ _)
    clear hw_
    have hS := hb
    replace hcw := hcw.then_below hb
    replace hB := hB.bel hb
    replace hSn := hSn.bel hb
    replace hF := hF.bel hb
    replace hT := hT.bel hb
    replace hB4 := hB4.bel hb
    replace hB6 := hB6.bel hb
    replace hM := hM.bel hb
    have hz_w8 := hb.size
    clear hb
    refine oY rfl (fun W_ hW_ => (X.move rfl)) rfl (oY rfl (fun W_ hW_ => (X.nilChk rfl)) rfl (oY rfl (fun W_ hW_ => (X.fa fa112_2 rfl)) rfl (oY rfl (fun W_ hW_ => (X.ldL rfl hW_.1 Tryz.underlying92 rfl rfl)) rfl (oY rfl (fun W_ hW_ => (X.nilChk rfl)) rfl (oY rfl (fun W_ hW_ => (X.fa fa97_1 rfl)) rfl (oY rfl (fun W_ hW_ => (X.ldL rfl hW_.2.1 Tryz.underlying95 rfl rfl)) rfl (oY rfl (fun W_ hW_ => (X.ldBN rfl hW_.2.2 Tryz.underlying60 rfl (by rw [sumSize hsha]; exact siz60))) rfl ?_)))))))
    refine oL rfl (fun Q_ hQ_ hP_ => (st (X.lookOk (z := .int .i64 0) keySum rfl ⟨sha d, hsha⟩ rfl Tryz.underlying95 (by kernel_rfl) hM) rfl (Wn (hQ_ _ _ (⟨hB, hSn.blk, hB6⟩) ?_))))
    clear hQ_ hP_ Q_
    refine oY rfl (fun W_ hW_ => (X.move rfl)) rfl (oY rfl (fun W_ hW_ => (X.ext rfl rfl)) rfl (oY rfl (fun W_ hW_ => (X.ext rfl rfl)) rfl (oY rfl (fun W_ hW_ => (X.assign rfl)) rfl (oY rfl (fun W_ hW_ => (X.assign rfl)) rfl (oN (nN (W_rs (sm rfl rfl (Wn (tN ?_))))))))))
    refine W_if rfl (fun h44 => ?_) (fun h44 => ?_)
    ·first | replace h44 := of_decide_eq_true h44 | replace h44 := of_decide_eq_false (notT h44) | replace h44 := notT h44 | skip
     obtain ⟨i, hgi⟩ : ∃ i, mget m (⟨sha d, hsha⟩ : Sum32) = some i := Option.isSome_iff_exists.1 h44
     obtain ⟨j, en, rfl, hj, hes, hfi⟩ := has_get hm hM.nodup hgi
     have hfi : findM x.l (sha d) = some en := hfi
     have hen : en.sum.length = 32 := h32 en (List.mem_of_getElem? hj)
     have hjl : j < x.l.length := (List.getElem?_eq_some_iff.1 hj).1
     rw [hfi, hgi]
     have hRr := hSn.row.reads
     obtain ⟨g1, o1, c', hvv, hg1⟩ := hRr.some_ (by show 0 < x.l.length; omega)
     injection hvv with e1 _ e3
     subst e1 e3
     have hRg := EntsAt.range (l := x.l) hRr h32 hj
     clear hRr
     refine W_rs (sm rfl rfl (st (X.nilChk rfl) rfl (st (X.fa fa112_2 rfl) rfl (st (X.ldL rfl hB Tryz.underlying92 rfl rfl) rfl (st (X.nilChk rfl) rfl (st (X.fa fa97_0 rfl) rfl (st (X.ldL rfl hSn.blk Tryz.underlying23 rfl rfl) rfl (sm rfl rfl (st (X.idxA rfl rfl Tryz.underlying23 siz66 rfl hjl) rfl (st (X.ldN (cs := en.cells) rfl Tryz.underlying66 rfl (by rw [Ent.cells_length hen]; exact siz66) hRg) rfl ?_))))))))))
     refine ssBN rfl rfl hB4 (by rw [Ent.size hen]; exact siz66) (by rw [Ent.size hen]; rfl) (Ent.cells_one en) (fun w9 hB_ hc_ => ?_)
     replace hB4 := hB_
     replace hB := hB.chg hc_ (by show ¬ gw = g4; omega)
     replace hSn := hSn.chg hc_ (by show ¬ gx = g4; omega) (by show ¬ gm = g4; omega) (fun k hk => by show ¬ k = g4; have := hv4 k hk; omega)
     replace hF := hF.chg hc_ (fun k hk => by show ¬ k = g4; have := hSlo k hk; omega)
     replace hcw := hcw.next hc_ (fun i hi => .inr (by omega))
     clear hB_ hc_
     refine sa rfl rfl (Wn (tN (W_ret (tR ?_))))
     exact (rCT rfl rfl hB4 Tryz.underlying66 rfl (by rw [Ent.size hen]; exact siz66) rfl ⟨rfl, _, S, ⟨hB, hSn, hF⟩, hS1, fun k hk => .inl hk, hcw⟩).1
    ·first | replace h44 := of_decide_eq_false h44 | replace h44 := of_decide_eq_true (notF h44) | replace h44 := notF h44 | skip
     obtain ⟨hfn, hhn⟩ := has_none hm (k := ⟨sha d, hsha⟩) (by cases hg : mget m (⟨sha d, hsha⟩ : Sum32) with | none => rfl | some z => rw [hg] at h44; simp at h44)
     have hfn : findM x.l (sha d) = none := hfn
     have hhn : hadM x.l (sha d) = false := hhn
     rw [hfn]
     refine W_skip (tN (W_drsN (fun W_ => Blk W_ gw 112 #[.pointer (some ⟨gd, 0, none⟩), .int .i64 x.n, .pointer (some ⟨gx, 0, none⟩), .bool x.closed]) [0, 1, 2, 3, 4, 5, 6, 7, 8, 9, 10, 11, 12, 13, 14] [true, true, true, true, true, true, true, true, false, false, true, true, true, true, true] (by kernel_rfl) (by kernel_rfl) (hB.drew) ?_))
     obtain ⟨w10, hw_⟩ : ∃ w10 : World, w10 = World.drew w8 := ⟨_, rfl⟩
     rw [← hw_]
     have hb : Below w8.heap.size w8 w10 := by rw [hw_]; exact bdrew (Below.refl _ _)
     clear hw_
     have hS := hb
     replace hcw := hcw.then_below hb
     replace hB := hB.bel hb
     replace hSn := hSn.bel hb
     replace hF := hF.bel hb
     replace hT := hT.bel hb
     replace hB4 := hB4.bel hb
     replace hB6 := hB6.bel hb
     replace hM := hM.bel hb
     have hz_w10 := hb.size
     clear hb
     refine oY rfl (fun W_ hW_ => (X.move rfl)) rfl (oY rfl (fun W_ hW_ => (X.nilChk rfl)) rfl (oY rfl (fun W_ hW_ => (X.fa fa112_0 rfl)) rfl (oY rfl (fun W_ hW_ => (X.ldL rfl hW_ Tryz.underlying41 rfl rfl)) rfl (oY rfl (fun W_ hW_ => (X.move rfl)) rfl (oY rfl (fun W_ hW_ => (X.nilChk rfl)) rfl (oY rfl (fun W_ hW_ => (X.fa fa112_1 rfl)) rfl (oY rfl (fun W_ hW_ => (X.ldL rfl hW_ Tryz.underlying3 rfl rfl)) rfl (oL rfl (fun Q_ hQ_ hP_ => (sc _ Tryz.func21 rfl (by kernel_rfl) rfl rfl ((Name_p x.n _ hT.pow).mono ?_)))))))))))
     rintro e_ w11 ⟨rfl, hb⟩
     refine cR ?_
     replace hcw := hcw.then_below hb
     replace hB := hB.bel hb
     replace hSn := hSn.bel hb
     replace hF := hF.bel hb
     replace hT := hT.bel hb
     replace hB4 := hB4.bel hb
     replace hB6 := hB6.bel hb
     replace hM := hM.bel hb
     have hz_w11 := hb.size
     clear hb
     refine Wn (hQ_ _ _ (hB) ?_)
     clear hQ_ hP_ Q_
     refine oL rfl (fun Q_ hQ_ hP_ => (sc _ Tryz.func20 rfl (by kernel_rfl) rfl rfl ((Size_any gd D S (nameP x.n) _ hF.own.at_).mono ?_)))
     rintro e_ w12 ⟨rfl, hb⟩
     refine cR ?_
     replace hcw := hcw.then_below hb
     replace hB := hB.bel hb
     replace hSn := hSn.bel hb
     replace hF := hF.bel hb
     replace hT := hT.bel hb
     replace hB4 := hB4.bel hb
     replace hB6 := hB6.bel hb
     replace hM := hM.bel hb
     have hz_w12 := hb.size
     clear hb
     refine Wn (hQ_ _ _ (hB) ?_)
     clear hQ_ hP_ Q_
     refine oY rfl (fun W_ hW_ => (X.move rfl)) rfl (oY rfl (fun W_ hW_ => (X.ext rfl rfl)) rfl (oY rfl (fun W_ hW_ => (X.ext rfl rfl)) rfl (oY rfl (fun W_ hW_ => (X.assign rfl)) rfl (oY rfl (fun W_ hW_ => (X.assign rfl)) rfl (oN (nN (W_seq (W_rs (sm rfl rfl (st (X.eql rfl rfl) rfl ?_))))))))))
     refine Wn (tN (W_if rfl (fun h69 => ?_) (fun h69 => ?_)))
     ·first | replace h69 := of_decide_eq_true h69 | replace h69 := of_decide_eq_false (notT h69) | replace h69 := notT h69 | skip
      rw [if_neg (by omega)]
      refine W_drN (fun W_ => Blk W_ gw 112 #[.pointer (some ⟨gd, 0, none⟩), .int .i64 x.n, .pointer (some ⟨gx, 0, none⟩), .bool x.closed]) [0, 1, 2, 3, 4, 5, 6, 7, 9, 8, 10, 11, 12] [true, true, true, true, true, true, true, true, true, false, false, false, true] (by kernel_rfl) (by kernel_rfl) (hB.drew) ?_
      obtain ⟨w13, hw_⟩ : ∃ w13 : World, w13 = World.drew w12 := ⟨_, rfl⟩
      rw [← hw_]
      have hb : Below w12.heap.size w12 w13 := by rw [hw_]; exact bdrew (Below.refl _ _)
      clear hw_
      have hS := hb
      replace hcw := hcw.then_below hb
      replace hB := hB.bel hb
      replace hSn := hSn.bel hb
      replace hF := hF.bel hb
      replace hT := hT.bel hb
      replace hB4 := hB4.bel hb
      replace hB6 := hB6.bel hb
      replace hM := hM.bel hb
      have hz_w13 := hb.size
      clear hb
      refine oY rfl (fun W_ hW_ => (X.move rfl)) rfl (oY rfl (fun W_ hW_ => (X.nilChk rfl)) rfl (oY rfl (fun W_ hW_ => (X.fa fa112_0 rfl)) rfl (oY rfl (fun W_ hW_ => (X.ldL rfl hW_ Tryz.underlying41 rfl rfl)) rfl (oY rfl (fun W_ hW_ => (X.move rfl)) rfl (oY rfl (fun W_ hW_ => (X.nilChk rfl)) rfl (oY rfl (fun W_ hW_ => (X.fa fa112_1 rfl)) rfl (oY rfl (fun W_ hW_ => (X.ldL rfl hW_ Tryz.underlying3 rfl rfl)) rfl (oY rfl (fun W_ hW_ => (X.move rfl)) rfl (oL rfl (fun Q_ hQ_ hP_ => (sc _ Tryz.func21 rfl (by kernel_rfl) rfl rfl ((Name_p x.n _ hT.pow).mono ?_))))))))))))
      rintro e_ w14 ⟨rfl, hb⟩
      refine cR ?_
      replace hcw := hcw.then_below hb
      replace hB := hB.bel hb
      replace hSn := hSn.bel hb
      replace hF := hF.bel hb
      replace hT := hT.bel hb
      replace hB4 := hB4.bel hb
      replace hB6 := hB6.bel hb
      replace hM := hM.bel hb
      have hz_w14 := hb.size
      clear hb
      refine Wn (hQ_ _ _ (hB) ?_)
      clear hQ_ hP_ Q_
      refine oL rfl (fun Q_ hQ_ hP_ => (sc _ Tryz.func68 rfl (by kernel_rfl) rfl rfl ((sealed_any d _ hT.sha (by omega)).mono ?_)))
      rintro e_ w15 ⟨rfl, hb⟩
      refine cR ?_
      replace hcw := hcw.then_below hb
      replace hB := hB.bel hb
      replace hSn := hSn.bel hb
      replace hF := hF.bel hb
      replace hT := hT.bel hb
      replace hB4 := hB4.bel hb
      replace hB6 := hB6.bel hb
      replace hM := hM.bel hb
      have hz_w15 := hb.size
      clear hb
      refine Wn (hQ_ _ _ (hB) ?_)
      clear hQ_ hP_ Q_
      refine oL rfl (fun Q_ hQ_ hP_ => (sc _ Tryz.func51 rfl (by kernel_rfl) rfl rfl ((wdisk (Append_any gd D _ (nameP x.n) (chunkB d) _ hF.own.at_ hg.ok (hg.bud (by omega)) (by have := chunkB_len d (by omega); omega)) hB hSn hF hT hcw (fun k hk => .inl hk) hS1).mono ?_)))
      clear hB hSn hF hT
      rintro e_ w16 ⟨rfl, S1, hB, hSn, hF, hT, hS1, hX2, hcw, hz1_⟩
      refine cR (Wn (hQ_ _ _ (hB) ?_))
      clear hQ_ hP_ Q_
      replace hB4 := hB4.chg hX2.2 (fun e => by have := hSlo g4 e; omega)
      replace hB6 := hB6.chg hX2.2 (fun e => by have := hSlo g6 e; omega)
      have hS1x : ∀ k, S1 k → k ≠ g4 := fun k hk e => by rcases hX2.1 k hk with h | h; have := hSlo k h; omega; omega
      obtain ⟨e1, D1, hap⟩ : ∃ e1 D1, appendM D (nameP x.n) (chunkB d) = (e1, D1) := ⟨_, _, rfl⟩
      rw [hap] at hF ⊢
      simp only at hF ⊢
      refine oY rfl (fun W_ hW_ => (X.assign rfl)) rfl (oN (nN (tN (W_seq (W_rs (sm rfl rfl (st (X.neq rfl rfl) rfl (Wn (tN (W_if rfl (fun h83 => ?_) (fun h83 => ?_)))))))))))
      ·first | replace h83 := of_decide_eq_true h83 | replace h83 := of_decide_eq_false (notT h83) | replace h83 := notT h83 | skip
       rw [if_pos h83]
       refine W_rs (st (X.bld rfl (benZ _)) rfl (sm rfl rfl (ssBN rfl rfl hB4 (by rw [hz]; exact siz66) (by rw [hz]; rfl) (Ent.cells_one eZ) (fun w17 hB_ hc_ => ?_))))
       replace hB4 := hB_
       replace hB := hB.chg hc_ (by show ¬ gw = g4; omega)
       replace hSn := hSn.chg hc_ (by show ¬ gx = g4; omega) (by show ¬ gm = g4; omega) (fun k hk => by show ¬ k = g4; have := hv4 k hk; omega)
       replace hF := hF.chg hc_ (fun k hk => by show ¬ k = g4; have := hS1x k hk; omega)
       replace hcw := hcw.next hc_ (fun i hi => .inr (by omega))
       clear hB_ hc_
       refine sa rfl rfl (Wn (tN (W_ret (tR ?_))))
       exact (rCT rfl rfl hB4 Tryz.underlying66 rfl (by rw [hz]; exact siz66) rfl ⟨rfl, _, S1, ⟨hB, hSn, hF⟩, hS1, fun k hk => .inl hk, hcw⟩).1
      ·first | replace h83 := of_decide_eq_false h83 | replace h83 := of_decide_eq_true (notF h83) | replace h83 := notF h83 | skip
       rw [if_neg h83]
       refine W_skip (tN (W_drsN (fun W_ => Blk W_ gw 112 #[.pointer (some ⟨gd, 0, none⟩), .int .i64 x.n, .pointer (some ⟨gx, 0, none⟩), .bool x.closed] ∧ Blk W_ g6 60 ((sha d).map bv).toArray) [0, 1, 2, 3, 4, 5, 6, 7, 8, 9, 10, 11, 12, 13] [true, true, true, true, true, true, true, true, true, true, true, false, false, true] (by kernel_rfl) (by kernel_rfl) (⟨hB.drew, hB6.drew⟩) ?_))
       obtain ⟨w18, hw_⟩ : ∃ w18 : World, w18 = World.drew w16 := ⟨_, rfl⟩
       rw [← hw_]
       have hb : Below w16.heap.size w16 w18 := by rw [hw_]; exact bdrew (Below.refl _ _)
       clear hw_
       have hS := hb
       replace hcw := hcw.then_below hb
       replace hB := hB.bel hb
       replace hSn := hSn.bel hb
       replace hF := hF.bel hb
       replace hT := hT.bel hb
       replace hB4 := hB4.bel hb
       replace hB6 := hB6.bel hb
       have hz_w18 := hb.size
       clear hb
       refine oY rfl (fun W_ hW_ => (X.move rfl)) rfl (oY rfl (fun W_ hW_ => (X.nilChk rfl)) rfl (oY rfl (fun W_ hW_ => (X.fa fa112_2 rfl)) rfl (oY rfl (fun W_ hW_ => (X.ldL rfl hW_.1 Tryz.underlying92 rfl rfl)) rfl (oY rfl (fun W_ hW_ => (X.move rfl)) rfl (oY rfl (fun W_ hW_ => (X.nilChk rfl)) rfl (oY rfl (fun W_ hW_ => (X.fa fa112_1 rfl)) rfl (oY rfl (fun W_ hW_ => (X.ldL rfl hW_.1 Tryz.underlying3 rfl rfl)) rfl (oY rfl (fun W_ hW_ => (X.move rfl)) rfl (oY rfl (fun W_ hW_ => (X.ldBN rfl hW_.2 Tryz.underlying60 rfl (by rw [sumSize hsha]; exact siz60))) rfl ?_)))))))))
       refine oY rfl (fun W_ hW_ => (X.move rfl)) rfl (oL rfl (fun Q_ hQ_ hP_ => (sc _ Tryz.func69 rfl (by kernel_rfl) rfl rfl ((wadd x.n (sizeM D (nameP x.n)).1 (sha d) d hB hSn hF hcw (fun k hk => .inr hk) hsha hhn (by omega)).mono ?_))))
       clear hB hSn hF
       rintro e_ w19 ⟨rfl, v', hB, hSn, hF, hv', hC2, hcw, hz2_⟩
       refine cR (Wn (hQ_ _ _ (by first | exact ⟨hB, hB6⟩ | exact ⟨hB, hB6.chg hC2 (by rintro (e | e | e); omega; omega; have := hv4 _ e; omega)⟩) ?_))
       clear hQ_ hP_ Q_
       replace hB4 := hB4.chg hC2 (by rintro (e | e | e); omega; omega; have := hv4 _ e; omega)
       replace hB6 := hB6.chg hC2 (by rintro (e | e | e); omega; omega; have := hv4 _ e; omega)
       have hv5 : ∀ k, v'.ownBlock = some k → ¬ k = g4 := fun k hk e => by rcases hv' k hk with h | h; have := hv4 k h; omega; omega
       refine oL rfl (fun Q_ hQ_ hP_ => (ssBN rfl rfl hB4 (by rw [Ent.size (e := ⟨sha d, x.n, (sizeM D (nameP x.n)).1, d.length⟩) hsha]; exact siz66) (by rw [Ent.size (e := ⟨sha d, x.n, (sizeM D (nameP x.n)).1, d.length⟩) hsha]; rfl) (entOne _) (fun w20 hB_ hc_ => ?_)))
       replace hB4 := hB_
       replace hB := hB.chg hc_ (by show ¬ gw = g4; omega)
       replace hSn := hSn.chg hc_ (by show ¬ gx = g4; omega) (by show ¬ gm = g4; omega) (fun k hk => hv5 k hk)
       replace hB6 := hB6.chg hc_ (by show ¬ g6 = g4; omega)
       replace hF := hF.chg hc_ (fun k hk => hS1x k hk)
       replace hcw := hcw.next hc_ (fun i hi => .inr (by omega))
       clear hB_ hc_
       refine Wn (hQ_ _ _ (by first | exact ⟨hB, hB6⟩ | exact ⟨hB, hB6.chg hC2 (by rintro (e | e | e); omega; omega; have := hv4 _ e; omega)⟩) ?_)
       clear hQ_ hP_ Q_
       refine oY rfl (fun W_ hW_ => (X.assign rfl)) rfl (oN (nN (W_ret ((rCT rfl rfl hB4 Tryz.underlying66 rfl (by rw [Ent.size (e := ⟨sha d, x.n, (sizeM D (nameP x.n)).1, d.length⟩) hsha]; exact siz66) rfl ⟨rfl, v', S1, ⟨hB, hSn, hF⟩, hS1, fun k hk => (hv' k hk).imp id (fun h => by omega), hcw⟩).1))))
     ·first | replace h69 := of_decide_eq_false h69 | replace h69 := of_decide_eq_true (notF h69) | replace h69 := notF h69 | skip
      rw [if_pos h69]
      refine W_skip (tN (W_seq (W_rs (sm rfl rfl (st (X.neq rfl rfl) rfl (Wn (tN (W_yes rfl (decide_eq_true h69) (W_rs (st (X.bld rfl (benZ _)) rfl ?_))))))))))
      refine sm rfl rfl (ssBN rfl rfl hB4 (by rw [hz]; exact siz66) (by rw [hz]; rfl) (Ent.cells_one eZ) (fun w21 hB_ hc_ => ?_))
      replace hB4 := hB_
      replace hB := hB.chg hc_ (by show ¬ gw = g4; omega)
      replace hSn := hSn.chg hc_ (by show ¬ gx = g4; omega) (by show ¬ gm = g4; omega) (fun k hk => by show ¬ k = g4; have := hv4 k hk; omega)
      replace hF := hF.chg hc_ (fun k hk => by show ¬ k = g4; have := hSlo k hk; omega)
      replace hcw := hcw.next hc_ (fun i hi => .inr (by omega))
      clear hB_ hc_
      refine sa rfl rfl (Wn (tN (W_ret (tR ?_))))
      exact (rCT rfl rfl hB4 Tryz.underlying66 rfl (by rw [hz]; exact siz66) rfl ⟨rfl, _, S, ⟨hB, hSn, hF⟩, hS1, fun k hk => .inl hk, hcw⟩).1
end
end Go.Proofs.YtnlabkogebnioaaGreatDoor
namespace Go.Proofs.YtnlabkogebnioaaGreatDoor
open Go.RowKit Sha
def PClosePost (B : Nat) (w : World) (gd gw gx gm : Nat) (r : (List Ent × Int) × Wri × DiskD) (v : Value) (S : Nat → Prop) (e : Ending) (w' : World) : Prop :=
  ∃ u v' S', e = .returned (.tuple #[.agg #[u], .int .i64 r.1.2]) ∧ EntsAt w' u r.1.1 ∧ (∀ k, u.ownBlock = some k → w.heap.size ≤ k ∧ ¬ S' k) ∧ WrAll B w' gd gw gx gm r.2.2 r.2.1 v' S' ∧ (∀ k, S' k → S k ∨ w.heap.size ≤ k) ∧ (∀ k, v'.ownBlock = some k → v.ownBlock = some k ∨ w.heap.size ≤ k) ∧ Chg (fun k => S k ∨ WrT gw gx gm v k) w w'
section
variable {B gd gw gx gm : Nat} {w : World} {D : DiskD} {x : Wri} {v : Value} {S : Nat → Prop}
set_option maxRecDepth 10000 in
theorem pclose_any (N : Nat) (h : WrAll B w gd gw gx gm D x v S) (hg : Good N D) (hN : N ≤ 1000000000) (hT : PTabs B w) (hl : x.l.length ≤ 1000000) :
  Calls Tryz.prog 18 #[.pointer (some ⟨gw, 0, none⟩)] w (PClosePost B w gd gw gx gm (pcloseM D x) v S) := by
 have hlt := h.lt
 have hB : Blk w gw 112 #[.pointer (some ⟨gd, 0, none⟩), .int .i64 x.n, .pointer (some ⟨gx, 0, none⟩), .bool x.closed] := h.blk
 have hSn := h.scn
 have hF := h.wf
 have h32 := hSn.s32
 have hS1 : ∀ k, S k → S k ∨ w.heap.size ≤ k := fun k hk => .inl hk
 have hSlo := hF.own.lo
 have hv1 : gw < w.heap.size := hlt _ (.inl rfl)
 have hv2 : gx < w.heap.size := hlt _ (.inr (.inl rfl))
 have hv3 : gm < w.heap.size := hlt _ (.inr (.inr (.inl rfl)))
 have hv4 : ∀ k, v.ownBlock = some k → k < w.heap.size := fun k hk => hlt _ (.inr (.inr (.inr hk)))
 have hB0 := hF.gB
 have hg1 := append_good hg (nameP x.n) (footB x.l)
 have hfl := footB_len x.l
 have hRow : Row w 66 35 v x.l.length (x.l.flatMap Ent.cells) := hSn.row
 obtain ⟨q, cq, rfl, hq1, hq2⟩ := hRow.shape
 clear hRow h
 unfold pcloseM
 refine W_enter (args := [.pointer (some ⟨gw, 0, none⟩)]) 62 Tryz.func18 rfl rfl rfl (W_sub [(0, .pointer (some ⟨gw, 0, none⟩))] ?_ ⟨rfl, trivial⟩)
 have hcw := Chg.refl (fun k => S k ∨ WrT gw gx gm (Value.slice q x.l.length cq) k) w
 refine W_rs (salA inf25 rfl (fun g2 w1 hB2 hg2 hb hl2 => ?_))
 replace hcw := hcw.then_below hb
 replace hB := hB.bel hb
 replace hSn := hSn.bel hb
 replace hF := hF.bel hb
 replace hT := hT.bel hb
 have hz_w1 := hb.size
 clear hb
 refine sa rfl rfl (Wn (tN (W_seq (W_block (W_rs (sm rfl rfl (st (X.wEq rfl) rfl (sa rfl rfl (Wn (tN ?_))))))))))
 refine W_no rfl (rfl) (W_rs (sm rfl rfl (st (X.nilChk rfl) rfl (st (X.fa fa112_3 rfl) rfl (st (X.ldL rfl hB Tryz.underlying4 rfl rfl) rfl (sa rfl rfl (Wn (tN (W_if rfl (fun h10 => ?_) (fun h10 => ?_))))))))))
 ·first | replace h10 := of_decide_eq_true h10 | replace h10 := of_decide_eq_false (notT h10) | replace h10 := notT h10 | skip
  rw [if_pos h10]
  refine W_rs (st (X.bld rfl (bidx0 _)) rfl (ssBN rfl rfl hB2 siz25 rfl (by simp [Value.oneCell']) (fun w2 hB_ hc_ => ?_)))
  replace hB2 := hB_
  replace hB := hB.chg hc_ (by show ¬ gw = g2; omega)
  replace hSn := hSn.chg hc_ (by show ¬ gx = g2; omega) (by show ¬ gm = g2; omega) (fun k hk => by show ¬ k = g2; have := hv4 k hk; omega)
  replace hF := hF.chg hc_ (fun k hk => by show ¬ k = g2; have := hSlo k hk; omega)
  replace hcw := hcw.next hc_ (fun i hi => .inr (by omega))
  clear hB_ hc_
  refine sa rfl rfl (Wn (tN (W_ret (bR (tR ?_)))))
  exact (rCT rfl rfl hB2 Tryz.underlying25 rfl siz25 rfl ⟨_, _, S, rfl, EntsAt.nil _, fun k hk => by simp [Value.ownBlock] at hk, ⟨hB, hSn, hF⟩, hS1, fun k hk => .inl hk, hcw⟩).1
 ·first | replace h10 := of_decide_eq_false h10 | replace h10 := of_decide_eq_true (notF h10) | replace h10 := notF h10 | skip
  rw [if_neg (by rw [h10]; decide)]
  refine W_skip (bN (tN (W_seq (W_drsN (fun W_ => Blk W_ gw 112 #[.pointer (some ⟨gd, 0, none⟩), .int .i64 x.n, .pointer (some ⟨gx, 0, none⟩), .bool x.closed] ∧ Blk W_ gx 97 #[.slice q x.l.length cq, .map (some gm), .int .i64 (0 : Nat), .bool false]) [0, 1, 2, 3, 4, 5, 6, 7, 9, 10, 11, 12, 13, 14, 15, 16, 8, 17, 18, 19, 20] [true, true, true, true, true, true, true, true, true, true, true, true, true, true, true, true, false, false, false, false, true] (by kernel_rfl) (by kernel_rfl) (⟨hB.drew, hSn.blk.drew⟩) ?_))))
  obtain ⟨w3, hw_⟩ : ∃ w3 : World, w3 = World.drew w1 := ⟨_, rfl⟩
  rw [← hw_]
  have hb : Below w1.heap.size w1 w3 := by rw [hw_]; exact bdrew (Below.refl _ _)
  clear hw_
  have hS := hb
  replace hcw := hcw.then_below hb
  replace hB := hB.bel hb
  replace hSn := hSn.bel hb
  replace hF := hF.bel hb
  replace hT := hT.bel hb
  replace hB2 := hB2.bel hb
  have hz_w3 := hb.size
  clear hb
  refine oY rfl (fun W_ hW_ => (X.move rfl)) rfl (oY rfl (fun W_ hW_ => (X.nilChk rfl)) rfl (oY rfl (fun W_ hW_ => (X.fa fa112_0 rfl)) rfl (oY rfl (fun W_ hW_ => (X.ldL rfl hW_.1 Tryz.underlying41 rfl rfl)) rfl (oY rfl (fun W_ hW_ => (X.move rfl)) rfl (oY rfl (fun W_ hW_ => (X.nilChk rfl)) rfl (oY rfl (fun W_ hW_ => (X.fa fa112_1 rfl)) rfl (oY rfl (fun W_ hW_ => (X.ldL rfl hW_.1 Tryz.underlying3 rfl rfl)) rfl (oY rfl (fun W_ hW_ => (X.move rfl)) rfl (oY rfl (fun W_ hW_ => (X.nilChk rfl)) rfl (oY rfl (fun W_ hW_ => (X.fa fa112_2 rfl)) rfl ?_))))))))))
  refine oY rfl (fun W_ hW_ => (X.ldL rfl hW_.1 Tryz.underlying92 rfl rfl)) rfl (oY rfl (fun W_ hW_ => (X.nilChk rfl)) rfl (oY rfl (fun W_ hW_ => (X.fa fa97_0 rfl)) rfl (oY rfl (fun W_ hW_ => (X.ldL rfl hW_.2 Tryz.underlying23 rfl rfl)) rfl (oY rfl (fun W_ hW_ => (X.lenL rfl rfl Tryz.underlying23)) rfl (oL rfl (fun Q_ hQ_ hP_ => (sc _ Tryz.func21 rfl (by kernel_rfl) rfl rfl ((Name_p x.n _ hT.pow).mono ?_))))))))
  rintro e_ w4 ⟨rfl, hb⟩
  refine cR ?_
  replace hcw := hcw.then_below hb
  replace hB := hB.bel hb
  replace hSn := hSn.bel hb
  replace hF := hF.bel hb
  replace hT := hT.bel hb
  replace hB2 := hB2.bel hb
  have hz_w4 := hb.size
  clear hb
  refine Wn (hQ_ _ _ (⟨hB, hSn.blk⟩) ?_)
  clear hQ_ hP_ Q_
  refine oL rfl (fun Q_ hQ_ hP_ => (sc _ Tryz.func53 rfl (by kernel_rfl) rfl rfl ((pfour_any _ _).mono ?_)))
  rintro e_ w5 ⟨rfl, hb⟩
  refine cR ?_
  replace hcw := hcw.then_below hb
  replace hB := hB.bel hb
  replace hSn := hSn.bel hb
  replace hF := hF.bel hb
  replace hT := hT.bel hb
  replace hB2 := hB2.bel hb
  have hz_w5 := hb.size
  clear hb
  refine Wn (hQ_ _ _ (⟨hB, hSn.blk⟩) ?_)
  clear hQ_ hP_ Q_
  refine oL rfl (fun Q_ hQ_ hP_ => (sc _ Tryz.func52 rfl (by kernel_rfl) rfl rfl ((Seal_any 3 (four (x.l.length : Int)) _ (by rw [four_length]; omega)).mono ?_)))
  rintro e_ w6 ⟨rfl, hb⟩
  refine cR ?_
  replace hcw := hcw.then_below hb
  replace hB := hB.bel hb
  replace hSn := hSn.bel hb
  replace hF := hF.bel hb
  replace hT := hT.bel hb
  replace hB2 := hB2.bel hb
  have hz_w6 := hb.size
  clear hb
  refine Wn (hQ_ _ _ (⟨hB, hSn.blk⟩) ?_)
  clear hQ_ hP_ Q_
  refine oL rfl (fun Q_ hQ_ hP_ => (sc _ Tryz.func51 rfl (by kernel_rfl) rfl rfl ((wdisk (Append_any gd D _ (nameP x.n) (footB x.l) _ hF.own.at_ hg.ok (hg.bud (by omega)) (by omega)) hB hSn hF hT hcw (fun k hk => .inl hk) hS1).mono ?_)))
  clear hB hSn hF hT
  rintro e_ w7 ⟨rfl, S1, hB, hSn, hF, hT, hS1, hX2, hcw, hz1_⟩
  refine cR (Wn (hQ_ _ _ (⟨hB, hSn.blk⟩) ?_))
  clear hQ_ hP_ Q_
  replace hB2 := hB2.chg hX2.2 (fun e => by have := hSlo g2 e; omega)
  have hS1x : ∀ k, S1 k → k ≠ g2 := fun k hk e => by rcases hX2.1 k hk with h | h; have := hSlo k h; omega; omega
  clear hX2
  obtain ⟨e1, D1, hap⟩ : ∃ e1 D1, appendM D (nameP x.n) (footB x.l) = (e1, D1) := ⟨_, _, rfl⟩
  rw [hap] at hF hg1 ⊢
  simp only at hF hg1 ⊢
  refine oY rfl (fun W_ hW_ => (X.assign rfl)) rfl (oN (nN (W_rs (sm rfl rfl (st (X.neq rfl rfl) rfl (Wn (tN (W_if rfl (fun h37 => ?_) (fun h37 => ?_)))))))))
  ·first | replace h37 := of_decide_eq_true h37 | replace h37 := of_decide_eq_false (notT h37) | replace h37 := notT h37 | skip
   rw [if_pos h37]
   refine W_rs (st (X.bld rfl (bidx0 _)) rfl (sm rfl rfl (ssBN rfl rfl hB2 siz25 rfl (by simp [Value.oneCell']) (fun w8 hB_ hc_ => ?_))))
   replace hB2 := hB_
   replace hB := hB.chg hc_ (by show ¬ gw = g2; omega)
   replace hSn := hSn.chg hc_ (by show ¬ gx = g2; omega) (by show ¬ gm = g2; omega) (fun k hk => by show ¬ k = g2; have := hv4 k hk; omega)
   replace hF := hF.chg hc_ (fun k hk => hS1x k hk)
   replace hcw := hcw.next hc_ (fun i hi => .inr (by omega))
   clear hB_ hc_
   refine sa rfl rfl (Wn (tN (W_ret (tR ?_))))
   exact (rCT rfl rfl hB2 Tryz.underlying25 rfl siz25 rfl ⟨_, _, S1, rfl, EntsAt.nil _, fun k hk => by simp [Value.ownBlock] at hk, ⟨hB, hSn, hF⟩, hS1, fun k hk => .inl hk, hcw⟩).1
  ·first | replace h37 := of_decide_eq_false h37 | replace h37 := of_decide_eq_true (notF h37) | replace h37 := notF h37 | skip
   rw [if_neg h37]
   refine W_skip (tN (W_seq (W_drsN (fun W_ => Blk W_ gw 112 #[.pointer (some ⟨gd, 0, none⟩), .int .i64 x.n, .pointer (some ⟨gx, 0, none⟩), .bool x.closed]) [0, 1, 2, 3, 4, 5, 6, 7, 8, 9, 10] [true, true, true, true, true, true, true, true, false, false, true] (by kernel_rfl) (by kernel_rfl) (hB.drew) ?_)))
   obtain ⟨w9, hw_⟩ : ∃ w9 : World, w9 = World.drew w7 := ⟨_, rfl⟩
   rw [← hw_]
   have hb : Below w7.heap.size w7 w9 := by rw [hw_]; exact bdrew (Below.refl _ _)
   clear hw_
   have hS := hb
   replace hcw := hcw.then_below hb
   replace hB := hB.bel hb
   replace hSn := hSn.bel hb
   replace hF := hF.bel hb
   replace hT := hT.bel hb
   replace hB2 := hB2.bel hb
   have hz_w9 := hb.size
   clear hb
   refine oY rfl (fun W_ hW_ => (X.move rfl)) rfl (oY rfl (fun W_ hW_ => (X.nilChk rfl)) rfl (oY rfl (fun W_ hW_ => (X.fa fa112_0 rfl)) rfl (oY rfl (fun W_ hW_ => (X.ldL rfl hW_ Tryz.underlying41 rfl rfl)) rfl (oY rfl (fun W_ hW_ => (X.move rfl)) rfl (oY rfl (fun W_ hW_ => (X.nilChk rfl)) rfl (oY rfl (fun W_ hW_ => (X.fa fa112_1 rfl)) rfl (oY rfl (fun W_ hW_ => (X.ldL rfl hW_ Tryz.underlying3 rfl rfl)) rfl (oL rfl (fun Q_ hQ_ hP_ => (sc _ Tryz.func21 rfl (by kernel_rfl) rfl rfl ((Name_p x.n _ hT.pow).mono ?_)))))))))))
   rintro e_ w10 ⟨rfl, hb⟩
   refine cR ?_
   replace hcw := hcw.then_below hb
   replace hB := hB.bel hb
   replace hSn := hSn.bel hb
   replace hF := hF.bel hb
   replace hT := hT.bel hb
   replace hB2 := hB2.bel hb
   have hz_w10 := hb.size
   clear hb
   refine Wn (hQ_ _ _ (hB) ?_)
   clear hQ_ hP_ Q_
   refine oL rfl (fun Q_ hQ_ hP_ => (sc _ Tryz.func54 rfl (by kernel_rfl) rfl rfl ((wdisk (Sync_any gd D1 _ (nameP x.n) _ hF.own.at_ hg1.ok) hB hSn hF hT hcw (fun k hk => .inl hk) hS1).mono ?_)))
   clear hB hSn hF hT
   rintro e_ w11 ⟨rfl, S2, hB, hSn, hF, hT, hS1, hX2, hcw, hz2_⟩
   refine cR (Wn (hQ_ _ _ (hB) ?_))
   clear hQ_ hP_ Q_
   replace hB2 := hB2.chg hX2.2 (fun e => hS1x g2 e rfl)
   have hS2x : ∀ k, S2 k → k ≠ g2 := fun k hk e => by rcases hX2.1 k hk with h | h; exact hS1x k h e; omega
   clear hX2
   obtain ⟨e2, D2, hsy⟩ : ∃ e2 D2, syncM D1 (nameP x.n) = (e2, D2) := ⟨_, _, rfl⟩
   rw [hsy] at hF ⊢
   simp only at hF ⊢
   refine oY rfl (fun W_ hW_ => (X.assign rfl)) rfl (oN (nN (W_rs (sm rfl rfl (st (X.neq rfl rfl) rfl (Wn (tN (W_if rfl (fun h51 => ?_) (fun h51 => ?_)))))))))
   ·first | replace h51 := of_decide_eq_true h51 | replace h51 := of_decide_eq_false (notT h51) | replace h51 := notT h51 | skip
    rw [if_pos h51]
    refine W_rs (st (X.bld rfl (bidx0 _)) rfl (sm rfl rfl (ssBN rfl rfl hB2 siz25 rfl (by simp [Value.oneCell']) (fun w12 hB_ hc_ => ?_))))
    replace hB2 := hB_
    replace hB := hB.chg hc_ (by show ¬ gw = g2; omega)
    replace hSn := hSn.chg hc_ (by show ¬ gx = g2; omega) (by show ¬ gm = g2; omega) (fun k hk => by show ¬ k = g2; have := hv4 k hk; omega)
    replace hF := hF.chg hc_ (fun k hk => hS2x k hk)
    replace hcw := hcw.next hc_ (fun i hi => .inr (by omega))
    clear hB_ hc_
    refine sa rfl rfl (Wn (tN (W_ret (tR ?_))))
    exact (rCT rfl rfl hB2 Tryz.underlying25 rfl siz25 rfl ⟨_, _, S2, rfl, EntsAt.nil _, fun k hk => by simp [Value.ownBlock] at hk, ⟨hB, hSn, hF⟩, hS1, fun k hk => .inl hk, hcw⟩).1
   ·first | replace h51 := of_decide_eq_false h51 | replace h51 := of_decide_eq_true (notF h51) | replace h51 := notF h51 | skip
    rw [if_neg h51]
    refine W_skip (tN (W_rs (sm rfl rfl (st (X.nilChk rfl) rfl (st (X.fa fa112_3 rfl) rfl ?_)))))
    have hap2 := hF.ap gw (.inl rfl)
    have hlM : gw ≠ gm := by obtain ⟨m, hM, _⟩ := hSn.map; exact hB.neM hM
    have hlX : gx ≠ gw := by
     rintro rfl
     have e1 : _ = _ := hB
     rw [show _ = _ from hSn.blk] at e1
     injection e1 with e1
     injection e1 with _ e1
     exact absurd e1 (by decide)
    have hlV : ∀ k, (Value.slice q x.l.length cq).ownBlock = some k → ¬ k = gw := fun k hk e => hSn.row.ne2 hB (by decide) k hk e
    refine ssB rfl rfl hB siz4 rfl (by simp) (fun w13 hB_ hc_ => ?_)
    replace hB := hB_
    replace hB2 := hB2.chg hc_ (by show ¬ g2 = gw; omega)
    replace hSn := hSn.chg hc_ (by show ¬ gx = gw; exact hlX) (by show ¬ gm = gw; exact fun e => hlM e.symm) (fun k hk => hlV k hk)
    replace hF := hF.chg hc_ (fun k hk => by show ¬ k = gw; rintro rfl; exact hap2.1 hk)
    replace hT := hT.chg hc_ (fun k hk => by have h1 : k = gw := hk; have := hap2.2; omega)
    replace hcw := hcw.next hc_ (fun i hi => .inl (.inr (.inl hi)))
    have hz_w13 := hc_.size
    clear hB_ hc_
    refine Wn (tN (W_rs (sm rfl rfl (st (X.nilChk rfl) rfl (st (X.fa fa112_2 rfl) rfl (st (X.ldL rfl hB Tryz.underlying92 rfl rfl) rfl ?_))))))
    have hlo2 := hF.own.lo
    refine sc _ Tryz.func43 rfl (by kernel_rfl) rfl rfl ((index_any gx gm _ _ _ hSn hl).mono ?_)
    rintro e_ w14 ⟨u, rfl, hE, hO, hb⟩
    refine cR ?_
    replace hcw := hcw.then_below hb
    replace hB := hB.bel hb
    replace hSn := hSn.bel hb
    replace hF := hF.bel hb
    replace hT := hT.bel hb
    replace hB2 := hB2.bel hb
    have hz_w14 := hb.size
    clear hb
    obtain ⟨am, cm, rfl⟩ : ∃ am cm, u = .slice am (makeM x.l).1.length cm := by obtain ⟨_, am, cm, e, _⟩ := hE; exact ⟨am, cm, e⟩
    refine ssBN rfl rfl hB2 siz25 rfl (by simp [Value.oneCell']) (fun w15 hB_ hc_ => ?_)
    replace hE := EntsAt.chgI hE (make_S32 h32) hB2 hc_
    replace hB2 := hB_
    replace hB := hB.chg hc_ (by show ¬ gw = g2; omega)
    replace hSn := hSn.chg hc_ (by show ¬ gx = g2; omega) (by show ¬ gm = g2; omega) (fun k hk => by show ¬ k = g2; have := hv4 k hk; omega)
    replace hF := hF.chg hc_ (fun k hk => hS2x k hk)
    replace hcw := hcw.next hc_ (fun i hi => .inr (by omega))
    clear hB_ hc_
    refine sa rfl rfl (Wn (tN (W_ret ((rCT rfl rfl hB2 Tryz.underlying25 rfl siz25 rfl ⟨_, _, S2, rfl, hE, fun k hk => ⟨by have := hO k hk; omega, fun e => by have := hO k hk; have := (hlo2 k e).2; omega⟩, ⟨hB, hSn, hF⟩, hS1, fun k hk => .inl hk, hcw⟩).1))))
end
end Go.Proofs.YtnlabkogebnioaaGreatDoor
namespace Go.Proofs.YtnlabkogebnioaaGreatDoor
open Go.RowKit Sha
theorem pzer_eq (n : Nat) : (madeCells (Value.int IntKind.u8 0).cells (n * 1)).toList = (List.replicate n (0 : UInt8)).map bv := by
 rw [Nat.mul_one]
 apply List.ext_getElem
 ·simp [madeCells]
 ·intro i h1 h2
  have e : (Value.int IntKind.u8 0).cells = #[Value.int IntKind.u8 0] := rfl
  simp [madeCells, e, Nat.mod_one, bv]
def EOk (l : List Ent) : Prop := ∀ e ∈ l, 0 ≤ e.pos ∧ e.pos ≤ 16777216 ∧ 1 ≤ e.len ∧ e.len ≤ 1024
theorem stepP_eok {n : Int} {s : List UInt8} {x y : Scn} (h : stepP n s x = some y) (hs : s.length ≤ 16777216) (hg : x.good ≤ s.length) (hx : EOk x.l) : EOk y.l := by
 unfold stepP at h
 split at h
 ·cases h
 split at h
 ·cases h
 unfold takeP at h
 split at h
 ·split at h
  ·rename_i h5
   have h6 := openB_len h5.1
   injection h with h; subst h
   intro e he
   rcases List.mem_append.1 he with he | he
   ·exact hx e he
   ·rw [List.mem_singleton.1 he]
    simp only [entP]
    omega
  ·cases h
 split at h
 ·split at h
  ·injection h with h; subst h
   exact hx
  ·cases h
 ·cases h
theorem scanPN_eok {n : Int} {s : List UInt8} (hs : s.length ≤ 16777216) : ∀ (k : Nat) {x : Scn}, SOk s n x → EOk x.l → EOk (scanPN n s k x).l
 | 0, _, _, hx => hx
 | k + 1, x, ho, hx => by
  rw [scanPN]
  cases h : stepP n s x with
  | none => exact hx
  | some y => exact scanPN_eok hs k (stepP_ok h ho) (stepP_eok h hs ho.g hx)
theorem scanP_eok {s : List UInt8} (hs : s.length ≤ 16777216) (n : Int) : EOk (scanP s n).1.l := by
 unfold scanP
 split
 ·intro e he; cases he
 split
 ·intro e he; cases he
 ·rename_i h1 h2
  exact scanPN_eok hs _ (SOk.start (by simpa using h2)) (fun e he => by cases he)
section
variable {B gd gp gx gm : Nat} {w : World} {D : DiskD} {n : Int} {x : Scn} {v : Value} {S : Nat → Prop}
theorem kIndex_any (h : PakAt w gd gp gx gm v n x) (hl : x.l.length ≤ 1000000) :
  Calls Tryz.prog 32 #[.pointer (some ⟨gp, 0, none⟩)] w fun e w' => ∃ u, e = .returned (.agg #[u]) ∧ EntsAt w' u (makeM x.l).1 ∧ (∀ k, u.ownBlock = some k → w.heap.size ≤ k) ∧ Below w.heap.size w w' := by
 have hB : Blk w gp 119 #[.pointer (some ⟨gd, 0, none⟩), .int .i64 n, .pointer (some ⟨gx, 0, none⟩)] := h.blk
 have hSn := h.scn
 have h32 := hSn.s32
 refine W_enter (args := [.pointer (some ⟨gp, 0, none⟩)]) 11 Tryz.func32 rfl rfl rfl (W_sub [(0, .pointer (some ⟨gp, 0, none⟩))] ?_ ⟨rfl, trivial⟩)
 have hbw := Below.refl w.heap.size w
 refine W_rs (salA inf25 rfl (fun g2 w1 hB2 hg2 hb hl2 => ?_))
 replace hbw := bthen hbw hb
 replace hB := hB.bel hb
 replace hSn := hSn.bel hb
 have hz_w1 := hb.size
 clear hb
 refine Wn (tN (W_seq (W_rs (sm rfl rfl (st (X.kEq rfl) rfl (Wn (tN (W_no rfl (rfl) (W_skip (tN ?_))))))))))
 refine W_rs (sm rfl rfl (st (X.nilChk rfl) rfl (st (X.fa fa119_2 rfl) rfl (st (X.ldL rfl hB Tryz.underlying92 rfl rfl) rfl (sc _ Tryz.func43 rfl (by kernel_rfl) rfl rfl ((index_any gx gm v _ _ hSn hl).mono ?_))))))
 rintro e_ w2 ⟨u, rfl, hE, hO, hb⟩
 refine cR ?_
 replace hbw := bthen hbw hb
 replace hB := hB.bel hb
 replace hSn := hSn.bel hb
 replace hB2 := hB2.bel hb
 have hz_w2 := hb.size
 clear hb
 obtain ⟨am, cm, rfl⟩ : ∃ am cm, u = .slice am (makeM x.l).1.length cm := by obtain ⟨_, am, cm, e, _⟩ := hE; exact ⟨am, cm, e⟩
 refine ssBN rfl rfl hB2 siz25 rfl (by simp [Value.oneCell']) (fun w3 hB_ hc_ => ?_)
 replace hE := EntsAt.chgI hE (make_S32 h32) hB2 hc_
 replace hbw := bset hbw hc_ (by omega)
 replace hB2 := hB_
 clear hB_ hc_ hB hSn
 refine Wn (tN (W_ret ?_))
 exact (rC rfl rfl hB2 Tryz.underlying25 rfl siz25 ⟨_, rfl, hE, fun k hk => by have := hO k hk; omega, hbw⟩).1
theorem kWhole_any (h : PakAt w gd gp gx gm v n x) :
  Calls Tryz.prog 33 #[.pointer (some ⟨gp, 0, none⟩)] w fun e w' => e = .returned (.bool x.whole) ∧ Below w.heap.size w w' := by
 have hB : Blk w gp 119 #[.pointer (some ⟨gd, 0, none⟩), .int .i64 n, .pointer (some ⟨gx, 0, none⟩)] := h.blk
 have hX : Blk w gx 97 #[v, .map (some gm), .int .i64 x.good, .bool x.whole] := h.scn.blk
 refine W_enter (args := [.pointer (some ⟨gp, 0, none⟩)]) 14 Tryz.func33 rfl rfl rfl (W_sub [(0, .pointer (some ⟨gp, 0, none⟩))] ?_ ⟨rfl, trivial⟩)
 have hbw := Below.refl w.heap.size w
 refine W_rs (sa rfl rfl (Wn (tN (W_rs (sm rfl rfl (st (X.kNe rfl) rfl (sbY rfl (rfl) rfl (gY (g := 5) rfl rfl rfl (sm rfl rfl (gY (g := 5) rfl rfl rfl ?_))))))))))
 refine st (X.nilChk rfl) rfl (gY (g := 5) rfl rfl rfl (st (X.fa fa119_2 rfl) rfl (gY (g := 5) rfl rfl rfl (st (X.ldL rfl hB Tryz.underlying92 rfl rfl) rfl (gY (g := 5) rfl rfl rfl (st (X.nilChk rfl) rfl (gY (g := 5) rfl rfl rfl (st (X.fa fa97_3 rfl) rfl (gY (g := 5) rfl rfl rfl (st (X.ldL rfl hX Tryz.underlying4 rfl rfl) rfl ?_))))))))))
 refine st (X.pickT rfl rfl) rfl (sa rfl rfl (Wn (tN (W_ret ?_))))
 exact (rT rfl rfl ⟨rfl, hbw⟩).1
def pgetR (e : Ent) (a : List UInt8) (r : List UInt8 × Int) : List UInt8 × Int := if r.2 = 1 then ([], 35) else if r.2 ≠ 0 then ([], r.2) else gotM e.len a r.1
theorem pget_none {l : List Ent} {a : List UInt8} (h : findM l a = none) : pgetM D n l a = ([], 15) := by unfold pgetM; rw [h]
theorem readM_some {k : Key} {f : FileD} (h : mget D.files k = some f) {p q : Int} (hp : 0 ≤ p) (hq : 0 ≤ q) : readM D k p q = if (f.now.length : Int) < p then ([], 1) else ((f.now.drop p.toNat).take q.toNat, 0) := by
 unfold readM
 rw [h]
 show (if _ then _ else _) = _
 by_cases hl : (f.now.length : Int) < p
 ·rw [if_pos hl, if_pos (by omega)]
 ·rw [if_neg hl, if_neg (by omega)]
theorem readM_none {k : Key} (h : mget D.files k = none) (p q : Int) : readM D k p q = ([], 15) := by
 unfold readM
 rw [h]
theorem readM_len (hok : DOk D) (k : Key) (p q : Int) : (readM D k p q).1.length ≤ 16777216 := by
 unfold readM
 cases hm : mget D.files k with
 | none => simp
 | some f =>
  have := (hok.len hm).1
  show (if _ then _ else _ : List UInt8 × Int).1.length ≤ _
  split
  ·simp
  ·simp only [List.length_take, List.length_drop]
   omega
theorem pget_read {l : List Ent} {a : List UInt8} {e : Ent} (h : findM l a = some e) (hp : 0 ≤ e.pos) : pgetM D n l a = pgetR e a (readM D (nameP n) e.pos (longM e.len.toNat)) := by
 unfold pgetM pgetR
 rw [h]
 cases hm : mget D.files (nameP n) with
 | none =>
  rw [readM_none hm]
  rfl
 | some f =>
  rw [readM_some hm hp (by omega)]
  simp only
  by_cases hl : (f.now.length : Int) < e.pos
  ·rw [if_pos hl, if_pos hl]
   rfl
  ·rw [if_neg hl, if_neg hl]
   rfl
set_option maxRecDepth 10000 in
theorem pget_any (a : List UInt8) (h : PakAt w gd gp gx gm v n x) (hd : DiskAt w gd D S) (hok : DOk D) (hT : PTabs B w) (ha : a.length = 32) (he : EOk x.l) :
  Calls Tryz.prog 23 #[.pointer (some ⟨gp, 0, none⟩), .agg (a.map bv).toArray] w fun e w' => e = .returned (.tuple #[str (pgetM D n x.l a).1, .int .i64 (pgetM D n x.l a).2]) ∧ Below w.heap.size w w' := by
 have hB : Blk w gp 119 #[.pointer (some ⟨gd, 0, none⟩), .int .i64 n, .pointer (some ⟨gx, 0, none⟩)] := h.blk
 have hSn := h.scn
 have h32 := hSn.s32
 obtain ⟨m, hM, hm⟩ := hSn.map
 have hRow : Row w 66 35 v x.l.length (x.l.flatMap Ent.cells) := hSn.row
 obtain ⟨q, cq, rfl, hq1, hq2⟩ := hRow.shape
 clear hRow h
 refine W_enter (args := [.pointer (some ⟨gp, 0, none⟩), .agg (a.map bv).toArray]) 108 Tryz.func23 rfl rfl rfl (W_sub [(0, .pointer (some ⟨gp, 0, none⟩)), (1, .agg (a.map bv).toArray)] ?_ ⟨rfl, rfl, trivial⟩)
 have hbw := Below.refl w.heap.size w
 refine W_rs (sboxA rfl rfl (fun g3 w1 hB3 hg3 hb hl3 => ?_))
 replace hbw := bthen hbw hb
 have hz_w1 := hb.size
 clear hb
 refine sa rfl rfl (sa rfl rfl (Wn (tN (W_seq (W_rs (sm rfl rfl (st (X.kEq rfl) rfl (Wn (tN (W_no rfl (rfl) ?_))))))))))
 refine W_skip (tN ?_)
 have hBp := hB.bel hbw
 have hXp : Blk _ gx 97 #[.slice q x.l.length cq, .map (some gm), .int .i64 x.good, .bool x.whole] := (hSn.bel hbw).blk
 have h3p := hB3
 refine W_drsN (fun W_ => Below w1.heap.size w1 W_) [0, 1, 2, 3, 4, 5, 6, 7, 8, 9, 10, 11, 12, 13] [true, true, true, true, true, true, true, true, false, true, true, true, true, true] (by kernel_rfl) (by kernel_rfl) (bdrew (Below.refl _ _)) ?_
 obtain ⟨w2, hw_⟩ : ∃ w2 : World, w2 = World.drew w1 := ⟨_, rfl⟩
 rw [← hw_]
 have hb : Below w1.heap.size w1 w2 := by rw [hw_]; exact bdrew (Below.refl _ _)
 clear hw_
 have hS := hb
 replace hbw := bthen hbw hb
 replace hB3 := hB3.bel hb
 have hz_w2 := hb.size
 clear hb
 refine oY rfl (fun W_ hW_ => (X.move rfl)) rfl (oY rfl (fun W_ hW_ => (X.nilChk rfl)) rfl (oY rfl (fun W_ hW_ => (X.fa fa119_2 rfl)) rfl (oY rfl (fun W_ hW_ => (X.ldL rfl (hBp.bel hW_) Tryz.underlying92 rfl rfl)) rfl (oY rfl (fun W_ hW_ => (X.nilChk rfl)) rfl (oY rfl (fun W_ hW_ => (X.fa fa97_1 rfl)) rfl (oY rfl (fun W_ hW_ => (X.ldL rfl (hXp.bel hW_) Tryz.underlying95 rfl rfl)) rfl (oY rfl (fun W_ hW_ => (X.ldBN rfl (h3p.bel hW_) Tryz.underlying60 rfl (by rw [sumSize ha]; exact siz60))) rfl ?_)))))))
 refine oL rfl (fun Q_ hQ_ hP_ => (st (X.lookOk (z := .int .i64 0) keySum rfl ⟨a, ha⟩ rfl Tryz.underlying95 (by kernel_rfl) (hM.bel hbw)) rfl (Wn (hQ_ _ _ hS ?_))))
 clear hQ_ hP_ Q_
 refine oY rfl (fun W_ hW_ => (X.move rfl)) rfl (oY rfl (fun W_ hW_ => (X.ext rfl rfl)) rfl (oY rfl (fun W_ hW_ => (X.ext rfl rfl)) rfl (oY rfl (fun W_ hW_ => (X.assign rfl)) rfl (oY rfl (fun W_ hW_ => (X.assign rfl)) rfl ?_))))
 clear hBp hXp h3p
 refine oN (nN (W_seq (W_rs (sm rfl rfl (st (X.not rfl) rfl (Wn (tN (W_if rfl (fun h33 => ?_) (fun h33 => ?_)))))))))
 ·first | replace h33 := of_decide_eq_true h33 | replace h33 := of_decide_eq_false (notT h33) | replace h33 := notT h33 | skip
  refine W_rs (sa rfl rfl (sa rfl rfl (Wn (tN (W_ret (tR ?_))))))
  have hgn : mget m (⟨a, ha⟩ : Sum32) = none := by cases hg : mget m (⟨a, ha⟩ : Sum32) with | none => rfl | some z => rw [hg] at h33; simp at h33
  have hfn : findM x.l a = none := (has_none hm hgn).1
  exact (rTT rfl rfl rfl ⟨by rw [pget_none hfn]; rfl, hbw⟩).1
 ·first | replace h33 := of_decide_eq_false h33 | replace h33 := of_decide_eq_true (notF h33) | replace h33 := notF h33 | skip
  obtain ⟨i, hgi⟩ : ∃ i, mget m (⟨a, ha⟩ : Sum32) = some i := by cases hg : mget m (⟨a, ha⟩ : Sum32) with | none => rw [hg] at h33; simp at h33 | some z => exact ⟨z, rfl⟩
  obtain ⟨j, en, rfl, hj, hes, hfi⟩ := has_get hm hM.nodup hgi
  have hfi : findM x.l a = some en := hfi
  have hen : en.sum.length = 32 := h32 en (List.mem_of_getElem? hj)
  obtain ⟨hp0, hp1, hn0, hn1⟩ := he en (List.mem_of_getElem? hj)
  have hjl : j < x.l.length := (List.getElem?_eq_some_iff.1 hj).1
  rw [hgi, pget_read hfi hp0]
  obtain ⟨ln, hln⟩ : ∃ ln : Nat, en.len = ln := ⟨en.len.toNat, by omega⟩
  have hRr := hSn.row.reads
  obtain ⟨g1, o1, c', hvv, hg1⟩ := hRr.some_ (by show 0 < x.l.length; omega)
  injection hvv with e1 _ e3
  subst e1 e3
  have hRg := EntsAt.range (l := x.l) (hRr.bel hbw) h32 hj
  clear hRr
  refine W_skip (tN (W_rs (sm rfl rfl (st (X.nilChk rfl) rfl (st (X.fa fa119_2 rfl) rfl (st (X.ldL rfl (hB.bel hbw) Tryz.underlying92 rfl rfl) rfl (st (X.nilChk rfl) rfl (st (X.fa fa97_0 rfl) rfl (st (X.ldL rfl (hSn.bel hbw).blk Tryz.underlying23 rfl rfl) rfl (sm rfl rfl ?_))))))))))
  refine st (X.idxA rfl rfl Tryz.underlying23 siz66 rfl hjl) rfl (st (X.ldN (cs := en.cells) rfl Tryz.underlying66 rfl (by rw [Ent.cells_length hen]; exact siz66) hRg) rfl ?_)
  refine salA inf66 rfl (fun g8 w3 hB8 hg8 hb hl8 => ?_)
  replace hbw := bthen hbw hb
  replace hB3 := hB3.bel hb
  have hz_w3 := hb.size
  clear hb
  refine ssBN rfl rfl hB8 (by rw [Ent.size hen]; exact siz66) (by rw [Ent.size hen]; rfl) (Ent.cells_one en) (fun w4 hB_ hc_ => ?_)
  replace hB8 := hB_
  replace hB3 := hB3.chg hc_ (by show ¬ g3 = g8; omega)
  replace hbw := bset hbw hc_ (by omega)
  have hz_w4 := hc_.size
  clear hB_ hc_
  refine Wn (tN (W_rs (st (X.fa fa66_3 rfl) rfl (st (X.ldB rfl hB8 Tryz.underlying3 rfl (Ent.cell_ hen 2 _ rfl)) rfl ?_))))
  rw [hln]
  refine st (X.add64 rfl rfl (by omega)) rfl (smk (q := 32 + ln) rfl rfl (show 32 + (ln : Int) = ((32 + ln : Nat) : Int) by omega) (show 32 + (ln : Int) = ((32 + ln : Nat) : Int) by omega) Tryz.underlying123 inf5 (by omega) (by simp only [maxLen]; omega) rfl (fun g47 w5 hR47 hg47 hb => ?_))
  replace hB3 := hB3.bel hb
  replace hB8 := hB8.bel hb
  replace hbw := bthen hbw hb
  have hz_w5 := hb.size
  rw [pzer_eq] at hR47
  clear hb
  refine st (X.strOf (s := List.replicate (32 + ln) 0) rfl Tryz.underlying123 Tryz.underlying5 Tryz.underlying9 hR47.reads) rfl (sc _ Tryz.func52 rfl (by kernel_rfl) rfl rfl ((Seal_any 2 (List.replicate (32 + ln) 0) _ (by rw [List.length_replicate]; omega)).mono ?_))
  rintro e_ w6 ⟨rfl, hb⟩
  refine cR ?_
  replace hbw := bthen hbw hb
  replace hB3 := hB3.bel hb
  replace hB8 := hB8.bel hb
  have hz_w6 := hb.size
  clear hb
  refine st (X.lenS rfl rfl Tryz.underlying9) rfl (sa rfl rfl (Wn (tN ?_)))
  have hBp := hB.bel hbw
  have h8p := hB8
  refine W_drsN (fun W_ => Below w6.heap.size w6 W_) [0, 1, 2, 3, 4, 5, 6, 7, 9, 10, 11, 8, 12, 13, 14, 15, 16, 17] [true, true, true, true, true, true, true, true, true, true, true, false, false, true, true, true, true, true] (by kernel_rfl) (by kernel_rfl) (bdrew (Below.refl _ _)) ?_
  obtain ⟨w7, hw_⟩ : ∃ w7 : World, w7 = World.drew w6 := ⟨_, rfl⟩
  rw [← hw_]
  have hb : Below w6.heap.size w6 w7 := by rw [hw_]; exact bdrew (Below.refl _ _)
  clear hw_
  have hS := hb
  replace hbw := bthen hbw hb
  replace hB3 := hB3.bel hb
  replace hB8 := hB8.bel hb
  have hz_w7 := hb.size
  clear hb
  refine oY rfl (fun W_ hW_ => (X.move rfl)) rfl (oY rfl (fun W_ hW_ => (X.nilChk rfl)) rfl (oY rfl (fun W_ hW_ => (X.fa fa119_0 rfl)) rfl (oY rfl (fun W_ hW_ => (X.ldL rfl (hBp.bel hW_) Tryz.underlying41 rfl rfl)) rfl (oY rfl (fun W_ hW_ => (X.move rfl)) rfl (oY rfl (fun W_ hW_ => (X.nilChk rfl)) rfl (oY rfl (fun W_ hW_ => (X.fa fa119_1 rfl)) rfl (oY rfl (fun W_ hW_ => (X.ldL rfl (hBp.bel hW_) Tryz.underlying3 rfl rfl)) rfl (oY rfl (fun W_ hW_ => (X.fa fa66_2 rfl)) rfl (oY rfl (fun W_ hW_ => (X.ldB rfl (h8p.bel hW_) Tryz.underlying3 rfl (Ent.cell_ hen 1 _ rfl))) rfl (oY rfl (fun W_ hW_ => (X.move rfl)) rfl ?_))))))))))
  refine oL rfl (fun Q_ hQ_ hP_ => (sc _ Tryz.func21 rfl (by kernel_rfl) rfl rfl ((Name_p n _ (hT.bel hbw).pow).mono ?_)))
  rintro e_ w8 ⟨rfl, hb⟩
  refine cR ?_
  replace hS := bthen hS hb
  replace hbw := bthen hbw hb
  replace hB3 := hB3.bel hb
  replace hB8 := hB8.bel hb
  have hz_w8 := hb.size
  clear hb
  refine Wn (hQ_ _ _ hS ?_)
  clear hQ_ hP_ Q_
  refine oL rfl (fun Q_ hQ_ hP_ => (sc _ Tryz.func60 rfl (by kernel_rfl) rfl rfl ((Read_any gd D S (nameP n) en.pos (longM ln) _ (hd.bel hbw) hok).mono ?_)))
  rintro e_ w9 ⟨rfl, hb⟩
  refine cR ?_
  replace hS := bthen hS hb
  replace hbw := bthen hbw hb
  replace hB3 := hB3.bel hb
  replace hB8 := hB8.bel hb
  have hz_w9 := hb.size
  clear hb
  refine Wn (hQ_ _ _ hS ?_)
  clear hQ_ hP_ Q_
  refine oY rfl (fun W_ hW_ => (X.move rfl)) rfl (oY rfl (fun W_ hW_ => (X.ext rfl rfl)) rfl (oY rfl (fun W_ hW_ => (X.ext rfl rfl)) rfl (oY rfl (fun W_ hW_ => (X.assign rfl)) rfl (oY rfl (fun W_ hW_ => (X.assign rfl)) rfl (oN (nN (W_seq (W_block (W_rs ?_)))))))))
  rw [Int.toNat_natCast]
  have hrl := readM_len hok (nameP n) en.pos (longM ln)
  obtain ⟨r, hr⟩ : ∃ r, readM D (nameP n) en.pos (longM ln) = r := ⟨_, rfl⟩
  rw [hr] at hrl ⊢
  refine sm rfl rfl (st (X.eql rfl rfl) rfl (sa rfl rfl (Wn (tN (W_if rfl (fun h67 => ?_) (fun h67 => ?_))))))
  ·first | replace h67 := of_decide_eq_true h67 | replace h67 := of_decide_eq_false (notT h67) | replace h67 := notT h67 | skip
   refine W_rs (sa rfl rfl (sa rfl rfl (Wn (tN (W_ret (bR (tR ?_)))))))
   exact (rTT rfl rfl rfl ⟨by unfold pgetR; rw [if_pos h67]; rfl, hbw⟩).1
  ·first | replace h67 := of_decide_eq_false h67 | replace h67 := of_decide_eq_true (notF h67) | replace h67 := notF h67 | skip
   refine W_rs (sm rfl rfl (st (X.neq rfl rfl) rfl (sa rfl rfl (Wn (tN (W_if rfl (fun h70 => ?_) (fun h70 => ?_)))))))
   ·first | replace h70 := of_decide_eq_true h70 | replace h70 := of_decide_eq_false (notT h70) | replace h70 := notT h70 | skip
    refine W_rs (sm rfl rfl (sa rfl rfl (sa rfl rfl (Wn (tN (W_ret (bR (tR ?_))))))))
    exact (rTT rfl rfl rfl ⟨by unfold pgetR; rw [if_neg h67, if_pos h70]; rfl, hbw⟩).1
   ·first | replace h70 := of_decide_eq_false h70 | replace h70 := of_decide_eq_true (notF h70) | replace h70 := notF h70 | skip
    have hpg : pgetR en a r = gotM en.len a r.1 := by unfold pgetR; rw [if_neg h67, if_neg h70]
    rw [hpg]
    have hbl := nextM_body r.1
    refine W_skip (bN (tN (W_rs (sm rfl rfl (sc _ Tryz.func61 rfl (by kernel_rfl) rfl rfl ((Next_any r.1 _ (by omega)).mono ?_))))))
    rintro e_ w10 ⟨rfl, hb⟩
    refine cR ?_
    replace hbw := bthen hbw hb
    replace hB3 := hB3.bel hb
    replace hB8 := hB8.bel hb
    have hz_w10 := hb.size
    clear hb
    refine sm rfl rfl (st (X.ext rfl rfl) rfl (st (X.ext rfl rfl) rfl (st (X.ext rfl rfl) rfl (st (X.ext rfl rfl) rfl (sa rfl rfl (sa rfl rfl (sa rfl rfl (sa rfl rfl (Wn (tN ?_))))))))))
    refine W_seq (W_rs (sm rfl rfl (st (X.neq rfl rfl) rfl (sb rfl rfl (fun h83 => ?_) (fun h83 => ?_)))))
    ·first | replace h83 := of_decide_eq_true h83 | replace h83 := of_decide_eq_false (notT h83) | replace h83 := notT h83 | skip
     refine gN (g := 83) rfl rfl rfl rfl (gN (g := 83) rfl rfl rfl rfl (st (X.pickT rfl rfl) rfl (Wn (tN (W_yes rfl (rfl) (W_rs (sa rfl rfl (sa rfl rfl (Wn (tN ?_))))))))))
     refine W_ret (tR ?_)
     exact (rTT rfl rfl rfl ⟨by unfold gotM; rw [if_pos (.inl h83)]; rfl, hbw⟩).1
    ·first | replace h83 := of_decide_eq_false h83 | replace h83 := of_decide_eq_true (notF h83) | replace h83 := notF h83 | skip
     refine gY (g := 83) rfl rfl rfl (sm rfl rfl (gY (g := 83) rfl rfl rfl (st (X.neq rfl rfl) rfl (st (X.pickF rfl rfl) rfl (Wn (tN (W_if rfl (fun h86 => ?_) (fun h86 => ?_))))))))
     ·first | replace h86 := of_decide_eq_true h86 | replace h86 := of_decide_eq_false (notT h86) | replace h86 := notT h86 | skip
      have hk : (nextM r.1).1 ≠ 2 := fun e => by rw [e] at h86; exact h86 rfl
      refine W_rs (sa rfl rfl (sa rfl rfl (Wn (tN (W_ret (tR ?_))))))
      exact (rTT rfl rfl rfl ⟨by unfold gotM; rw [if_pos (.inr hk)]; rfl, hbw⟩).1
     ·first | replace h86 := of_decide_eq_false h86 | replace h86 := of_decide_eq_true (notF h86) | replace h86 := notF h86 | skip
      have hk : ¬ ((nextM r.1).2.2.2 ≠ 0 ∨ (nextM r.1).1 ≠ 2) := by rintro (e | e); exact h83 e; exact e (UInt8.toNat.inj (by show (nextM r.1).1.toNat = 2; omega))
      refine W_skip (tN (W_rs (sm rfl rfl (sc _ Tryz.func62 rfl (by kernel_rfl) rfl rfl ((opened_any (nextM r.1).2.1 _ (hT.bel hbw).sha (by omega)).mono ?_)))))
      rintro e_ w11 ⟨a2, d2, ok, rfl, ha2, hok2, hal2, hb⟩
      refine cR ?_
      replace hbw := bthen hbw hb
      replace hB3 := hB3.bel hb
      replace hB8 := hB8.bel hb
      have hz_w11 := hb.size
      clear hb
      refine sm rfl rfl (st (X.ext rfl rfl) rfl (st (X.ext rfl rfl) rfl (st (X.ext rfl rfl) rfl (salA inf60 rfl (fun g15 w12 hB15 hg15 hb hl15 => ?_)))))
      replace hbw := bthen hbw hb
      replace hB3 := hB3.bel hb
      replace hB8 := hB8.bel hb
      have hz_w12 := hb.size
      clear hb
      refine ssBN rfl rfl hB15 (by rw [sumSize ha2]; exact siz60) (by rw [sumSize ha2]; rfl) (sumOne _) (fun w13 hB_ hc_ => ?_)
      replace hB15 := hB_
      replace hB8 := hB8.chg hc_ (by show ¬ g8 = g15; omega)
      replace hB3 := hB3.chg hc_ (by show ¬ g3 = g15; omega)
      replace hbw := bset hbw hc_ (by omega)
      clear hB_ hc_
      refine sa rfl rfl (sa rfl rfl (Wn (tN (W_seq (W_rs (sm rfl rfl (st (X.not rfl) rfl (sb rfl rfl (fun h95 => ?_) (fun h95 => ?_)))))))))
      ·first | replace h95 := of_decide_eq_true h95 | replace h95 := of_decide_eq_false (notT h95) | replace h95 := notT h95 | skip
       refine gN (g := 95) rfl rfl rfl rfl (gN (g := 95) rfl rfl rfl rfl (gN (g := 95) rfl rfl rfl rfl (st (X.pickT rfl rfl) rfl (sm rfl rfl (gN (g := 100) rfl rfl rfl rfl (gN (g := 100) rfl rfl rfl rfl (gN (g := 100) rfl rfl rfl rfl (gN (g := 100) rfl rfl rfl rfl (gN (g := 100) rfl rfl rfl rfl (st (X.pickT rfl rfl) rfl ?_))))))))))
       refine Wn (tN (W_yes rfl (rfl) (W_rs (sa rfl rfl (sa rfl rfl (Wn (tN (W_ret (tR ?_)))))))))
       exact (rTT rfl rfl rfl ⟨by unfold gotM; rw [if_neg hk, if_neg (by rw [← hok2, h95]; simp)]; rfl, hbw⟩).1
      ·first | replace h95 := of_decide_eq_false h95 | replace h95 := of_decide_eq_true (notF h95) | replace h95 := notF h95 | skip
       obtain ⟨e1, e2⟩ := hal2 h95
       subst e1 e2
       refine gY (g := 95) rfl rfl rfl (st (X.ldBN rfl hB15 Tryz.underlying60 rfl (by rw [sumSize ha2]; exact siz60)) rfl ?_)
       refine gY (g := 95) rfl rfl rfl (st (X.ldBN rfl hB3 Tryz.underlying60 rfl (by rw [sumSize ha]; exact siz60)) rfl ?_)
       refine gY (g := 95) rfl rfl rfl (st (X.neSumF ha2 ha rfl rfl) rfl (st (X.pickF rfl rfl) rfl (sb rfl rfl (fun h100 => ?_) (fun h100 => ?_))))
       ·first | replace h100 := of_decide_eq_true h100 | replace h100 := of_decide_eq_false (notT h100) | replace h100 := notT h100 | skip
        refine gN (g := 100) rfl rfl rfl rfl (gN (g := 100) rfl rfl rfl rfl (gN (g := 100) rfl rfl rfl rfl (gN (g := 100) rfl rfl rfl rfl (gN (g := 100) rfl rfl rfl rfl (st (X.pickT rfl rfl) rfl (Wn (tN (W_yes rfl (rfl) (W_rs (sa rfl rfl ?_))))))))))
        refine sa rfl rfl (Wn (tN (W_ret (tR ?_))))
        exact (rTT rfl rfl rfl ⟨by unfold gotM; rw [if_neg hk, if_neg (by rintro ⟨_, e, _⟩; rw [e] at h100; simp at h100)]; rfl, hbw⟩).1
       ·first | replace h100 := of_decide_eq_false h100 | replace h100 := of_decide_eq_true (notF h100) | replace h100 := notF h100 | skip
        refine gY (g := 100) rfl rfl rfl (sm rfl rfl (gY (g := 100) rfl rfl rfl (st (X.lenS rfl rfl Tryz.underlying9) rfl (gY (g := 100) rfl rfl rfl (st (X.fa fa66_3 rfl) rfl (gY (g := 100) rfl rfl rfl (st (X.ldB rfl hB8 Tryz.underlying3 rfl (Ent.cell_ hen 2 _ rfl)) rfl (gY (g := 100) rfl rfl rfl (st (X.neq rfl rfl) rfl (st (X.pickF rfl rfl) rfl ?_))))))))))
        refine Wn (tN (W_if rfl (fun h106 => ?_) (fun h106 => ?_)))
        ·first | replace h106 := of_decide_eq_true h106 | replace h106 := of_decide_eq_false (notT h106) | replace h106 := notT h106 | skip
         refine W_rs (sa rfl rfl (sa rfl rfl (Wn (tN (W_ret (tR ?_))))))
         exact (rTT rfl rfl rfl ⟨by unfold gotM; rw [if_neg hk, if_neg (by rintro ⟨_, _, e⟩; rw [List.length_drop] at h106; omega)]; rfl, hbw⟩).1
        ·first | replace h106 := of_decide_eq_false h106 | replace h106 := of_decide_eq_true (notF h106) | replace h106 := notF h106 | skip
         refine W_skip (tN (W_rs (sm rfl rfl (sa rfl rfl (sa rfl rfl (Wn (tN (W_ret ?_))))))))
         exact (rTT rfl rfl rfl ⟨by unfold gotM; rw [if_neg hk, if_pos ⟨by rw [← hok2]; exact h95, by simpa using h100, by rw [List.length_drop] at h106; have := openB_len (by rw [← hok2]; exact h95 : openB (nextM r.1).2.1 = true); omega⟩], hbw⟩).1
end
end Go.Proofs.YtnlabkogebnioaaGreatDoor
namespace Go.Proofs.YtnlabkogebnioaaGreatDoor
open Go.RowKit Sha
def DKeep (B : Nat) (w : World) (gd : Nat) (S : Nat → Prop) (D : DiskD) (w' : World) : Prop := ∃ S', Own B w' gd D S' ∧ (∀ k, S' k → S k ∨ w.heap.size ≤ k) ∧ Chg S w w'
section
variable {B gd : Nat} {w : World} {D : DiskD} {n : Int} {S : Nat → Prop}
set_option maxRecDepth 10000 in
theorem psave_any (u : Value) (l : List Ent) (N : Nat) (hd : Own B w gd D S) (hBw : B ≤ w.heap.size) (hg : Good N D) (hN : N ≤ 1000000000) (hT : PTabs B w) (hE : EntsAt w u l) (h32 : S32 l) (hu : ∀ k, u.ownBlock = some k → ¬ S k) (hl : l.length ≤ 100000) :
  Calls Tryz.prog 29 #[.pointer (some ⟨gd, 0, none⟩), .int .i64 n, .agg #[u]] w fun e w' => e = .returned (.int .i64 (psaveM D n l).1) ∧ DKeep B w gd S (psaveM D n l).2 w' := by
 have hlen := encM_length h32
 have hg0 := remove_good hg (newP n)
 have hg1 := create_good hg0 (newP n)
 have hg2 := append_good hg1 (newP n) (encM l)
 have hS1 : ∀ k, S k → S k ∨ w.heap.size ≤ k := fun k hk => .inl hk
 have hSlo := hd.lo
 obtain ⟨ua, uc, rfl, hun, huc⟩ := hE.shape
 unfold psaveM
 refine W_enter (args := [.pointer (some ⟨gd, 0, none⟩), .int .i64 n, .agg #[.slice ua l.length uc]]) 52 Tryz.func29 rfl rfl rfl (W_sub [(0, .pointer (some ⟨gd, 0, none⟩)), (1, .int .i64 n), (2, .agg #[.slice ua l.length uc])] ?_ ⟨rfl, rfl, rfl, trivial⟩)
 have hcw := Chg.refl (S) w
 refine W_rs (sboxA rfl rfl (fun g5 w1 hB5 hg5 hb hl5 => ?_))
 replace hcw := hcw.then_below hb
 replace hd := hd.bel hb
 replace hT := hT.bel hb
 have hz_w1 := hb.size
 clear hb
 refine sa rfl rfl (Wn (tN (W_seq (W_rs (sm rfl rfl (sm rfl rfl (sc _ Tryz.func55 rfl (by kernel_rfl) rfl rfl ((pmay_any (some ⟨gd, 0, none⟩) n _).mono ?_))))))))
 rintro e_ w2 ⟨rfl, hb⟩
 refine cR ?_
 replace hcw := hcw.then_below hb
 replace hd := hd.bel hb
 replace hT := hT.bel hb
 replace hB5 := hB5.bel hb
 have hz_w2 := hb.size
 clear hb
 refine sa rfl rfl (Wn (tN (W_rs (sm rfl rfl (st (X.neq rfl rfl) rfl (Wn (tN (W_if rfl (fun h15 => ?_) (fun h15 => ?_)))))))))
 ·first | replace h15 := of_decide_eq_true h15 | replace h15 := of_decide_eq_false (notT h15) | replace h15 := notT h15 | skip
  have hr : rightP n = false := by cases h : rightP n with | false => rfl | true => exact absurd (by simp [mayP, h]) h15
  refine W_rs (sm rfl rfl (sa rfl rfl (Wn (tN (W_ret (tR ?_))))))
  exact (rT rfl rfl ⟨by simp [mayP, hr], S, by rw [if_pos hr]; exact hd, hS1, hcw⟩).1
 ·first | replace h15 := of_decide_eq_false h15 | replace h15 := of_decide_eq_true (notF h15) | replace h15 := notF h15 | skip
  have hr : ¬ rightP n = false := fun h => h15 (by simp [mayP, h])
  rw [if_neg hr]
  refine W_skip (tN (W_rs (sm rfl rfl (sc _ Tryz.func70 rfl (by kernel_rfl) rfl rfl ((IndexName_p n _ hT.pow).mono ?_)))))
  rintro e_ w3 ⟨rfl, hb⟩
  refine cR ?_
  replace hcw := hcw.then_below hb
  replace hd := hd.bel hb
  replace hT := hT.bel hb
  replace hB5 := hB5.bel hb
  have hz_w3 := hb.size
  clear hb
  refine sa rfl rfl (Wn (tN (W_rs (sm rfl rfl (sm rfl rfl ?_)))))
  have hil := idx_len n
  refine st (X.cat rfl rfl (by show (idxP n).length + 4 ≤ _; omega)) rfl ?_
  refine sc _ Tryz.func67 rfl (by kernel_rfl) rfl rfl ((pdisk (Remove_any gd D S (newP n) _ hd.at_ hg.ok) hd (Nat.le_trans hBw hcw.size) hT hcw (fun k hk => hk) hS1).mono ?_)
  clear hd hT
  rintro e_ w4 ⟨rfl, S1, hd, hT, hS1, hX2, hcw, hz1_⟩
  refine cR ?_
  replace hB5 := hB5.chg hX2.2 (fun e => by have := hSlo g5 e; omega)
  have hn5 : ∀ k, S1 k → k ≠ g5 := fun k hk e => by rcases hX2.1 k hk with h | h; have := hSlo k h; omega; omega
  clear hX2
  obtain ⟨e1, D1, hp1⟩ : ∃ e D', removeM D (newP n) = (e, D') := ⟨_, _, rfl⟩
  rw [hp1] at hd hg0 hg1 hg2 ⊢
  simp only at hd hg0 hg1 hg2 ⊢
  refine Wn (tN (W_seq (W_rs (sm rfl rfl (sm rfl rfl (st (X.cat rfl rfl (by show (idxP n).length + 4 ≤ _; omega)) rfl ?_))))))
  refine sc _ Tryz.func66 rfl (by kernel_rfl) rfl rfl ((pdisk (Create_any gd D1 _ (newP n) _ hd.at_ hg0.ok) hd (Nat.le_trans hBw hcw.size) hT hcw (fun k hk => hk) hS1).mono ?_)
  clear hd hT
  rintro e_ w5 ⟨rfl, S2, hd, hT, hS1, hX2, hcw, hz2_⟩
  refine cR ?_
  replace hB5 := hB5.chg hX2.2 (fun e => hn5 g5 e rfl)
  have hn6 : ∀ k, S2 k → k ≠ g5 := fun k hk e => by rcases hX2.1 k hk with h | h; exact hn5 k h e; omega
  clear hX2
  obtain ⟨e2, D2, hp2⟩ : ∃ e D', createM D1 (newP n) = (e, D') := ⟨_, _, rfl⟩
  rw [hp2] at hd hg1 hg2 ⊢
  simp only at hd hg1 hg2 ⊢
  refine sa rfl rfl (Wn (tN (W_rs (sm rfl rfl (st (X.neq rfl rfl) rfl (Wn (tN (W_if rfl (fun h28 => ?_) (fun h28 => ?_)))))))))
  ·first | replace h28 := of_decide_eq_true h28 | replace h28 := of_decide_eq_false (notT h28) | replace h28 := notT h28 | skip
   rw [if_pos h28]
   refine W_rs (sm rfl rfl (sa rfl rfl (Wn (tN (W_ret (tR ?_))))))
   exact (rT rfl rfl ⟨rfl, S2, hd, hS1, hcw⟩).1
  ·first | replace h28 := of_decide_eq_false h28 | replace h28 := of_decide_eq_true (notF h28) | replace h28 := notF h28 | skip
   rw [if_neg h28]
   refine W_skip (tN (W_seq (W_rs (sm rfl rfl (sm rfl rfl (st (X.cat rfl rfl (by show (idxP n).length + 4 ≤ _; omega)) rfl ?_))))))
   refine st (X.ldBN rfl hB5 Tryz.underlying25 rfl siz25) rfl (sc _ Tryz.func36 rfl (by kernel_rfl) rfl rfl ((Encode_any _ l _ (Reads.chgS hE hcw (fun _ k hk => hu k hk)) h32 hl).mono ?_))
   rintro e_ w6 ⟨rfl, hb⟩
   refine cR ?_
   replace hcw := hcw.then_below hb
   replace hd := hd.bel hb
   replace hT := hT.bel hb
   replace hB5 := hB5.bel hb
   have hz_w6 := hb.size
   clear hb
   refine sc _ Tryz.func51 rfl (by kernel_rfl) rfl rfl ((pdisk (Append_any gd D2 _ (newP n) (encM l) _ hd.at_ hg1.ok (hg1.bud (by omega)) (by omega)) hd (Nat.le_trans hBw hcw.size) hT hcw (fun k hk => hk) hS1).mono ?_)
   clear hd hT
   rintro e_ w7 ⟨rfl, S3, hd, hT, hS1, hX2, hcw, hz3_⟩
   refine cR ?_
   clear hX2
   obtain ⟨e3, D3, hp3⟩ : ∃ e D', appendM D2 (newP n) (encM l) = (e, D') := ⟨_, _, rfl⟩
   rw [hp3] at hd hg2 ⊢
   simp only at hd hg2 ⊢
   refine sa rfl rfl (Wn (tN (W_rs (sm rfl rfl (st (X.neq rfl rfl) rfl (Wn (tN (W_if rfl (fun h37 => ?_) (fun h37 => ?_)))))))))
   ·first | replace h37 := of_decide_eq_true h37 | replace h37 := of_decide_eq_false (notT h37) | replace h37 := notT h37 | skip
    rw [if_pos h37]
    refine W_rs (sm rfl rfl (sm rfl rfl (st (X.cat rfl rfl (by show (idxP n).length + 4 ≤ _; omega)) rfl ?_)))
    refine sc _ Tryz.func67 rfl (by kernel_rfl) rfl rfl ((pdisk (Remove_any gd D3 _ (newP n) _ hd.at_ hg2.ok) hd (Nat.le_trans hBw hcw.size) hT hcw (fun k hk => hk) hS1).mono ?_)
    clear hd hT
    rintro e_ w8 ⟨rfl, S4, hd, hT, hS1, hX2, hcw, hz4_⟩
    refine cR (Wn (tN (W_rs (sm rfl rfl (sa rfl rfl (Wn (tN (W_ret (tR ?_)))))))))
    exact (rT rfl rfl ⟨rfl, S4, hd, hS1, hcw⟩).1
   ·first | replace h37 := of_decide_eq_false h37 | replace h37 := of_decide_eq_true (notF h37) | replace h37 := notF h37 | skip
    rw [if_neg h37]
    refine W_skip (tN (W_rs (sm rfl rfl (sm rfl rfl (st (X.cat rfl rfl (by show (idxP n).length + 4 ≤ _; omega)) rfl ?_)))))
    refine sc _ Tryz.func54 rfl (by kernel_rfl) rfl rfl ((pdisk (Sync_any gd D3 _ (newP n) _ hd.at_ hg2.ok) hd (Nat.le_trans hBw hcw.size) hT hcw (fun k hk => hk) hS1).mono ?_)
    clear hd hT
    rintro e_ w9 ⟨rfl, S5, hd, hT, hS1, hX2, hcw, hz5_⟩
    refine cR ?_
    have hg5 := sync_good hg2 (newP n)
    refine Wn (tN (W_rs (sm rfl rfl (sm rfl rfl (st (X.cat rfl rfl (by show (idxP n).length + 4 ≤ _; omega)) rfl ?_)))))
    refine sm rfl rfl (sc _ Tryz.func72 rfl (by kernel_rfl) rfl rfl ((pdisk (Rename_any gd _ _ (newP n) (idxP n) _ hd.at_ hg5.ok) hd (Nat.le_trans hBw hcw.size) hT hcw (fun k hk => hk) hS1).mono ?_))
    clear hd hT
    rintro e_ w10 ⟨rfl, S6, hd, hT, hS1, hX2, hcw, hz6_⟩
    refine cR (sa rfl rfl (Wn (tN (W_ret ?_))))
    exact (rT rfl rfl ⟨rfl, S6, hd, hS1, hcw⟩).1
set_option maxRecDepth 10000 in
theorem pload_any (hd : DiskAt w gd D S) (hok : DOk D) (hT : PTabs B w) (hlen : ∀ f, mget D.files (idxP n) = some f → f.now.length < 10000000) :
  Calls Tryz.prog 27 #[.pointer (some ⟨gd, 0, none⟩), .int .i64 n] w (IdxPostO w (ploadM D n)) := by
 have hpl : (preadM D (idxP n)).1.length < 10000000 := by
  cases hm : mget D.files (idxP n) with
  | none => rw [preadM_none hm]; simp
  | some f => rw [preadM_some hm]; exact hlen f hm
 unfold ploadM
 refine W_enter (args := [.pointer (some ⟨gd, 0, none⟩), .int .i64 n]) 31 Tryz.func27 rfl rfl rfl (W_sub [(0, .pointer (some ⟨gd, 0, none⟩)), (1, .int .i64 n)] ?_ ⟨rfl, rfl, trivial⟩)
 have hbw := Below.refl w.heap.size w
 refine W_rs (salA inf25 rfl (fun g4 w1 hB4 hg4 hb hl4 => ?_))
 replace hbw := bthen hbw hb
 replace hd := hd.bel hb
 replace hT := hT.bel hb
 have hz_w1 := hb.size
 clear hb
 refine sa rfl rfl (Wn (tN (W_seq (W_rs (sm rfl rfl (sm rfl rfl (sc _ Tryz.func55 rfl (by kernel_rfl) rfl rfl ((pmay_any (some ⟨gd, 0, none⟩) n _).mono ?_))))))))
 rintro e_ w2 ⟨rfl, hb⟩
 refine cR ?_
 replace hbw := bthen hbw hb
 replace hd := hd.bel hb
 replace hT := hT.bel hb
 replace hB4 := hB4.bel hb
 have hz_w2 := hb.size
 clear hb
 refine sa rfl rfl (Wn (tN (W_rs (sm rfl rfl (st (X.neq rfl rfl) rfl (Wn (tN (W_if rfl (fun h13 => ?_) (fun h13 => ?_)))))))))
 ·first | replace h13 := of_decide_eq_true h13 | replace h13 := of_decide_eq_false (notT h13) | replace h13 := notT h13 | skip
  have hr : rightP n = false := by cases h : rightP n with | false => rfl | true => exact absurd (by simp [mayP, h]) h13
  refine W_rs (st (X.bld rfl (bidx0 _)) rfl (sm rfl rfl (ssBN rfl rfl hB4 siz25 rfl rfl (fun w3 hB_ hc_ => ?_))))
  replace hB4 := hB_
  clear hB_
  replace hbw := bset hbw hc_ (by omega)
  have hz_w3 := hc_.size
  clear hc_
  refine sa rfl rfl (Wn (tN (W_ret (tR ?_))))
  exact (rCT rfl rfl hB4 Tryz.underlying25 rfl siz25 rfl ⟨_, by rw [if_pos hr]; simp [mayP, hr]; rfl, by rw [if_pos hr]; exact EntsAt.nil _, fun k hk => by simp [Value.ownBlock] at hk, hbw⟩).1
 ·first | replace h13 := of_decide_eq_false h13 | replace h13 := of_decide_eq_true (notF h13) | replace h13 := notF h13 | skip
  have hr : ¬ rightP n = false := fun h => h13 (by simp [mayP, h])
  rw [if_neg hr]
  refine W_skip (tN (W_rs (sm rfl rfl (sm rfl rfl (sc _ Tryz.func70 rfl (by kernel_rfl) rfl rfl ((IndexName_p n _ hT.pow).mono ?_))))))
  rintro e_ w4 ⟨rfl, hb⟩
  refine cR ?_
  replace hbw := bthen hbw hb
  replace hd := hd.bel hb
  replace hT := hT.bel hb
  replace hB4 := hB4.bel hb
  have hz_w4 := hb.size
  clear hb
  refine sc _ Tryz.func56 rfl (by kernel_rfl) rfl rfl ((pread_any gd D S (idxP n) _ hd hok).mono ?_)
  rintro e_ w5 ⟨rfl, hb⟩
  refine cR ?_
  replace hbw := bthen hbw hb
  replace hd := hd.bel hb
  replace hT := hT.bel hb
  replace hB4 := hB4.bel hb
  have hz_w5 := hb.size
  clear hb
  refine sm rfl rfl (st (X.ext rfl rfl) rfl (st (X.ext rfl rfl) rfl (sa rfl rfl (sa rfl rfl (Wn (tN (W_seq (W_rs (sm rfl rfl (st (X.neq rfl rfl) rfl ?_))))))))))
  refine Wn (tN (W_if rfl (fun h24 => ?_) (fun h24 => ?_)))
  ·first | replace h24 := of_decide_eq_true h24 | replace h24 := of_decide_eq_false (notT h24) | replace h24 := notT h24 | skip
   rw [if_pos h24]
   refine W_rs (st (X.bld rfl (bidx0 _)) rfl (sm rfl rfl (ssBN rfl rfl hB4 siz25 rfl rfl (fun w6 hB_ hc_ => ?_))))
   replace hB4 := hB_
   clear hB_
   replace hbw := bset hbw hc_ (by omega)
   have hz_w6 := hc_.size
   clear hc_
   refine sa rfl rfl (Wn (tN (W_ret (tR ?_))))
   exact (rCT rfl rfl hB4 Tryz.underlying25 rfl siz25 rfl ⟨_, rfl, EntsAt.nil _, fun k hk => by simp [Value.ownBlock] at hk, hbw⟩).1
  ·first | replace h24 := of_decide_eq_false h24 | replace h24 := of_decide_eq_true (notF h24) | replace h24 := notF h24 | skip
   rw [if_neg h24]
   refine W_skip (tN (W_rs (sm rfl rfl (sc _ Tryz.func71 rfl (by kernel_rfl) rfl rfl ((Decode_own (preadM D (idxP n)).1 _ hpl).mono ?_)))))
   rintro e_ w7 ⟨v, rfl, hE, hO, hb⟩
   refine cR ?_
   replace hbw := bthen hbw hb
   replace hd := hd.bel hb
   replace hT := hT.bel hb
   replace hB4 := hB4.bel hb
   have hz_w7 := hb.size
   clear hb
   obtain ⟨am, cm, rfl⟩ : ∃ am cm, v = .slice am (decM (preadM D (idxP n)).1).1.length cm := by obtain ⟨_, am, cm, e, _⟩ := hE; exact ⟨am, cm, e⟩
   refine st (X.ext rfl rfl) rfl (st (X.ext rfl rfl) rfl (ssBN rfl rfl hB4 siz25 rfl (by simp [Value.oneCell']) (fun w8 hB_ hc_ => ?_)))
   replace hE := EntsAt.chgI hE (dec_S32 _) hB4 hc_
   replace hbw := bset hbw hc_ (by omega)
   replace hB4 := hB_
   clear hB_ hc_
   refine sa rfl rfl (Wn (tN (W_ret ?_)))
   exact (rCT rfl rfl hB4 Tryz.underlying25 rfl siz25 rfl ⟨_, rfl, hE, fun k hk => by have := hO k hk; omega, hbw⟩).1
def PRebPost (B : Nat) (w : World) (gd : Nat) (S : Nat → Prop) (r : (List Ent × Int) × DiskD) (e : Ending) (w' : World) : Prop :=
  ∃ u S', e = .returned (.tuple #[.agg #[u], .int .i64 r.1.2]) ∧ EntsAt w' u r.1.1 ∧ (0 < r.1.1.length → ∀ k, u.ownBlock = some k → ¬ S' k) ∧ (∀ k, u.ownBlock = some k → w.heap.size ≤ k) ∧ Own B w' gd r.2 S' ∧ (∀ k, S' k → S k ∨ w.heap.size ≤ k) ∧ Chg S w w'
set_option maxRecDepth 10000 in
theorem prebuild_any (N : Nat) (hd : Own B w gd D S) (hBw : B ≤ w.heap.size) (hg : Good N D) (hN : N ≤ 1000000000) (hT : PTabs B w) (hl : (popenM D n).1.l.length ≤ 100000) :
  Calls Tryz.prog 28 #[.pointer (some ⟨gd, 0, none⟩), .int .i64 n] w (PRebPost B w gd S (prebuildM D n)) := by
 have hS1 : ∀ k, S k → S k ∨ w.heap.size ≤ k := fun k hk => .inl hk
 have hSlo := hd.lo
 unfold prebuildM
 refine W_enter (args := [.pointer (some ⟨gd, 0, none⟩), .int .i64 n]) 31 Tryz.func28 rfl rfl rfl (W_sub [(0, .pointer (some ⟨gd, 0, none⟩)), (1, .int .i64 n)] ?_ ⟨rfl, rfl, trivial⟩)
 have hcw := Chg.refl (S) w
 refine W_rs (salA inf25 rfl (fun g4 w1 hB4 hg4 hb hl4 => ?_))
 replace hcw := hcw.then_below hb
 replace hd := hd.bel hb
 replace hT := hT.bel hb
 have hz_w1 := hb.size
 clear hb
 refine sa rfl rfl (Wn (tN (W_rs (sm rfl rfl (sm rfl rfl (sc _ Tryz.func19 rfl (by kernel_rfl) rfl rfl ((popen_any B gd D S n _ hd.at_ hg.ok hT).mono ?_)))))))
 rintro e_ w2 ⟨p, rfl, hpn, hps, hb⟩
 refine cR ?_
 replace hcw := hcw.then_below hb
 replace hd := hd.bel hb
 replace hT := hT.bel hb
 replace hB4 := hB4.bel hb
 have hz_w2 := hb.size
 clear hb
 refine sm rfl rfl (st (X.ext rfl rfl) rfl (st (X.ext rfl rfl) rfl (sa rfl rfl (sa rfl rfl (Wn (tN (W_seq (W_rs (sm rfl rfl (st (X.neq rfl rfl) rfl ?_))))))))))
 refine Wn (tN (W_if rfl (fun h17 => ?_) (fun h17 => ?_)))
 ·first | replace h17 := of_decide_eq_true h17 | replace h17 := of_decide_eq_false (notT h17) | replace h17 := notT h17 | skip
  rw [if_pos h17]
  refine W_rs (st (X.bld rfl (bidx0 _)) rfl (sm rfl rfl (ssBN rfl rfl hB4 siz25 rfl (by simp [Value.oneCell']) (fun w3 hB_ hc_ => ?_))))
  replace hB4 := hB_
  replace hd := hd.other hc_ (fun k hk e => by have h1 : k = g4 := hk; have := hSlo k e; omega)
  replace hcw := hcw.next hc_ (fun i hi => .inr (by omega))
  refine sa rfl rfl (Wn (tN (W_ret (tR ?_))))
  exact (rCT rfl rfl hB4 Tryz.underlying25 rfl siz25 rfl ⟨_, S, rfl, EntsAt.nil _, fun _ k hk => by simp [Value.ownBlock] at hk, fun k hk => by simp [Value.ownBlock] at hk, hd, hS1, hcw⟩).1
 ·first | replace h17 := of_decide_eq_false h17 | replace h17 := of_decide_eq_true (notF h17) | replace h17 := notF h17 | skip
  rw [if_neg h17]
  obtain ⟨gp, gx, gm, v, rfl, hP, hPO⟩ := hps (Decidable.of_not_not h17)
  have h32 := hP.scn.s32
  clear hps hpn
  refine W_skip (tN (W_rs (sm rfl rfl (sc _ Tryz.func32 rfl (by kernel_rfl) rfl rfl ((kIndex_any hP (by omega)).mono ?_)))))
  rintro e_ w4 ⟨u, rfl, hE, hO, hb⟩
  refine cR ?_
  replace hcw := hcw.then_below hb
  replace hd := hd.bel hb
  replace hT := hT.bel hb
  replace hB4 := hB4.bel hb
  have hz_w4 := hb.size
  clear hb
  obtain ⟨am, cm, rfl⟩ : ∃ am cm, u = .slice am (makeM (popenM D n).1.l).1.length cm := by obtain ⟨_, am, cm, e, _⟩ := hE; exact ⟨am, cm, e⟩
  have hml := make_length (popenM D n).1.l
  refine salA inf25 rfl (fun g8 w5 hB8 hg8 hb hl8 => ?_)
  replace hcw := hcw.then_below hb
  replace hd := hd.bel hb
  replace hT := hT.bel hb
  replace hB4 := hB4.bel hb
  replace hE := hE.bel hb
  have hz_w5 := hb.size
  clear hb
  refine ssBN rfl rfl hB8 siz25 rfl (by simp [Value.oneCell']) (fun w6 hB_ hc_ => ?_)
  replace hE := EntsAt.chgI hE (make_S32 h32) hB8 hc_
  replace hB8 := hB_
  replace hB4 := hB4.chg hc_ (by show ¬ g4 = g8; omega)
  replace hd := hd.other hc_ (fun k hk e => by have h1 : k = g8 := hk; have := hSlo k e; omega)
  replace hT := hT.chg hc_ (fun k hk => by have h1 : k = g8 := hk; omega)
  replace hcw := hcw.next hc_ (fun i hi => .inr (by omega))
  have hz_w6 := hc_.size
  clear hB_ hc_
  refine Wn (tN (W_seq (W_rs (sm rfl rfl (sm rfl rfl (st (X.ldBN rfl hB8 Tryz.underlying25 rfl siz25) rfl ?_))))))
  have hul : 0 < (makeM (popenM D n).1.l).1.length → ∀ {k}, (Value.slice am (makeM (popenM D n).1.l).1.length cm).ownBlock = some k → k < _ := fun h0 {k} hk => Reads.ownLt hE h0 hk
  refine sc _ Tryz.func29 rfl (by kernel_rfl) rfl rfl ((psave_any (n := n) _ (makeM (popenM D n).1.l).1 N hd (Nat.le_trans hBw hcw.size) hg hN hT hE (make_S32 h32) (fun k hk e => by have := hO k hk; have := hSlo k e; omega) (by omega)).mono ?_)
  clear hd
  rintro e_ w7 ⟨rfl, S1, hd, hS2, hX⟩
  refine cR ?_
  replace hE : EntsAt _ _ _ := Reads.chgS hE hX (fun _ k hk e => by have := hO k hk; have := hSlo k e; omega)
  replace hB4 := hB4.chg hX (fun e => by have := hSlo g4 e; omega)
  replace hB8 := hB8.chg hX (fun e => by have := hSlo g8 e; omega)
  replace hcw := hcw.next hX (fun i hi => .inl hi)
  have hz_9 := hX.size
  have hn4 : ∀ k, S1 k → k ≠ g4 := fun k hk e => by rcases hS2 k hk with h | h; have := hSlo k h; omega; omega
  obtain ⟨e1, D1, hp1⟩ : ∃ e D', psaveM D n (makeM (popenM D n).1.l).1 = (e, D') := ⟨_, _, rfl⟩
  rw [hp1] at hd ⊢
  simp only at hd ⊢
  refine sa rfl rfl (Wn (tN (W_rs (sm rfl rfl (st (X.neq rfl rfl) rfl (Wn (tN (W_if rfl (fun h27 => ?_) (fun h27 => ?_)))))))))
  ·first | replace h27 := of_decide_eq_true h27 | replace h27 := of_decide_eq_false (notT h27) | replace h27 := notT h27 | skip
   rw [if_pos h27]
   refine W_rs (st (X.bld rfl (bidx0 _)) rfl (sm rfl rfl (ssBN rfl rfl hB4 siz25 rfl (by simp [Value.oneCell']) (fun w8 hB_ hc_ => ?_))))
   replace hB4 := hB_
   replace hd := hd.other hc_ (fun k hk e => hn4 k e hk)
   replace hcw := hcw.next hc_ (fun i hi => .inr (by omega))
   refine sa rfl rfl (Wn (tN (W_ret (tR ?_))))
   exact (rCT rfl rfl hB4 Tryz.underlying25 rfl siz25 rfl ⟨_, S1, rfl, EntsAt.nil _, fun _ k hk => by simp [Value.ownBlock] at hk, fun k hk => by simp [Value.ownBlock] at hk, hd, fun k hk => (hS2 k hk).imp id (fun h => by omega), hcw⟩).1
  ·first | replace h27 := of_decide_eq_false h27 | replace h27 := of_decide_eq_true (notF h27) | replace h27 := notF h27 | skip
   rw [if_neg h27]
   refine W_skip (tN (W_rs (st (X.ldBN rfl hB8 Tryz.underlying25 rfl siz25) rfl (ssBN rfl rfl hB4 siz25 rfl (by simp [Value.oneCell']) (fun w9 hB_ hc_ => ?_)))))
   replace hE := EntsAt.chgI hE (make_S32 h32) hB4 hc_
   replace hB4 := hB_
   replace hd := hd.other hc_ (fun k hk e => hn4 k e hk)
   replace hcw := hcw.next hc_ (fun i hi => .inr (by omega))
   refine sa rfl rfl (Wn (tN (W_ret ?_)))
   exact (rCT rfl rfl hB4 Tryz.underlying25 rfl siz25 rfl ⟨_, S1, rfl, hE, fun h0 k hk e => by have := hul h0 hk; have := hO k hk; rcases hS2 k e with h | h; have := hSlo k h; omega; omega, fun k hk => by have := hO k hk; omega, hd, fun k hk => (hS2 k hk).imp id (fun h => by omega), hcw⟩).1
end
end Go.Proofs.YtnlabkogebnioaaGreatDoor
namespace Go.Proofs.YtnlabkogebnioaaGreatDoor
open Go.RowKit
def Consec : Nat → List (Nat × List UInt8) → Prop
  | _, [] => True
  | n, p :: l => p.1 = n ∧ Consec (n + p.2.length) l
def flatP : List (Nat × List UInt8) → List UInt8
  | [] => []
  | p :: l => p.2 ++ flatP l
theorem flatP_length (l : List (Nat × List UInt8)) : (flatP l).length = pendLen l := by
 induction l with
 | nil => rfl
 | cons p l ih => simp only [flatP, pendLen, List.length_append, ih]
theorem flatP_append (l m : List (Nat × List UInt8)) : flatP (l ++ m) = flatP l ++ flatP m := by
 induction l with
 | nil => rfl
 | cons p l ih => simp only [List.cons_append, flatP, ih, List.append_assoc]
theorem Consec.snoc : ∀ {l : List (Nat × List UInt8)} {n : Nat} {d : List UInt8}, Consec n l → Consec n (l ++ [(n + pendLen l, d)])
 | [], _, _, _ => ⟨rfl, trivial⟩
 | p :: l, n, d, h => ⟨h.1, by
  have := Consec.snoc (d := d) h.2
  rwa [show n + p.2.length + pendLen l = n + (p.2.length + pendLen l) by omega] at this⟩
theorem crash_none : ∀ (l : List (Nat × List UInt8)) (t : List UInt8), crashBytes t l 0 = t
 | [], _ => rfl
 | p :: l, t => by
  show crashBytes (overM t (min p.1 t.length) (p.2.take 0)) l (0 - min 0 p.2.length) = t
  rw [List.take_zero, overM_nil, Nat.zero_sub]
  exact crash_none l t
theorem crash_consec : ∀ (l : List (Nat × List UInt8)) (t : List UInt8) (k : Nat), Consec t.length l → crashBytes t l k = t ++ (flatP l).take k
 | [], t, k, _ => by simp [crashBytes, flatP]
 | p :: l, t, k, h => by
  show crashBytes (overM t (min p.1 t.length) (p.2.take k)) l (k - min k p.2.length) = t ++ (p.2 ++ flatP l).take k
  rw [h.1, Nat.min_self, overM_end]
  rcases Nat.lt_or_ge k p.2.length with hk | hk
  ·rw [Nat.min_eq_left (by omega), Nat.sub_self, crash_none, List.take_append_of_le_length (by omega)]
  ·rw [Nat.min_eq_right hk, List.take_of_length_le hk, crash_consec l (t ++ p.2) _ (by rw [List.length_append]; exact h.2), List.take_append, List.take_of_length_le hk, List.append_assoc]
structure LastsAt (D : DiskD) (k : Key) (lim : Int) (s all : List UInt8) : Prop where
  ex : ∃ f, D.files = [(k, f)] ∧ f.last = s ∧ f.now = s ++ all ∧ Consec s.length f.pend ∧ flatP f.pend = all
  limit : D.limit = lim
  used : D.used = (s ++ all).length
  stops : D.stops = false
section
variable {D : DiskD} {s all d : List UInt8} {k b : Key} {lim : Int}
theorem mget_one {ν : Type} (k : Key) (f : ν) : mget [(k, f)] k = some f := if_pos rfl
theorem sput_one (k : Key) (f g : FileD) : sput [(k, f)] k g = [(k, g)] := if_pos rfl
theorem LastsAt.op (h : LastsAt D k lim s all) (c : DiskD → Int × DiskD) : opM D c = c D := by
 unfold opM tickM
 rw [if_neg (by rw [h.stops]; simp), if_neg (by rw [h.stops]; simp)]
theorem LastsAt.append (h : LastsAt D k lim s all) (hl : ((s ++ all).length : Int) + d.length ≤ lim) : (appendM D k d).1 = 0 ∧ LastsAt (appendM D k d).2 k lim s (all ++ d) := by
 obtain ⟨f, hf, h1, h2, h3, h4⟩ := h.ex
 unfold appendM
 rw [h.op, fileM_some (f := f) (by rw [hf]; exact mget_one _ _)]
 unfold putM
 split
 ·rename_i hd
  subst hd
  rw [List.append_nil]
  exact ⟨rfl, h⟩
 ·have hm : moreM f f.now.length d = d.length := by unfold moreM; omega
  rw [if_neg (by rw [hm, h.limit, h.used]; omega)]
  refine ⟨rfl, ⟨⟨laidM f f.now.length d, by rw [hf]; exact sput_one _ _ _, h1, ?_, ?_, ?_⟩, h.limit, ?_, h.stops⟩⟩
  ·show overM f.now f.now.length d = _
   rw [overM_end, h2, List.append_assoc]
  ·show Consec s.length (f.pend ++ [(f.now.length, d)])
   have := h3.snoc (d := d)
   rw [← flatP_length, h4] at this
   rw [h2, List.length_append]
   exact this
  ·show flatP (f.pend ++ [(f.now.length, d)]) = _
   rw [flatP_append, h4]
   simp [flatP]
  ·show D.used + _ = _
   rw [hm, h.used, ← List.append_assoc]
   simp only [List.length_append]
   omega
theorem LastsAt.sync (h : LastsAt D k lim s all) : LastsAt (syncM D k).2 k lim (s ++ all) [] := by
 obtain ⟨f, hf, h1, h2, h3, h4⟩ := h.ex
 unfold syncM
 rw [h.op, fileM_some (f := f) (by rw [hf]; exact mget_one _ _)]
 refine ⟨⟨lastsM f, by rw [hf]; exact sput_one _ _ _, h2, ?_, trivial, rfl⟩, h.limit, ?_, h.stops⟩
 ·show f.now = _
  rw [List.append_nil, h2]
 ·show D.used = _
  rw [List.append_nil, h.used]
theorem LastsAt.crash (h : LastsAt D k lim s all) (pick : Int) : LastsAt (crashD D [pick]) k lim (s ++ all.take (pick % ((all.length + 1 : Nat) : Int)).toNat) [] := by
 obtain ⟨f, hf, h1, h2, h3, h4⟩ := h.ex
 have hk : keptM f pick = (pick % ((all.length + 1 : Nat) : Int)).toNat := by
  unfold keptM
  rw [← flatP_length, h4]
 have hc : crashM f (keptM f pick) = ⟨s ++ all.take (pick % ((all.length + 1 : Nat) : Int)).toNat, s ++ all.take (pick % ((all.length + 1 : Nat) : Int)).toNat, []⟩ := by
  unfold crashM
  rw [hk, crash_consec _ _ _ (by rw [h1]; exact h3), h1, h4]
 have hfs : (crashD D [pick]).files = [(k, ⟨s ++ all.take (pick % ((all.length + 1 : Nat) : Int)).toNat, s ++ all.take (pick % ((all.length + 1 : Nat) : Int)).toNat, []⟩)] := by
  show crashAll D.files [pick] = _
  rw [hf]
  show [(k, crashM f (keptM f pick))] = _
  rw [hc]
 refine ⟨⟨_, hfs, rfl, by rw [List.append_nil], trivial, rfl⟩, h.limit, ?_, rfl⟩
 show ((usedM (crashAll D.files [pick]) : Nat) : Int) = _
 rw [show crashAll D.files [pick] = _ from hfs, List.append_nil]
 rfl
theorem LastsAt.new (hk : nameOk k = true) : (createM (newM lim) k).1 = 0 ∧ LastsAt (createM (newM lim) k).2 k lim [] [] := by
 have h : createM (newM lim) k = (0, ⟨[(k, newFile)], lim, 0, 0, false, 0⟩) := by
  unfold createM opM
  rw [if_neg (by simp [newM])]
  show (if nameOk k = true then _ else _) = _
  rw [if_pos hk]
  rfl
 rw [h]
 exact ⟨rfl, ⟨newFile, rfl, rfl, rfl, trivial, rfl⟩, rfl, rfl, rfl⟩
end
end Go.Proofs.YtnlabkogebnioaaGreatDoor
namespace Go.Proofs.YtnlabkogebnioaaGreatDoor
open Go.RowKit Sha
def wents (n : Int) : Nat → List (List UInt8) → List Ent
  | _, [] => []
  | p, d :: l => ⟨sha d, n, p, d.length⟩ :: wents n (p + (chunkB d).length) l
def chunksB (l : List (List UInt8)) : List UInt8 := l.flatMap chunkB
theorem wents_length (n : Int) : ∀ (p : Nat) (l : List (List UInt8)), (wents n p l).length = l.length
 | _, [] => rfl
 | p, d :: l => by rw [wents, List.length_cons, wents_length n _ l, List.length_cons]
theorem wents_sums (n : Int) : ∀ (p : Nat) (l : List (List UInt8)), (wents n p l).map (·.sum) = l.map sha
 | _, [] => rfl
 | p, d :: l => by rw [wents, List.map_cons, wents_sums n _ l, List.map_cons]
theorem wents_snoc (n : Int) (d : List UInt8) : ∀ (p : Nat) (l : List (List UInt8)), wents n p (l ++ [d]) = wents n p l ++ [⟨sha d, n, ((p + (chunksB l).length : Nat) : Int), d.length⟩]
 | p, [] => by simp [wents, chunksB]
 | p, c :: l => by
  rw [List.cons_append, wents, wents, wents_snoc n d _ l, List.cons_append]
  simp only [chunksB, List.flatMap_cons, List.length_append]
  rw [Nat.add_assoc]
def DOkC (d : List UInt8) : Prop := d ≠ [] ∧ d.length ≤ 1024
theorem nextM_chunk {d : List UInt8} (hd : DOkC d) (t : List UInt8) : nextM (chunkB d ++ t) = (2, sha d ++ d, (chunkB d).length, 0) := nextM_seal t (by decide) (by rw [List.length_append, sha_length]; have := hd.2; omega)
theorem openB_sha {d : List UInt8} (hd : DOkC d) : openB (sha d ++ d) = true := by
 unfold openB
 rw [decide_eq_true_eq, List.length_append, sha_length, List.drop_left' (sha_length d), List.take_left' (sha_length d)]
 have := List.length_pos_iff.2 hd.1
 exact ⟨by omega, by have := hd.2; omega, rfl⟩
theorem chunkB_ge {d : List UInt8} (hd : DOkC d) : 38 ≤ (chunkB d).length := by
 unfold chunkB
 have := List.length_pos_iff.2 hd.1
 rw [seal_length (by decide) (by rw [List.length_append, sha_length]; have := hd.2; omega), List.length_append, sha_length]
 omega
theorem step_chunk {n : Int} {pre t d : List UInt8} {x : Scn} (hd : DOkC d) (hx : x.good = pre.length) (hw : x.whole = false) (hn : hadM x.l (sha d) = false) :
  stepP n (pre ++ (chunkB d ++ t)) x = some ⟨x.l ++ [⟨sha d, n, (pre.length : Nat), d.length⟩], pre.length + (chunkB d).length, false⟩ := by
 unfold stepP
 rw [if_neg (by rw [hw]; decide), hx, List.drop_left, nextM_chunk hd]
 simp only
 rw [if_neg (by decide)]
 unfold takeP
 rw [if_pos rfl, List.take_left' (sha_length d), if_pos ⟨openB_sha hd, hn⟩]
 unfold entP
 rw [List.take_left' (sha_length d), hx, hw, List.length_append, sha_length, show ((32 + d.length : Nat) : Int) - 32 = d.length by omega]
theorem hadM_snoc {l : List Ent} {e : Ent} {a : List UInt8} : hadM (l ++ [e]) a = (hadM l a || decide (e.sum = a)) := by
 simp [hadM]
theorem scan_chunks {n : Int} {t : List UInt8} : ∀ (l : List (List UInt8)) (pre : List UInt8) (x : Scn) (k : Nat), (∀ d ∈ l, DOkC d) → (l.map sha).Nodup → (∀ d ∈ l, hadM x.l (sha d) = false) → x.good = pre.length → x.whole = false → l.length ≤ k →
  scanPN n (pre ++ (chunksB l ++ t)) k x = scanPN n (pre ++ (chunksB l ++ t)) (k - l.length) ⟨x.l ++ wents n pre.length l, pre.length + (chunksB l).length, false⟩
 | [], pre, x, k, _, _, _, hx, hw, _ => by
  have : (⟨x.l ++ wents n pre.length [], pre.length + (chunksB []).length, false⟩ : Scn) = x := by
   cases x
   simp only at hx hw
   subst hx hw
   simp [wents, chunksB]
  rw [this]
  rfl
 | d :: l, pre, x, k, hl, hnd, hn, hx, hw, hk => by
  have hd := hl d (List.mem_cons_self ..)
  have h1 := step_chunk (n := n) (t := chunksB l ++ t) hd hx hw (hn d (List.mem_cons_self ..))
  rw [List.map_cons, List.nodup_cons] at hnd
  simp only [List.length_cons] at hk
  have e : pre ++ (chunksB (d :: l) ++ t) = pre ++ (chunkB d ++ (chunksB l ++ t)) := by simp [chunksB]
  have e2 : pre ++ (chunkB d ++ (chunksB l ++ t)) = (pre ++ chunkB d) ++ (chunksB l ++ t) := by rw [List.append_assoc]
  rw [e, scanPN_some h1 (by omega), e2]
  have ih := scan_chunks (n := n) (t := t) l (pre ++ chunkB d) ⟨x.l ++ [⟨sha d, n, (pre.length : Nat), d.length⟩], pre.length + (chunkB d).length, false⟩ (k - 1) (fun c hc => hl c (List.mem_cons_of_mem _ hc)) hnd.2
   (fun c hc => by
    simp only
    rw [hadM_snoc, hn c (List.mem_cons_of_mem _ hc), Bool.false_or, decide_eq_false_iff_not]
    intro e
    exact hnd.1 (List.mem_map.2 ⟨c, hc, e.symm⟩)) (by rw [List.length_append]) rfl (by omega)
  rw [ih]
  congr 1
  ·simp only [List.length_cons]; omega
  ·simp only [wents, chunksB, List.flatMap_cons, List.length_append, List.append_assoc, List.singleton_append, Nat.add_assoc]
theorem nextM_head (n : Int) (t : List UInt8) : nextM (headB n ++ t) = (1, four n, (headB n).length, 0) := nextM_seal t (by decide) (by rw [four_length]; omega)
theorem chunksB_ge : ∀ {l : List (List UInt8)}, (∀ d ∈ l, DOkC d) → l.length ≤ (chunksB l).length
 | [], _ => Nat.le_refl _
 | d :: l, h => by
  have h1 := chunkB_ge (h d (List.mem_cons_self ..))
  have h2 := chunksB_ge (fun c hc => h c (List.mem_cons_of_mem _ hc))
  simp only [chunksB, List.flatMap_cons, List.length_append, List.length_cons] at h2 ⊢
  omega
theorem nextM_foot (l : List Ent) (t : List UInt8) : nextM (footB l ++ t) = (3, four (l.length : Int), (footB l).length, 0) := nextM_seal t (by decide) (by rw [four_length]; omega)
theorem scan_closed {n : Int} {l : List (List UInt8)} {m : List Ent} {t : List UInt8} (hn : rightP n = true) (hl : ∀ d ∈ l, DOkC d) (hnd : (l.map sha).Nodup) (hm : m.length = l.length) :
  scanP (headB n ++ (chunksB l ++ (footB m ++ t))) n = (⟨wents n (headB n).length l, (headB n).length + (chunksB l).length + (footB m).length, true⟩, 0) := by
 unfold scanP
 have hh : headP n (headB n ++ (chunksB l ++ (footB m ++ t))) = true := by
  unfold headP
  rw [nextM_head]
  simp
 rw [if_neg (by rw [hn]; decide), if_neg (by rw [hh]; decide), nextM_head]
 simp only
 have hge := chunksB_ge hl
 have hf : 1 ≤ (footB m).length := by
  unfold footB
  rw [seal_length (by decide) (by rw [four_length]; omega)]
  omega
 rw [scan_chunks l (headB n) ⟨[], (headB n).length, false⟩ _ hl hnd (fun _ _ => rfl) rfl rfl (by simp only [List.length_append]; omega)]
 have hs : stepP n (headB n ++ (chunksB l ++ (footB m ++ t))) ⟨[] ++ wents n (headB n).length l, (headB n).length + (chunksB l).length, false⟩ = some ⟨wents n (headB n).length l, (headB n).length + (chunksB l).length + (footB m).length, true⟩ := by
  unfold stepP
  simp only
  rw [if_neg (by decide), ← List.length_append, ← List.append_assoc, List.drop_left, nextM_foot]
  simp only
  rw [if_neg (by decide)]
  unfold takeP
  rw [if_neg (by decide), if_pos rfl, List.nil_append, wents_length, hm, if_pos rfl]
 rw [scanPN_some hs (by simp only [List.length_append]; omega), scanPN_none]
 unfold stepP
 rw [if_pos rfl]
theorem got_chunk {d : List UInt8} (hd : DOkC d) (t : List UInt8) : gotM d.length (sha d) ((chunkB d ++ t).take (longM d.length)) = (d, 0) := by
 have hl : longM d.length = (chunkB d).length := by
  unfold longM chunkB
  have := hd.2
  rw [seal_length (by decide) (by rw [List.length_replicate]; omega), seal_length (by decide) (by rw [List.length_append, sha_length]; omega), List.length_replicate, List.length_append, sha_length]
 rw [hl, List.take_left]
 have := nextM_chunk hd []
 rw [List.append_nil] at this
 unfold gotM
 rw [this]
 simp only
 rw [if_neg (by simp), if_pos ⟨openB_sha hd, List.take_left' (sha_length d), by rw [List.length_append, sha_length]; omega⟩, List.drop_left' (sha_length d)]
theorem wents_at {n : Int} : ∀ {l : List (List UInt8)} {p : Nat} {e : Ent}, e ∈ wents n p l → ∃ a d c, l = a ++ d :: c ∧ e = ⟨sha d, n, ((p + (chunksB a).length : Nat) : Int), d.length⟩
 | [], _, _, h => by cases h
 | d :: l, p, e, h => by
  rcases List.mem_cons.1 h with rfl | h
  ·exact ⟨[], d, l, rfl, by simp [chunksB]⟩
  ·obtain ⟨a, x, c, rfl, rfl⟩ := wents_at h
   exact ⟨d :: a, x, c, rfl, by simp [chunksB, Nat.add_assoc]⟩
theorem get_written {D : DiskD} {n : Int} {l : List (List UInt8)} {t : List UInt8} {f : FileD} {d : List UInt8} (hf : mget D.files (nameP n) = some f) (hnow : f.now = headB n ++ (chunksB l ++ t)) (hl : ∀ d ∈ l, DOkC d) (hd : sha d ∈ l.map sha) :
  ∃ c, c ∈ l ∧ sha c = sha d ∧ pgetM D n (wents n (headB n).length l) (sha d) = (c, 0) := by
 unfold pgetM
 cases hfi : findM (wents n (headB n).length l) (sha d) with
 | none =>
  exfalso
  rw [← wents_sums n (headB n).length] at hd
  obtain ⟨e, he, hes⟩ := List.mem_map.1 hd
  have := List.find?_eq_none.1 hfi e he
  simp [hes] at this
 | some e =>
  have hm := List.mem_of_find?_eq_some hfi
  have hs := List.find?_some hfi
  simp only [decide_eq_true_eq] at hs
  obtain ⟨a, x, c, rfl, rfl⟩ := wents_at hm
  simp only at hs
  have hx := hl x (by simp)
  rw [hf]
  simp only
  rw [hnow]
  have hdrop : (headB n ++ (chunksB (a ++ x :: c) ++ t)).drop ((headB n).length + (chunksB a).length) = chunkB x ++ (chunksB c ++ t) := by
   have e : headB n ++ (chunksB (a ++ x :: c) ++ t) = (headB n ++ chunksB a) ++ (chunkB x ++ (chunksB c ++ t)) := by simp [chunksB]
   rw [e, ← List.length_append, List.drop_left]
  refine ⟨x, by simp, hs, ?_⟩
  rw [if_neg (by simp [chunksB]; omega), Int.toNat_natCast, Int.toNat_natCast, hdrop, ← hs]
  exact got_chunk hx _
end Go.Proofs.YtnlabkogebnioaaGreatDoor
namespace Go.Proofs.YtnlabkogebnioaaGreatDoor
open Go.RowKit Sha
theorem create_lasts {lim : Int} {k : Key} (hk : nameOk k = true) : (createM (newM lim) k).1 = 0 ∧ LastsAt (createM (newM lim) k).2 k lim [] [] := LastsAt.new hk
theorem begin_lasts {lim n : Int} (hn : rightP n = true) (hl : 20 ≤ lim) : (pbeginM (newM lim) n).1 = 0 ∧ LastsAt (pbeginM (newM lim) n).2 (nameP n) lim [] (headB n) := by
 obtain ⟨h1, h2⟩ := create_lasts (lim := lim) (name_ok hn)
 have hh := headB_len n
 obtain ⟨h3, h4⟩ := h2.append (d := headB n) (by simp; omega)
 unfold pbeginM
 rw [if_neg (by rw [hn]; decide), if_neg (by rw [h1]; decide), if_neg (by rw [h3]; decide)]
 exact ⟨h3, by simpa using h4⟩
theorem LastsAt.sizeOf {D : DiskD} {k : Key} {lim : Int} {s all : List UInt8} (h : LastsAt D k lim s all) : sizeM D k = (((s ++ all).length : Int), 0) := by
 obtain ⟨f, hf, h1, h2, h3, h4⟩ := h.ex
 unfold sizeM
 rw [show mget D.files k = some f by rw [hf]; exact mget_one _ _]
 simp only
 rw [h2]
theorem LastsAt.file {D : DiskD} {k : Key} {lim : Int} {s all : List UInt8} (h : LastsAt D k lim s all) : ∃ f, mget D.files k = some f ∧ f.now = s ++ all := by
 obtain ⟨f, hf, h1, h2, h3, h4⟩ := h.ex
 exact ⟨f, by rw [hf]; exact mget_one _ _, h2⟩
structure WrAt1 (lim : Int) (n : Int) (ds : List (List UInt8)) (D : DiskD) (x : Wri) : Prop where
  d : LastsAt D (nameP n) lim [] (headB n ++ chunksB ds)
  num : x.n = n
  l : x.l = wents n (headB n).length ds
  closed : x.closed = false
  ok : ∀ d ∈ ds, DOkC d
  nd : (ds.map sha).Nodup
theorem chunksB_snoc (ds : List (List UInt8)) (d : List UInt8) : chunksB (ds ++ [d]) = chunksB ds ++ chunkB d := by simp [chunksB]
theorem WrAt1.begin {lim n : Int} (hn : rightP n = true) (hl : 20 ≤ lim) : WrAt1 lim n [] (pbeginM (newM lim) n).2 ⟨n, [], false⟩ :=
 ⟨by simpa [chunksB] using (begin_lasts hn hl).2, rfl, rfl, rfl, (fun d h => by cases h), by simp⟩
section
variable {lim n : Int} {ds : List (List UInt8)} {D : DiskD} {x : Wri} {d : List UInt8}
theorem WrAt1.none (h : WrAt1 lim n ds D x) (hd : sha d ∉ ds.map sha) : findM x.l (sha d) = none := by
 refine List.find?_eq_none.2 fun e he => ?_
 simp only [decide_eq_true_eq]
 intro e2
 refine hd ?_
 rw [← wents_sums n (headB n).length ds, ← h.l]
 exact List.mem_map.2 ⟨e, he, e2⟩
theorem WrAt1.there (h : WrAt1 lim n ds D x) (hd : sha d ∈ ds.map sha) (hok : DOkC d) : ∃ e, findM x.l (sha d) = some e ∧ e.sum = sha d ∧ paddM D x d = ((e, 16), x, D) := by
 rw [← wents_sums n (headB n).length ds, ← h.l] at hd
 obtain ⟨e, he, hes⟩ := List.mem_map.1 hd
 cases hf : findM x.l (sha d) with
 | none =>
  have := List.find?_eq_none.1 hf e he
  simp [hes] at this
 | some e' =>
  have hs := List.find?_some hf
  simp only [decide_eq_true_eq] at hs
  refine ⟨e', rfl, hs, ?_⟩
  unfold paddM
  rw [if_neg (by rintro (e | e); rw [h.closed] at e; cases e; exact hok.1 e), if_neg (by have := hok.2; omega), hf]
theorem WrAt1.bad (h : WrAt1 lim n ds D x) (hok : ¬ DOkC d) : (paddM D x d).1.2 ≠ 0 ∧ (paddM D x d).2 = (x, D) := by
 unfold paddM
 by_cases h1 : d = []
 ·rw [if_pos (.inr h1)]
  exact ⟨by simp, rfl⟩
 ·rw [if_neg (by rintro (e | e); rw [h.closed] at e; cases e; exact h1 e), if_pos (by
   refine Classical.byContradiction fun h2 => hok ⟨h1, by omega⟩)]
  exact ⟨by simp, rfl⟩
theorem WrAt1.add (h : WrAt1 lim n ds D x) (hd : sha d ∉ ds.map sha) (hok : DOkC d) (hr : ((headB n ++ chunksB ds).length : Int) + 1074 ≤ lim) :
  (paddM D x d).1 = (⟨sha d, n, ((headB n).length + (chunksB ds).length : Nat), d.length⟩, 0) ∧ WrAt1 lim n (ds ++ [d]) (paddM D x d).2.2 (paddM D x d).2.1 := by
 have hcl := chunkB_len d (by have := hok.2; omega)
 have hd2 := hok.2
 obtain ⟨h1, h2⟩ := h.d.append (d := chunkB d) (by simp only [List.nil_append]; omega)
 have hsz := h.d.sizeOf
 unfold paddM
 rw [if_neg (by rintro (e | e); rw [h.closed] at e; cases e; exact hok.1 e), if_neg (by omega), h.none hd]
 simp only
 rw [h.num, hsz, if_neg (by simp), if_neg (by rw [h1]; simp)]
 refine ⟨?_, ?_, rfl, ?_, h.closed, ?_, ?_⟩
 ·simp only [List.nil_append, List.length_append]
 ·rw [chunksB_snoc, ← List.append_assoc]
  exact h2
 ·simp only
  rw [h.l, wents_snoc]
  simp only [List.nil_append, List.length_append]
 ·intro c hc
  rcases List.mem_append.1 hc with hc | hc
  ·exact h.ok c hc
  ·rw [List.mem_singleton.1 hc]; exact hok
 ·rw [List.map_append, List.nodup_append]
  exact ⟨h.nd, by simp, fun a ha b hb e => by
   rw [List.map_singleton, List.mem_singleton] at hb
   subst hb
   exact hd (e ▸ ha)⟩
end
def addsM (D : DiskD) (x : Wri) : List (List UInt8) → Wri × DiskD
  | [] => (x, D)
  | d :: l => addsM (paddM D x d).2.2 (paddM D x d).2.1 l
theorem addsM_snoc (d : List UInt8) : ∀ (l : List (List UInt8)) (D : DiskD) (x : Wri), addsM D x (l ++ [d]) = (paddM (addsM D x l).2 (addsM D x l).1 d).2
 | [], D, x => rfl
 | c :: l, D, x => by rw [List.cons_append, addsM, addsM_snoc d l, addsM]
theorem padd_l (D : DiskD) (x : Wri) (d : List UInt8) : (paddM D x d).2.1.n = x.n ∧ ((paddM D x d).1.2 = 0 → (paddM D x d).2.1.l = x.l ++ [(paddM D x d).1.1] ∧ (paddM D x d).1.1.sum = sha d ∧ (paddM D x d).1.1.pack = x.n ∧ (paddM D x d).1.1.len = d.length) ∧ ((paddM D x d).1.2 ≠ 0 → (paddM D x d).2.1 = x) := by
 unfold paddM
 split
 ·exact ⟨rfl, fun h => absurd h (by simp), fun _ => rfl⟩
 split
 ·exact ⟨rfl, fun h => absurd h (by simp), fun _ => rfl⟩
 split
 ·exact ⟨rfl, fun h => absurd h (by simp), fun _ => rfl⟩
 split
 ·rename_i h4
  exact ⟨rfl, fun h => absurd h h4, fun _ => rfl⟩
 split
 ·rename_i h5
  exact ⟨rfl, fun h => absurd h h5, fun _ => rfl⟩
 ·exact ⟨rfl, fun _ => ⟨rfl, rfl, rfl, rfl⟩, fun h => absurd rfl h⟩
theorem adds_written {lim n : Int} : ∀ {l : List (List UInt8)} {ds : List (List UInt8)} {D : DiskD} {x : Wri}, WrAt1 lim n ds D x → ((headB n ++ chunksB ds).length : Int) + 1074 * l.length ≤ lim →
  ∃ ds', WrAt1 lim n ds' (addsM D x l).2 (addsM D x l).1 ∧ (∀ d ∈ ds, d ∈ ds') ∧ (∀ d ∈ l, DOkC d → sha d ∈ ds'.map sha) ∧ (headB n ++ chunksB ds').length ≤ (headB n ++ chunksB ds).length + 1074 * l.length
 | [], ds, D, x, h, _ => ⟨ds, h, fun _ hd => hd, fun d hd => (by cases hd), by simp⟩
 | d :: l, ds, D, x, h, hr => by
  simp only [List.length_cons] at hr
  rw [addsM]
  by_cases hok : DOkC d
  ·by_cases hd : sha d ∈ ds.map sha
   ·obtain ⟨e, _, _, hp⟩ := h.there hd hok
    rw [hp]
    obtain ⟨ds', h1, h2, h3, h4⟩ := adds_written (l := l) h (by omega)
    refine ⟨ds', h1, h2, fun c hc hc2 => ?_, by simp only [List.length_cons]; omega⟩
    rcases List.mem_cons.1 hc with rfl | hc
    ·obtain ⟨q, hq, hqs⟩ := List.mem_map.1 hd
     exact List.mem_map.2 ⟨q, h2 q hq, hqs⟩
    ·exact h3 c hc hc2
   ·obtain ⟨_, hp⟩ := h.add hd hok (by omega)
    have hcl := chunkB_len d (by have := hok.2; omega)
    have hd2 := hok.2
    obtain ⟨ds', h1, h2, h3, h4⟩ := adds_written (l := l) hp (by rw [chunksB_snoc]; simp only [List.length_append] at hr ⊢; omega)
    refine ⟨ds', h1, fun c hc => h2 c (by simp [hc]), fun c hc hc2 => ?_, ?_⟩
    ·rcases List.mem_cons.1 hc with rfl | hc
     ·exact List.mem_map.2 ⟨c, h2 c (by simp), rfl⟩
     ·exact h3 c hc hc2
    ·rw [chunksB_snoc] at h4
     simp only [List.length_append, List.length_cons] at h4 ⊢
     omega
  ·obtain ⟨_, hp⟩ := h.bad hok
   rw [hp]
   obtain ⟨ds', h1, h2, h3, h4⟩ := adds_written (l := l) h (by omega)
   refine ⟨ds', h1, h2, fun c hc hc2 => ?_, by simp only [List.length_cons]; omega⟩
   rcases List.mem_cons.1 hc with rfl | hc
   ·exact absurd hc2 hok
   ·exact h3 c hc hc2
end Go.Proofs.YtnlabkogebnioaaGreatDoor
namespace Go.Proofs.YtnlabkogebnioaaGreatDoor
open Go.RowKit
theorem run_part1 {t : TypeId} {d : TypeDesc} {cs : Array Value} {off : Nat} {v : Value} {w : World} (hu : Tryz.prog.underlying t = some d) (hd : (match d with | .struct _ | .array _ _ => false | _ => true) = true) (hv : cs.toList[off]? = some v) : (part t cs off).run Tryz.prog w = .ok v w := by
 have hc : cs[off]? = some v := by rw [← hv]; simp
 cases d <;> simp at hd <;> simp [part, isAgg, run_underlying hu, hc]
theorem eqFields_cons {P : Program} {d : Nat} {xs ys : Array Value} {f : Field} {fs : List Field} {a b : Value} {r r' : Bool} {w : World} (hn : f.name ≠ "_") (ha : (part f.type xs f.offset).run P w = .ok a w) (hb : (part f.type ys f.offset).run P w = .ok b w) (he : (Op.equalIn d f.type a b).run P w = .ok r w) (hr : r = true → (Op.eqFields d xs ys fs).run P w = .ok r' w) :
  (Op.eqFields d xs ys (f :: fs)).run P w = .ok (r && r') w := by
 unfold Op.eqFields
 rw [if_pos hn]
 simp only [Sem.run_bind, ha, hb, he, Result.andThen_ok, Sem.run_ite]
 cases r with
 | false => simp
 | true => simpa using hr rfl
theorem eqFields_one {P : Program} {d : Nat} {xs ys : Array Value} {f : Field} {a b : Value} {r : Bool} {w : World} (hn : f.name ≠ "_") (ha : (part f.type xs f.offset).run P w = .ok a w) (hb : (part f.type ys f.offset).run P w = .ok b w) (he : (Op.equalIn d f.type a b).run P w = .ok r w) :
  (Op.eqFields d xs ys [f]).run P w = .ok r w := by
 have := eqFields_cons (fs := []) hn ha hb he (fun _ => (by simp [Op.eqFields] : (Op.eqFields d xs ys []).run P w = .ok true w))
 simpa using this
theorem eqSumE (l m : List UInt8) (hl : l.length = 32) (hm : m.length = 32) (w : World) : (Op.equalIn 9999 60 (.agg (l.map bv).toArray) (.agg (m.map bv).toArray)).run Tryz.prog w = .ok (l == m) w := by
 obtain ⟨i0, hi, hz0, hz1, hz2⟩ := info_parts info_u8'
 have := run_equalIn_array (P := Tryz.prog) w 9998 (l.map bv).toArray (m.map bv).toArray Tryz.underlying60 hi
 rw [cells_u8, run_eqItems_bytes 9997 l m w (List.range 32) (fun i h => by simp at h; omega), all_getD l m 32 hl hm] at this
 exact this
end Go.Proofs.YtnlabkogebnioaaGreatDoor
namespace Go.Proofs.YtnlabkogebnioaaGreatDoor
open Go.RowKit
theorem ent_decP (a b : Ent) : (a.sum == b.sum && (a.pack == b.pack && (a.pos == b.pos && a.len == b.len))) = decide (a = b) := by
 obtain ⟨a1, a2, a3, a4⟩ := a
 obtain ⟨b1, b2, b3, b4⟩ := b
 rw [Bool.eq_iff_iff]
 simp
theorem fieldsEntE : Tryz.prog.underlying 66 = some (.struct (Tryz.prog.fieldsOf 66)) := by kernel_rfl
set_option maxRecDepth 30000 in
theorem eqEnt (a b : Ent) (ha : a.sum.length = 32) (hb : b.sum.length = 32) (w : World) : (Op.equalIn 10000 66 (.agg a.cells.toArray) (.agg b.cells.toArray)).run Tryz.prog w = .ok (decide (a = b)) w := by
 refine (run_equalIn_struct w 9999 _ _ _ fieldsEntE (by kernel_rfl)).trans ?_
 have hf := Option.some.inj (fieldsEntE.symm.trans Tryz.underlying66)
 injection hf with hf
 rw [hf]
 have h1 : ∀ c : Ent, c.sum.length = 32 → (part 60 c.cells.toArray 0).run Tryz.prog w = .ok (.agg (c.sum.map bv).toArray) w := fun c hc => by
  simp [part, isAgg, run_underlying Tryz.underlying60]
  exact List.take_left' (by rw [List.length_map, hc])
 have h2 : ∀ c : Ent, c.sum.length = 32 → (part 3 c.cells.toArray 32).run Tryz.prog w = .ok (.int .i64 c.pack) w := fun c hc => run_part1 Tryz.underlying3 rfl (by simp [Ent.cells, hc])
 have h3 : ∀ c : Ent, c.sum.length = 32 → (part 3 c.cells.toArray 33).run Tryz.prog w = .ok (.int .i64 c.pos) w := fun c hc => run_part1 Tryz.underlying3 rfl (by simp [Ent.cells, hc])
 have h4 : ∀ c : Ent, c.sum.length = 32 → (part 3 c.cells.toArray 34).run Tryz.prog w = .ok (.int .i64 c.len) w := fun c hc => run_part1 Tryz.underlying3 rfl (by simp [Ent.cells, hc])
 have e2 : (Op.equalIn 9999 3 (.int .i64 a.pack) (.int .i64 b.pack)).run Tryz.prog w = .ok (a.pack == b.pack) w := run_equalIn_int w 9998 3 .i64 .i64 _ _ Tryz.underlying3
 have e3 : (Op.equalIn 9999 3 (.int .i64 a.pos) (.int .i64 b.pos)).run Tryz.prog w = .ok (a.pos == b.pos) w := run_equalIn_int w 9998 3 .i64 .i64 _ _ Tryz.underlying3
 have e4 : (Op.equalIn 9999 3 (.int .i64 a.len) (.int .i64 b.len)).run Tryz.prog w = .ok (a.len == b.len) w := run_equalIn_int w 9998 3 .i64 .i64 _ _ Tryz.underlying3
 rw [← ent_decP]
 exact eqFields_cons (by decide) (h1 a ha) (h1 b hb) (eqSumE a.sum b.sum ha hb w) (fun _ => eqFields_cons (by decide) (h2 a ha) (h2 b hb) e2 (fun _ => eqFields_cons (by decide) (h3 a ha) (h3 b hb) e3 (fun _ => eqFields_one (by decide) (h4 a ha) (h4 b hb) e4)))
theorem X.eqEnt {l : Env} {x y : Operand} {w : World} {t' ty : TypeId} {a b : Ent} (ha : a.sum.length = 32) (hb : b.sum.length = 32) (hx : ev l x = some (.agg a.cells.toArray)) (hy : ev l y = some (.agg b.cells.toArray)) : X Tryz.prog l (.binOp .eql 66 x y t') ty w (.bool (decide (a = b))) w :=
 X.bin hx hy (fun c d => run_eqGuard_agg w .eql _ c d _ _ (by kernel_rfl)) (by rw [run_eql_struct, Go.Proofs.YtnlabkogebnioaaGreatDoor.eqEnt a b ha hb]; simp [Result.andThen])
theorem ent_sumR {w : World} {g : Nat} {t : TypeId} {e : Ent} (hB : Blk w g t e.cells.toArray) : w.rangeAt g 0 (e.sum.map bv) := fun j v hv => by
 rw [hB.cell, Nat.zero_add, List.getElem?_toArray, Ent.cells, List.getElem?_append_left (List.getElem?_eq_some_iff.1 hv).1]
 exact hv
end Go.Proofs.YtnlabkogebnioaaGreatDoor
namespace Go.Proofs.YtnlabkogebnioaaGreatDoor
open Go.RowKit Sha
def abcB : List UInt8 := [97, 98, 99]
theorem abc_ok : DOkC abcB := ⟨by decide, by decide⟩
theorem name7 : nameP 7 = [112, 97, 99, 107, 45, 48, 48, 48, 48, 48, 55] := by decide
def ent7 : Ent := ⟨sha abcB, 7, ((headB 7).length : Int), 3⟩
theorem ent7_sum : ent7.sum.length = 32 := sha_length _
theorem aw_begin : (pbeginM (newM 5000) 7).1 = 0 ∧ WrAt1 5000 7 [] (pbeginM (newM 5000) 7).2 ⟨7, [], false⟩ := ⟨(begin_lasts rfl (by omega)).1, WrAt1.begin rfl (by omega)⟩
theorem aw_add : (paddM (pbeginM (newM 5000) 7).2 ⟨7, [], false⟩ abcB).1 = (ent7, 0) ∧ WrAt1 5000 7 [abcB] (paddM (pbeginM (newM 5000) 7).2 ⟨7, [], false⟩ abcB).2.2 (paddM (pbeginM (newM 5000) 7).2 ⟨7, [], false⟩ abcB).2.1 := by
 have hl := headB_len 7
 obtain ⟨h1, h2⟩ := aw_begin.2.add (d := abcB) (by simp) abc_ok (by simp [chunksB]; omega)
 have e : (⟨sha abcB, 7, (((headB 7).length + (chunksB []).length : Nat) : Int), (abcB.length : Nat)⟩ : Ent) = ent7 := by
  unfold ent7
  rw [show (chunksB []).length = 0 from rfl, Nat.add_zero, show ((abcB.length : Nat) : Int) = 3 from rfl]
 rw [e] at h1
 rw [List.nil_append] at h2
 refine ⟨h1, ?_⟩
 exact h2
theorem aw_again {D : DiskD} {x : Wri} (h : WrAt1 5000 7 [abcB] D x) : paddM D x abcB = ((ent7, 16), x, D) := by
 obtain ⟨e, h1, h2, h3⟩ := h.there (d := abcB) (by simp) abc_ok
 rw [h.l] at h1
 have : findM (wents 7 (headB 7).length [abcB]) (sha abcB) = some ent7 := by
  have e : wents 7 (headB 7).length [abcB] = [ent7] := by
   unfold ent7
   rfl
  rw [e]
  unfold findM
  exact List.find?_cons_of_pos (decide_eq_true rfl)
 rw [this] at h1
 rw [h3, ← Option.some.inj h1]
theorem head_pos (n : Int) : 0 < (headB n).length := by
 unfold headB
 have h4 : (four n).length = 4 := four_length n
 rw [seal_length (by decide) (by omega), h4]
 omega
end Go.Proofs.YtnlabkogebnioaaGreatDoor
namespace Go.Proofs.YtnlabkogebnioaaGreatDoor
open Go.RowKit Sha
theorem WrAll.lts {B gd gw gx gm : Nat} {w : World} {D : DiskD} {x : Wri} {v : Value} {S : Nat → Prop} (h : WrAll B w gd gw gx gm D x v S) : ∀ k, S k ∨ WrT gw gx gm v k → k < w.heap.size := fun k hk => hk.elim (fun e => (h.wf.own.lo k e).2) (fun e => h.lt k e)
theorem WrAll.lo {B gd gw gx gm : Nat} {w : World} {D : DiskD} {x : Wri} {v : Value} {S : Nat → Prop} (h : WrAll B w gd gw gx gm D x v S) : ∀ k, S k ∨ WrT gw gx gm v k → B ≤ k := fun k hk => hk.elim (fun e => (h.wf.own.lo k e).1) (fun e => (h.wf.ap k e).2)
theorem WrAll.chg {B gd gw gx gm : Nat} {w w' : World} {D : DiskD} {x : Wri} {v : Value} {S T : Nat → Prop} (h : WrAll B w gd gw gx gm D x v S) (hC : Chg T w w') (hn : ∀ k, S k ∨ WrT gw gx gm v k → ¬ T k) : WrAll B w' gd gw gx gm D x v S :=
 ⟨h.blk.chg hC (hn _ (.inr (.inl rfl))), h.scn.chg hC (hn _ (.inr (.inr (.inl rfl)))) (hn _ (.inr (.inr (.inr (.inl rfl))))) (fun _ hk => hn _ (.inr (.inr (.inr (.inr hk))))), h.wf.chg hC (fun k hk => hn k (.inl hk))⟩
theorem WrPost.keep {B gd gw gx gm : Nat} {w0 w w' : World} {D D' : DiskD} {x x' : Wri} {v : Value} {S : Nat → Prop} (h : WrPost B w gd gw gx gm D' x' v S w') (hW : WrAll B w gd gw gx gm D x v S) (hb : Below w0.heap.size w0 w) (hB : w0.heap.size ≤ B) :
  ∃ v' S', WrAll B w' gd gw gx gm D' x' v' S' ∧ Below w0.heap.size w0 w' ∧ (∀ k, S' k → S k ∨ w.heap.size ≤ k) ∧ (∀ k, WrT gw gx gm v' k → WrT gw gx gm v k ∨ w.heap.size ≤ k) ∧ Chg (fun k => S k ∨ WrT gw gx gm v k) w w' ∧ w.heap.size ≤ w'.heap.size := by
 obtain ⟨v', S', h1, h2, h3, h4⟩ := h
 refine ⟨v', S', h1, bchg hb h4 ?_, h2, ?_, h4, h4.size⟩
 ·rintro k (hk | hk)
  ·have := (hW.wf.own.lo k hk).1; omega
  ·have := (hW.wf.ap k hk).2; omega
 ·rintro k (e | e | e | e)
  ·exact .inl (.inl e)
  ·exact .inl (.inr (.inl e))
  ·exact .inl (.inr (.inr (.inl e)))
  ·exact (h3 k e).imp (fun h => .inr (.inr (.inr h))) id
set_option maxRecDepth 10000 in
theorem pawake_any (w : World) (hT : PTabs w.heap.size w) : Calls Tryz.prog 9 #[] w fun e w' => e = .returned (.bool true) ∧ Below w.heap.size w w' := by
 have hz : ent7.cells.toArray.size = 35 := Ent.size ent7_sum
 have hone : ent7.cells.toArray.toList.all (·.oneCell') = true := Ent.cells_one ent7
 refine W_enter (args := []) 69 Tryz.func9 rfl rfl rfl ?_
 have hbw := Below.refl w.heap.size w
 refine W_rs (sa rfl rfl (Wn (tN (W_rs (sc _ Tryz.func16 rfl (by kernel_rfl) rfl rfl ((New_ok 5000 _ (by omega)).mono ?_))))))
 rintro e_ w1 ⟨g, S0, rfl, h0, hS0, hb⟩
 refine cR ?_
 replace hbw := bthen hbw hb
 replace hT := hT.bel hb
 have hz_w1 := hb.size
 clear hb
 have hd : Own w.heap.size w1 g (newM 5000) S0 := ⟨h0, fun k hk => by have := hS0 k hk; have := hbw.size; omega⟩
 clear h0 hS0
 refine sm rfl rfl (st (X.ext rfl rfl) rfl (st (X.ext rfl rfl) rfl (sa rfl rfl (sa rfl rfl (Wn (tN (W_rs (sm rfl rfl (sc _ Tryz.func25 rfl (by kernel_rfl) rfl rfl ((pbegin_any w.heap.size g (newM 5000) S0 7 0 _ hd (Good.new (by omega)) (by omega) hbw.size hT).mono ?_))))))))))
 rintro e_ w2 ⟨p, S1, rfl, hd1, hS1, hX, hpn, hps⟩
 refine cR ?_
 obtain ⟨gw, gx, gm, v, rfl, hW, hWo⟩ := hps aw_begin.1
 have hbwn := bchg hbw hX (fun k hk => (hd.lo k hk).1)
 replace hT := hT.chg hX (fun k hk => (hd.lo k hk).1)
 rw [aw_begin.1]
 clear hps hpn hWo hd1 hd hbw hX
 have hbw := hbwn
 clear hbwn
 have haw := aw_add
 have hg1 := pbegin_good (Good.new (n := 0) (l := 5000) (by omega)) 7
 obtain ⟨D1, hD1⟩ : ∃ D1, (pbeginM (newM 5000) 7).2 = D1 := ⟨_, rfl⟩
 rw [hD1] at hW haw hg1
 refine sm rfl rfl (st (X.ext rfl rfl) rfl (st (X.ext rfl rfl) rfl (sa rfl rfl (sa rfl rfl (Wn (tN (W_seq (W_rs (sm rfl rfl (st (X.neq rfl rfl) rfl ?_))))))))))
 refine sbN rfl (rfl) rfl (gY (g := 20) rfl rfl rfl (sm rfl rfl (gY (g := 20) rfl rfl rfl (st (X.neq rfl rfl) rfl (st (X.pickF rfl rfl) rfl (sbN rfl (rfl) rfl (gY (g := 24) rfl rfl rfl (sm rfl rfl (gY (g := 24) rfl rfl rfl (st (X.wEq rfl) rfl ?_))))))))))
 refine st (X.pickF rfl rfl) rfl (Wn (tN (W_no rfl (rfl) (W_skip (tN (W_rs (sm rfl rfl (sc _ Tryz.func26 rfl (by kernel_rfl) rfl rfl ((padd_any abcB 30 hW hg1 (by omega) hT (by decide) (by simp)).mono ?_)))))))))
 rintro e_ w3 ⟨rfl, hWP⟩
 refine cR ?_
 have hloT : ∀ k, S1 k ∨ WrT gw gx gm v k → w.heap.size ≤ k := fun k hk => hk.elim (fun h => (hW.wf.own.lo k h).1) (fun h => (hW.wf.ap k h).2)
 obtain ⟨v2, S2, hW2, hbwn, hS2, hv2, hX2, hz5⟩ := hWP.keep hW hbw (Nat.le_refl _)
 replace hT := hT.chg hX2 hloT
 clear hWP hW hbw hX2 hloT
 have hW := hW2
 have hbw := hbwn
 clear hW2 hbwn
 have hg2 := padd_good hg1 ⟨7, [], false⟩ abcB
 rw [haw.1]
 obtain ⟨r, hr⟩ : ∃ r, paddM D1 ⟨7, [], false⟩ abcB = r := ⟨_, rfl⟩
 rw [hr] at hW haw hg2
 have hag := aw_again haw.2
 refine sm rfl rfl (st (X.ext rfl rfl) rfl (st (X.ext rfl rfl) rfl ?_))
 have hq5 := hW.lts
 have hw5 := hbw.size
 refine salA inf66 rfl (fun g5 w4 hB5 hg5 hb hl5 => ?_)
 replace hbw := bthen hbw hb
 replace hT := hT.bel hb
 replace hW := hW.bel hb
 have hz_w4 := hb.size
 clear hb
 refine ssBN rfl rfl hB5 (by rw [hz]; exact siz66) (by rw [hz]; rfl) hone (fun w5 hB_ hc_ => ?_)
 replace hB5 := hB_
 replace hW := hW.chg hc_ (fun k hk => by show ¬ k = g5; have := hq5 k hk; omega)
 replace hT := hT.chg hc_ (fun k hk => by have h1 : k = g5 := hk; have := hbw.size; omega)
 replace hbw := bset hbw hc_ (by omega)
 have hz_w5 := hc_.size
 clear hB_ hc_
 refine sa rfl rfl (Wn (tN (W_rs (sm rfl rfl ?_))))
 have hn5 : ¬ (S2 g5 ∨ WrT gw gx gm v2 g5) := fun e => by have := hq5 _ e; omega
 refine sc _ Tryz.func26 rfl (by kernel_rfl) rfl rfl ((padd_any abcB 1130 hW hg2 (by omega) hT (by decide) (by rw [haw.2.l]; simp [wents])).mono ?_)
 rintro e_ w6 ⟨rfl, hWP⟩
 refine cR ?_
 have hloT := hW.lo
 obtain ⟨v3, S3, hW3, hbwn, hS3, hv3, hX2, hz6⟩ := hWP.keep hW hbw (Nat.le_refl _)
 replace hT := hT.chg hX2 hloT
 replace hB5 := hB5.chg hX2 hn5
 clear hWP hW hbw hX2 hloT
 have hbw := hbwn
 clear hW3 hbwn
 rw [hag]
 refine sm rfl rfl (st (X.ext rfl rfl) rfl (st (X.ext rfl rfl) rfl (salA inf66 rfl (fun g7 w7 hB7 hg7 hb hl7 => ?_))))
 replace hbw := bthen hbw hb
 replace hT := hT.bel hb
 replace hB5 := hB5.bel hb
 have hz_w7 := hb.size
 clear hb
 refine ssBN rfl rfl hB7 (by rw [hz]; exact siz66) (by rw [hz]; rfl) hone (fun w8 hB_ hc_ => ?_)
 replace hB7 := hB_
 replace hB5 := hB5.chg hc_ (by show ¬ g5 = g7; omega)
 replace hT := hT.chg hc_ (fun k hk => by have h1 : k = g7 := hk; have := hbw.size; omega)
 replace hbw := bset hbw hc_ (by omega)
 have hz_w8 := hc_.size
 clear hB_ hc_
 refine sa rfl rfl (Wn (tN (W_drsN (fun W_ => Blk W_ g5 66 ent7.cells.toArray ∧ Blk W_ g7 66 ent7.cells.toArray) [0, 1, 2, 3, 4, 5, 6, 7, 8, 9, 10, 11, 12, 13, 14, 15, 16, 17, 18, 19, 20, 21, 22, 23, 24, 25, 26, 27, 28, 29, 30, 31] [false, true, true, true, true, true, true, true, true, true, true, true, true, true, true, true, true, true, true, false, true, true, true, true, true, true, true, true, true, true, true, true] (by kernel_rfl) (by kernel_rfl) (⟨hB5.drew, hB7.drew⟩) ?_)))
 obtain ⟨w9, hw_⟩ : ∃ w9 : World, w9 = World.drew w8 := ⟨_, rfl⟩
 rw [← hw_]
 have hb : Below w8.heap.size w8 w9 := by rw [hw_]; exact bdrew (Below.refl _ _)
 clear hw_
 have hS := hb
 replace hbw := bthen hbw hb
 replace hT := hT.bel hb
 replace hB5 := hB5.bel hb
 replace hB7 := hB7.bel hb
 have hz_w9 := hb.size
 clear hb
 refine oL rfl (fun Q_ hQ_ hP_ => (sc _ Tryz.func21 rfl (by kernel_rfl) rfl rfl ((Name_p 7 _ hT.pow).mono ?_)))
 rintro e_ w10 ⟨rfl, hb⟩
 refine cR ?_
 replace hbw := bthen hbw hb
 replace hT := hT.bel hb
 replace hB5 := hB5.bel hb
 replace hB7 := hB7.bel hb
 have hz_w10 := hb.size
 clear hb
 refine Wn (hQ_ _ _ (⟨hB5, hB7⟩) ?_)
 clear hQ_ hP_ Q_
 rw [name7]
 refine oY rfl (fun W_ hW_ => (X.eqS rfl rfl)) rfl (oY rfl (fun W_ hW_ => (X.mvB (c := true) rfl (rfl))) rfl (oYg (g := 40) rfl rfl rfl rfl (fun W_ hW_ => (X.move rfl)) rfl (oYg (g := 40) rfl rfl rfl rfl (fun W_ hW_ => (X.eql rfl rfl)) rfl (oY rfl (fun W_ hW_ => (X.pickT rfl rfl)) rfl (oY rfl (fun W_ hW_ => (X.mvB (c := true) rfl (rfl))) rfl (oYg (g := 44) rfl rfl rfl rfl (fun W_ hW_ => (X.fa fa66_3 rfl)) rfl (oYg (g := 44) rfl rfl rfl rfl (fun W_ hW_ => (X.ldB rfl hW_.1 Tryz.underlying3 rfl (Ent.cell_ ent7_sum 2 _ rfl))) rfl (oYg (g := 44) rfl rfl rfl rfl (fun W_ hW_ => (X.eql rfl rfl)) rfl (oY rfl (fun W_ hW_ => (X.pickT rfl rfl)) rfl (oY rfl (fun W_ hW_ => (X.mvB (c := true) rfl (rfl))) rfl ?_))))))))))
 refine oYg (g := 49) rfl rfl rfl rfl (fun W_ hW_ => (X.fa fa66_2 rfl)) rfl (oYg (g := 49) rfl rfl rfl rfl (fun W_ hW_ => (X.ldB rfl hW_.1 Tryz.underlying3 rfl (Ent.cell_ ent7_sum 1 _ rfl))) rfl (oYg (g := 49) rfl rfl rfl rfl (fun W_ hW_ => (X.gtr rfl rfl)) rfl (oY rfl (fun W_ hW_ => (X.pickT rfl rfl)) rfl (oY rfl (fun W_ hW_ => (X.mvB (c := true) rfl (decide_eq_true (by show (0 : Int) < ((headB 7).length : Int); have := head_pos 7; omega)))) rfl ?_))))
 refine oYg (g := 54) rfl rfl rfl rfl (fun W_ hW_ => (X.fa fa66_0 rfl)) rfl (oYg (g := 54) rfl rfl rfl rfl (fun W_ hW_ => (X.ldN (cs := ent7.sum.map bv) rfl Tryz.underlying60 rfl (by rw [List.length_map, ent7_sum]; exact siz60) (ent_sumR hW_.1))) rfl ?_)
 refine oL rfl (fun Q_ hQ_ hP_ => (gY (g := 54) rfl rfl rfl (sc _ Tryz.func24 rfl (by kernel_rfl) rfl rfl ((Of_list abcB _ hT.sha (by decide)).mono ?_))))
 rintro e_ w11 ⟨rfl, hb⟩
 refine cR ?_
 replace hbw := bthen hbw hb
 replace hT := hT.bel hb
 replace hB5 := hB5.bel hb
 replace hB7 := hB7.bel hb
 have hz_w11 := hb.size
 clear hb
 refine Wn (hQ_ _ _ (⟨hB5, hB7⟩) ?_)
 clear hQ_ hP_ Q_
 refine oYg (g := 54) rfl rfl rfl rfl (fun W_ hW_ => (X.eqSumF ent7_sum (sha_length _) rfl rfl)) rfl (oY rfl (fun W_ hW_ => (X.pickT rfl rfl)) rfl (oY rfl (fun W_ hW_ => (X.mvB (c := true) rfl ((beq_self_eq_true (sha abcB))))) rfl (oYg (g := 60) rfl rfl rfl rfl (fun W_ hW_ => (X.move rfl)) rfl (oYg (g := 60) rfl rfl rfl rfl (fun W_ hW_ => (X.eql rfl rfl)) rfl (oY rfl (fun W_ hW_ => (X.pickT rfl rfl)) rfl (oY rfl (fun W_ hW_ => (X.mvB (c := true) rfl (rfl))) rfl (oYg (g := 64) rfl rfl rfl rfl (fun W_ hW_ => (X.ldBN rfl hW_.2 Tryz.underlying66 rfl (by rw [hz]; exact siz66))) rfl ?_)))))))
 refine oYg (g := 64) rfl rfl rfl rfl (fun W_ hW_ => (X.ldBN rfl hW_.1 Tryz.underlying66 rfl (by rw [hz]; exact siz66))) rfl ?_
 refine oYg (g := 64) rfl rfl rfl rfl (fun W_ hW_ => (X.eqEnt ent7_sum ent7_sum rfl rfl)) rfl (oY rfl (fun W_ hW_ => (X.pickT rfl rfl)) rfl (oY rfl (fun W_ hW_ => (X.assign rfl)) rfl (oN (nN (W_ret ?_)))))
 exact (rT rfl rfl ⟨by rw [decide_eq_true rfl], hbw⟩).1
end Go.Proofs.YtnlabkogebnioaaGreatDoor
namespace Go.Proofs.YtnlabkogebnioaaGreatDoor
open Go.RowKit Sha
theorem namedP_head {kind : List UInt8} {n : Int} (hn : rightP n = true) : namedP kind n = kind ++ six n.toNat := by unfold namedP; rw [if_pos hn]
theorem name_ne_new {n : Int} (hn : rightP n = true) : nameP n ≠ newP n := fun e => by
 unfold nameP newP idxP at e
 rw [namedP_head hn, namedP_head hn] at e
 have := congrArg List.head? e
 simp [packB, indexB] at this
section
variable {D : DiskD} {s all : List UInt8} {k : Key} {lim : Int}
theorem LastsAt.crashL (h : LastsAt D k lim s all) (picks : List Int) : ∃ p : Int, LastsAt (crashD D picks) k lim (s ++ all.take (p % ((all.length + 1 : Nat) : Int)).toNat) [] := by
 refine ⟨picks.head?.getD 0, ?_⟩
 have h1 := h.crash (picks.head?.getD 0)
 obtain ⟨f, hf, _⟩ := h.ex
 have e : crashD D picks = crashD D [picks.head?.getD 0] := by
  unfold crashD
  rw [hf]
  simp [crashAll]
 rw [e]
 exact h1
theorem LastsAt.sync0 (h : LastsAt D k lim s all) : (syncM D k).1 = 0 := by
 obtain ⟨f, hf, h1, h2, h3, h4⟩ := h.ex
 unfold syncM
 rw [h.op, fileM_some (f := f) (by rw [hf]; exact mget_one _ _)]
theorem LastsAt.other (h : LastsAt D k lim s all) {b : Key} (hb : b ≠ k) : mget D.files b = none := by
 obtain ⟨f, hf, _⟩ := h.ex
 rw [hf]
 exact if_neg hb
theorem crash_get : ∀ {m : List (Key × FileD)} (ks : List Int) {k : Key} {f : FileD}, mget m k = some f → f.pend = [] → mget (crashAll m ks) k = some ⟨f.last, f.last, []⟩
 | [], _, _, _, h, _ => by cases h
 | p :: m, ks, k, f, h, hp => by
  obtain ⟨a, u⟩ := p
  unfold mget at h
  unfold crashAll mget
  by_cases hk : k = a
  ·rw [if_pos hk] at h ⊢
   rw [Option.some.inj h]
   unfold crashM
   rw [hp]
   rfl
  ·rw [if_neg hk] at h ⊢
   exact crash_get ks.tail h hp
end
theorem popen_there {D : DiskD} {n : Int} {f : FileD} (hn : rightP n = true) (hf : mget D.files (nameP n) = some f) : popenM D n = scanP f.now n := by
 have e : preadM D (nameP n) = (f.now, 0) := by unfold preadM; rw [hf]
 unfold popenM
 rw [if_neg (by rw [hn]; decide), e]
 simp only
 rw [if_neg (by simp)]
theorem save_written {D : DiskD} {n : Int} {l : List Ent} {N : Nat} (hg : Good N D) (hs : D.stops = false) (hn : rightP n = true) (hnew : mget D.files (newP n) = none) (hr : D.used + ((encM l).length : Int) ≤ D.limit) (hl : encM l ≠ []) :
  (psaveM D n l).1 = 0 ∧ mget (psaveM D n l).2.files (idxP n) = some ⟨encM l, encM l, []⟩ ∧ (psaveM D n l).2.stops = false ∧ Good (N + (encM l).length + 3) (psaveM D n l).2 := by
 have hop : ∀ (E : DiskD) (c : DiskD → Int × DiskD), E.stops = false → opM E c = c E := by
  intro E c he
  unfold opM tickM
  rw [if_neg (by rw [he]; simp), if_neg (by rw [he]; simp)]
 have hgd := psave_good hg n l
 have h1 : removeM D (newP n) = (15, D) := by
  unfold removeM
  rw [hop]
  rotate_left
  ·exact hs
  unfold fileM
  rw [hnew]
 have h2 : createM D (newP n) = (0, { D with files := sput D.files (newP n) newFile }) := by
  unfold createM
  rw [hop]
  rotate_left
  ·exact hs
  show (if nameOk (newP n) = true then _ else _) = _
  rw [if_pos (new_ok hn), hnew]
  rfl
 have hr2 : (createM D (newP n)).2.files = sput D.files (newP n) newFile := by rw [h2]
 have hg2 := create_good hg (newP n)
 rw [h2] at hg2
 have e2 : mget (sput D.files (newP n) newFile) (newP n) = some newFile := by rw [mget_sput hg.ok.srt, if_pos rfl]
 have hmr : moreM newFile newFile.now.length (encM l) = (encM l).length := by simp [moreM, newFile]
 have h3 : appendM { D with files := sput D.files (newP n) newFile } (newP n) (encM l) = (0, { D with files := sput (sput D.files (newP n) newFile) (newP n) (laidM newFile 0 (encM l)), used := D.used + (encM l).length }) := by
  unfold appendM
  rw [hop]
  rotate_left
  ·exact hs
  rw [fileM_some (f := newFile) e2]
  unfold putM
  rw [if_neg hl, if_neg (by rw [hmr]; show ¬ (D.limit < D.used + _); omega), hmr]
  rfl
 have hg3 := append_good hg2 (newP n) (encM l)
 rw [h3] at hg3
 have e3 : mget (sput (sput D.files (newP n) newFile) (newP n) (laidM newFile 0 (encM l))) (newP n) = some (laidM newFile 0 (encM l)) := by rw [mget_sput hg2.ok.srt, if_pos rfl]
 have e3n : (laidM newFile 0 (encM l)).now = encM l := by simp [laidM, newFile, overM]
 have h4 : syncM { D with files := sput (sput D.files (newP n) newFile) (newP n) (laidM newFile 0 (encM l)), used := D.used + (encM l).length } (newP n) = (0, { D with files := sput (sput (sput D.files (newP n) newFile) (newP n) (laidM newFile 0 (encM l))) (newP n) (lastsM (laidM newFile 0 (encM l))), used := D.used + (encM l).length }) := by
  unfold syncM
  rw [hop]
  rotate_left
  ·exact hs
  rw [fileM_some e3]
 have hg4 := sync_good hg3 (newP n)
 rw [h4] at hg4
 have e4 : mget (sput (sput (sput D.files (newP n) newFile) (newP n) (laidM newFile 0 (encM l))) (newP n) (lastsM (laidM newFile 0 (encM l)))) (newP n) = some (lastsM (laidM newFile 0 (encM l))) := by rw [mget_sput hg3.ok.srt, if_pos rfl]
 have e5 : lastsM (laidM newFile 0 (encM l)) = ⟨encM l, encM l, []⟩ := by unfold lastsM; rw [e3n]
 have hps : psaveM D n l = renameM { D with files := sput (sput (sput D.files (newP n) newFile) (newP n) (laidM newFile 0 (encM l))) (newP n) (lastsM (laidM newFile 0 (encM l))), used := D.used + (encM l).length } (newP n) (idxP n) := by
  unfold psaveM
  rw [if_neg (by rw [hn]; decide), h1]
  simp only
  rw [h2]
  simp only
  rw [if_neg (by decide), h3]
  simp only
  rw [if_neg (by decide), h4]
 have hrn : ∃ u, psaveM D n l = (0, { D with files := sput (mdel (sput (sput (sput D.files (newP n) newFile) (newP n) (laidM newFile 0 (encM l))) (newP n) (lastsM (laidM newFile 0 (encM l)))) (newP n)) (idxP n) (lastsM (laidM newFile 0 (encM l))), used := u }) := by
  rw [hps]
  unfold renameM
  rw [hop]
  rotate_left
  ·exact hs
  rw [if_pos (idx_ok hn), fileM_some e4, if_neg (new_ne_idx n)]
  exact ⟨_, rfl⟩
 obtain ⟨u, hu⟩ := hrn
 refine ⟨by rw [hu], ?_, by rw [hu]; exact hs, hgd⟩
 rw [hu]
 show mget (sput (mdel _ _) (idxP n) _) (idxP n) = _
 rw [mget_sput (hg4.ok.srt.del _), if_pos rfl, e5]
theorem wents_fit {n : Int} (hn : rightP n = true) {l : List (List UInt8)} {p : Nat} (h : p + (chunksB l).length ≤ 1048576) (hl : ∀ d ∈ l, DOkC d) : (wents n p l).all fitE = true := by
 refine List.all_eq_true.2 fun e he => ?_
 obtain ⟨a, d, c, rfl, rfl⟩ := wents_at he
 have hd := (hl d (by simp)).2
 have h2 : (chunksB a).length ≤ (chunksB (a ++ d :: c)).length := by simp [chunksB]
 unfold rightP at hn
 rw [decide_eq_true_eq] at hn
 unfold fitE fitN
 simp only [Bool.and_eq_true, decide_eq_true_eq]
 omega
theorem wents_S32 (n : Int) (p : Nat) (l : List (List UInt8)) : S32 (wents n p l) := fun e he => by
 obtain ⟨a, d, c, _, rfl⟩ := wents_at he
 exact sha_length d
section
variable {n : Int} {ds : List (List UInt8)} {D : DiskD} {x : Wri}
theorem WrAt1.make (h : WrAt1 1048576 n ds D x) (hn : rightP n = true) (hr : (headB n ++ chunksB ds).length ≤ 40000) : makeM x.l = ((makeM x.l).1, 0) ∧ (makeM x.l).1.length = ds.length ∧ S32 x.l ∧ x.l.length = ds.length ∧ ds.length ≤ 40000 := by
 have hge := chunksB_ge h.ok
 rw [List.length_append] at hr
 have h1 : x.l.length = ds.length := by rw [h.l, wents_length]
 have h2 : x.l.all fitE = true := by rw [h.l]; exact wents_fit hn (by omega) h.ok
 have h3 : (x.l.map (·.sum)).Nodup := by rw [h.l, wents_sums]; exact h.nd
 have h4 : makeM x.l = (ordM x.l, 0) := by
  unfold makeM
  rw [if_neg (by omega), if_neg (by rw [h2]; simp), if_pos h3]
 rw [h4]
 exact ⟨rfl, by rw [(ordM_perm x.l).length_eq, h1], by rw [h.l]; exact wents_S32 _ _ _, h1, by omega⟩
theorem WrAt1.close (h : WrAt1 1048576 n ds D x) (_hn : rightP n = true) (hr : (headB n ++ chunksB ds).length ≤ 40000) :
  (pcloseM D x).1 = ((makeM x.l).1, 0) ∧ LastsAt (pcloseM D x).2.2 (nameP n) 1048576 (headB n ++ (chunksB ds ++ footB x.l)) [] := by
 have hfl := footB_len x.l
 obtain ⟨h1, h2⟩ := h.d.append (d := footB x.l) (by simp only [List.nil_append]; omega)
 have h3 := h2.sync0
 have h4 := h2.sync
 unfold pcloseM
 rw [h.num, if_neg (by rw [h.closed]; simp), if_neg (by rw [h1]; simp), if_neg (by rw [h3]; simp)]
 refine ⟨rfl, ?_⟩
 rw [List.nil_append, List.append_assoc] at h4
 exact h4
theorem closed_open {D' : DiskD} (hn : rightP n = true) (h : LastsAt D' (nameP n) 1048576 (headB n ++ (chunksB ds ++ footB x.l)) []) (hx : x.l = wents n (headB n).length ds) (hok : ∀ d ∈ ds, DOkC d) (hnd : (ds.map sha).Nodup) :
  popenM D' n = (⟨x.l, (headB n).length + (chunksB ds).length + (footB x.l).length, true⟩, 0) := by
 obtain ⟨f, hf, hfn⟩ := h.file
 rw [popen_there hn hf, hfn, List.append_nil]
 have := scan_closed (t := []) (m := x.l) hn hok hnd (by rw [hx, wents_length])
 rw [List.append_nil] at this
 rw [this, ← hx]
theorem closed_get {D' : DiskD} {d : List UInt8} (h : LastsAt D' (nameP n) 1048576 (headB n ++ (chunksB ds ++ footB x.l)) []) (hx : x.l = wents n (headB n).length ds) (hok : ∀ d ∈ ds, DOkC d) (hd : sha d ∈ ds.map sha) :
  (pgetM D' n x.l (sha d)).2 = 0 ∧ sha (pgetM D' n x.l (sha d)).1 = sha d := by
 obtain ⟨f, hf, hfn⟩ := h.file
 rw [List.append_nil] at hfn
 obtain ⟨c, _, hc, hg⟩ := get_written hf hfn hok hd
 rw [← hx] at hg
 rw [hg]
 exact ⟨rfl, hc⟩
theorem encM_ne {l : List Ent} (h : S32 l) : encM l ≠ [] := fun e => by
 have := encM_length h
 rw [e] at this
 simp only [List.length_nil] at this
 omega
theorem closed_rebuild {D' : DiskD} {N : Nat} (hW : WrAt1 1048576 n ds D x) (hn : rightP n = true) (hr : (headB n ++ chunksB ds).length ≤ 40000) (h30 : ds.length ≤ 30) (hg : Good N D') (h : LastsAt D' (nameP n) 1048576 (headB n ++ (chunksB ds ++ footB x.l)) []) (ks : List Int) :
  (prebuildM D' n).1 = ((makeM x.l).1, 0) ∧ ploadM (crashD (prebuildM D' n).2 ks) n = ((makeM x.l).1, 0) ∧ Good (N + 3000) (prebuildM D' n).2 ∧ (∀ f, mget (crashD (prebuildM D' n).2 ks).files (idxP n) = some f → f.now.length < 10000000) := by
 obtain ⟨m1, m2, m3, m4, m5⟩ := hW.make hn hr
 have hfl := footB_len x.l
 have m6 := make_S32 m3
 have m7 := encM_length m6
 have hop := closed_open hn h hW.l hW.ok hW.nd
 have hus := h.used
 obtain ⟨s1, s2, s3, s4⟩ := save_written (l := (makeM x.l).1) hg h.stops hn (h.other (name_ne_new hn).symm) (by
  rw [hus, h.limit, m7, m2]
  rw [List.length_append] at hr
  simp only [List.length_append, List.length_nil]
  omega) (encM_ne m6)
 have e : prebuildM D' n = (((makeM x.l).1, 0), (psaveM D' n (makeM x.l).1).2) := by
  unfold prebuildM
  rw [hop]
  simp only
  rw [if_neg (by decide), if_neg (by rw [s1]; decide)]
 have hc := crash_get ks s2 rfl
 have hc : mget (crashD (psaveM D' n (makeM x.l).1).2 ks).files (idxP n) = some ⟨encM (makeM x.l).1, encM (makeM x.l).1, []⟩ := hc
 rw [e]
 refine ⟨rfl, ?_, s4.mono (by omega), ?_⟩
 ·have hp : preadM (crashD (psaveM D' n (makeM x.l).1).2 ks) (idxP n) = (encM (makeM x.l).1, 0) := by unfold preadM; rw [hc]
  unfold ploadM
  rw [if_neg (by rw [hn]; decide), hp]
  simp only
  rw [if_neg (by simp)]
  exact dec_enc m6 (List.all_eq_true.2 fun _ h => make_fit h) (by omega) (make_up _)
 ·intro f hf
  rw [show mget (crashD (((makeM x.l).1, 0), (psaveM D' n (makeM x.l).1).2).2 ks).files (idxP n) = _ from hc] at hf
  rw [← Option.some.inj hf]
  show (encM (makeM x.l).1).length < _
  omega
end
end Go.Proofs.YtnlabkogebnioaaGreatDoor
namespace Go.Proofs.YtnlabkogebnioaaGreatDoor
open Go.RowKit Sha
def fewD (d : List UInt8) : Bool := decide (d.length ≤ 1100)
def fewP (l : List (List UInt8)) : Bool := decide (l.length ≤ 30) && l.all fewD
theorem fewP_next {l : List (List UInt8)} {i : Nat} {d : List UInt8} (hd : l[i]? = some d) (hp : (l.take i).all fewD = true) (hf : fewD d = true) : (l.take (i + 1)).all fewD = true := by
 rw [List.take_add_one, hd, List.all_append, hp]
 simp [hf]
theorem fewP_at {l : List (List UInt8)} {i : Nat} {d : List UInt8} (hd : l[i]? = some d) (hf : fewD d = false) : l.all fewD = false := by
 rw [List.all_eq_false]
 exact ⟨d, List.mem_of_getElem? hd, by rw [hf]; simp⟩
theorem few_any (v : Value) (l : List (List UInt8)) (w : World) (hL : Reads w 1 v l.length (l.map str)) : Calls Tryz.prog 15 #[v] w fun e w' => e = .returned (.bool (fewP l)) ∧ Below w.heap.size w w' := by
 obtain ⟨a, c, rfl, hc1, hc2⟩ := hL.shape
 have hnn := hL.nle
 refine W_enter (args := [.slice a l.length c]) 19 Tryz.func15 rfl rfl rfl (W_sub [(0, .slice a l.length c)] ?_ ⟨rfl, trivial⟩)
 have hbw := Below.refl w.heap.size w
 refine W_rs (sa rfl rfl (Wn (tN (W_seq (W_rs (sm rfl rfl (st (X.lenL rfl rfl Tryz.underlying38) rfl (st (X.gtr rfl rfl) rfl (Wn (tN ?_))))))))))
 refine W_if rfl (fun h6 => ?_) (fun h6 => ?_)
 ·first | replace h6 := of_decide_eq_true h6 | replace h6 := of_decide_eq_false (notT h6) | replace h6 := notT h6 | skip
  refine W_rs (sa rfl rfl (Wn (tN (W_ret (tR ((rT rfl rfl ⟨?_, hbw⟩).1))))))
  unfold fewP
  rw [decide_eq_false (by omega), Bool.false_and]
 ·first | replace h6 := of_decide_eq_false h6 | replace h6 := of_decide_eq_true (notF h6) | replace h6 := notF h6 | skip
  refine W_skip (tN (W_seq (W_rs (sa rfl rfl (Wn (tN (W_block (W_lp (fun nw1_ lw1_ w1 => ∃ i : Nat, nw1_ = l.length - i ∧ lw1_ = ([(0, .slice a l.length c), (3, .int .i64 i)] : Env) ∧ (i ≤ l.length) ∧ (Below w.heap.size w w1) ∧ ((l.take i).all fewD = true)) _ ⟨_, ⟨0, rfl, rfl, Nat.zero_le _, hbw, rfl⟩, ⟨rfl, rfl, trivial⟩⟩ ?_))))))))
  clear hbw
  rintro nw1_ lw1_ w1 ⟨i, rfl, rfl, hi, hbw, hp⟩
  have hz_w1 := hbw.size
  refine W_seq (W_rs (sm rfl rfl (sm rfl rfl (st (X.lenL rfl rfl Tryz.underlying38) rfl (st (X.lss rfl rfl) rfl (Wn (tN (W_if rfl (fun h10 => ?_) (fun h10 => ?_)))))))))
  ·first | replace h10 := of_decide_eq_true h10 | replace h10 := of_decide_eq_false (notT h10) | replace h10 := notT h10 | skip
   obtain ⟨x, hx⟩ : ∃ x, l[i]? = some x := ⟨_, List.getElem?_eq_getElem (by omega)⟩
   have hux : (l.map str)[i]? = some (str x) := by rw [List.getElem?_map, hx]; rfl
   obtain ⟨g1, o1, c', hv, hg1⟩ := hL.some_ (by omega)
   injection hv with e1 _ e3
   subst e1 e3
   refine W_skip (tN (W_seq (W_block (W_rs (sm rfl rfl (sm rfl rfl (st (X.idxA rfl rfl Tryz.underlying38 siz9 rfl (by omega)) rfl (st (X.ld rfl Tryz.underlying9 rfl (by rw [Nat.mul_one]; exact (hL.bel hbw).cellAt (by omega) hux)) rfl ?_))))))))
   refine st (X.lenS rfl rfl Tryz.underlying9) rfl (st (X.gtr rfl rfl) rfl (Wn (tN (W_if rfl (fun h18 => ?_) (fun h18 => ?_)))))
   ·first | replace h18 := of_decide_eq_true h18 | replace h18 := of_decide_eq_false (notT h18) | replace h18 := notT h18 | skip
    refine W_rs (sa rfl rfl (Wn (tN (W_ret (bR (tR (tR (bR (tR ((rT rfl rfl ⟨?_, hbw⟩).1))))))))))
    unfold fewP
    rw [fewP_at hx (by unfold fewD; exact decide_eq_false (by omega)), Bool.and_false]
   ·first | replace h18 := of_decide_eq_false h18 | replace h18 := of_decide_eq_true (notF h18) | replace h18 := notF h18 | skip
    refine W_skip (bN (tN (W_reg (sm rfl rfl (st (X.add64 rfl rfl (by omega)) rfl (sa rfl rfl (Wn (tN ⟨_, _, ?_, ⟨i + 1, rfl, rfl, by omega, hbw, fewP_next hx hp (by unfold fewD; exact decide_eq_true (by omega))⟩, ⟨rfl, rfl, trivial⟩⟩))))))))
    omega
  ·first | replace h10 := of_decide_eq_false h10 | replace h10 := of_decide_eq_true (notF h10) | replace h10 := notF h10 | skip
   obtain rfl : i = l.length := by omega
   refine W_exit (tE (tE (bH (tN (W_rs (sa rfl rfl (Wn (tN (W_ret ((rT rfl rfl ⟨?_, hbw⟩).1))))))))))
   unfold fewP
   rw [List.take_length] at hp
   rw [hp, decide_eq_true (by omega), Bool.and_self]
theorem fewP_true {l : List (List UInt8)} (h : fewP l = true) : l.length ≤ 30 ∧ ∀ d ∈ l, d.length ≤ 1100 := by
 unfold fewP at h
 rw [Bool.and_eq_true, decide_eq_true_eq, List.all_eq_true] at h
 refine ⟨h.1, fun d hd => ?_⟩
 have := h.2 d hd
 unfold fewD at this
 simpa using this
def sumsC (l : List (List UInt8)) : List Value := l.flatMap fun a => a.map bv
theorem sumsC_snoc (l : List (List UInt8)) (a : List UInt8) : sumsC (l ++ [a]) = sumsC l ++ a.map bv := by simp [sumsC]
theorem padd_sum32 {D : DiskD} {x : Wri} {d : List UInt8} (h : S32 x.l) : (paddM D x d).1.1.sum.length = 32 ∧ S32 (paddM D x d).2.1.l := by
 unfold paddM
 split
 ·exact ⟨by simp [eZ], h⟩
 split
 ·exact ⟨by simp [eZ], h⟩
 split
 ·rename_i e he
  exact ⟨h e (List.mem_of_find?_eq_some he), h⟩
 split
 ·exact ⟨by simp [eZ], h⟩
 split
 ·exact ⟨by simp [eZ], h⟩
 ·refine ⟨sha_length d, fun e he => ?_⟩
  rcases List.mem_append.1 he with he | he
  ·exact h e he
  ·rw [List.mem_singleton.1 he]; exact sha_length d
theorem padd_len (D : DiskD) (x : Wri) (d : List UInt8) : (paddM D x d).2.1.l.length ≤ x.l.length + 1 := by
 obtain ⟨_, h1, h2⟩ := padd_l D x d
 by_cases h : (paddM D x d).1.2 = 0
 ·rw [(h1 h).1, List.length_append, List.length_singleton]
  exact Nat.le_refl _
 ·rw [h2 h]; omega
theorem addsM_len : ∀ (l : List (List UInt8)) (D : DiskD) (x : Wri), (addsM D x l).1.l.length ≤ x.l.length + l.length ∧ (addsM D x l).1.n = x.n
 | [], _, _ => ⟨Nat.le_refl _, rfl⟩
 | d :: l, D, x => by
  have h1 := padd_len D x d
  have h2 := addsM_len l (paddM D x d).2.2 (paddM D x d).2.1
  rw [addsM]
  refine ⟨by simp only [List.length_cons]; omega, h2.2.trans (padd_l D x d).1⟩
theorem addsM_good : ∀ (l : List (List UInt8)) {D : DiskD} (x : Wri) {n : Nat}, Good n D → Good (n + 1100 * l.length) (addsM D x l).2
 | [], _, _, _, h => h
 | d :: l, D, x, n, h => by
  have h1 := padd_good h x d
  have h2 := addsM_good l (paddM D x d).2.1 h1
  rw [addsM]
  exact h2.mono (by simp only [List.length_cons]; omega)
theorem addsM_take {D : DiskD} {x : Wri} {l : List (List UInt8)} {i : Nat} {d : List UInt8} (hd : l[i]? = some d) : addsM D x (l.take (i + 1)) = (paddM (addsM D x (l.take i)).2 (addsM D x (l.take i)).1 d).2 := by
 rw [List.take_add_one, hd]
 exact addsM_snoc d _ _ _
structure AddSt (B q : Nat) (S0 : Nat → Prop) (w : World) (gd gw gx gm : Nat) (D : DiskD) (x : Wri) (v : Value) (S : Nat → Prop) (u : Value) (sums : List (List UInt8)) : Prop where
  all : WrAll B w gd gw gx gm D x v S
  row : Row w 60 32 u sums.length (sumsC sums)
  ap : ∀ k, u.ownBlock = some k → ¬ (S k ∨ WrT gw gx gm v k) ∧ q ≤ k
  lo : ∀ k, WrT gw gx gm v k → q ≤ k
  sub : ∀ k, S k → S0 k ∨ q ≤ k
section
variable {B q gd gw gx gm : Nat} {w w' : World} {D D' : DiskD} {x x' : Wri} {v u u' : Value} {S S0 T : Nat → Prop} {sums : List (List UInt8)}
theorem AddSt.step (h : AddSt B q S0 w gd gw gx gm D x v S u sums) (hp : WrPost B w gd gw gx gm D' x' v S w') (hq : q ≤ w.heap.size) : ∃ v' S', AddSt B q S0 w' gd gw gx gm D' x' v' S' u sums ∧ Chg (fun k => S k ∨ WrT gw gx gm v k) w w' := by
 obtain ⟨v', S', h1, h2, h3, h4⟩ := hp
 have hlt := rowLt h.row
 have hT : ∀ k, WrT gw gx gm v' k → WrT gw gx gm v k ∨ w.heap.size ≤ k := by
  rintro k (e | e | e | e)
  ·exact .inl (.inl e)
  ·exact .inl (.inr (.inl e))
  ·exact .inl (.inr (.inr (.inl e)))
  ·exact (h3 k e).imp (fun h => .inr (.inr (.inr h))) id
 refine ⟨v', S', ⟨h1, h.row.chg h4 (fun k hk => (h.ap k hk).1), fun k hk => ⟨?_, (h.ap k hk).2⟩, fun k hk => (hT k hk).elim (h.lo k) (fun e => by omega), fun k hk => (h2 k hk).elim (h.sub k) (fun e => .inr (by omega))⟩, h4⟩
 have := hlt k hk
 rintro (e | e)
 ·exact (h2 k e).elim (fun e => (h.ap k hk).1 (.inl e)) (fun e => by omega)
 ·exact (hT k e).elim (fun e => (h.ap k hk).1 (.inr e)) (fun e => by omega)
theorem AddSt.chg (h : AddSt B q S0 w gd gw gx gm D x v S u sums) (hC : Chg T w w') (h1 : ∀ k, S k ∨ WrT gw gx gm v k → ¬ T k) (h2 : ∀ k, u.ownBlock = some k → ¬ T k) : AddSt B q S0 w' gd gw gx gm D x v S u sums :=
 ⟨h.all.chg hC h1, h.row.chg hC h2, h.ap, h.lo, h.sub⟩
theorem AddSt.bel (h : AddSt B q S0 w gd gw gx gm D x v S u sums) (hb : Below w.heap.size w w') : AddSt B q S0 w' gd gw gx gm D x v S u sums :=
 ⟨h.all.bel hb, h.row.bel hb, h.ap, h.lo, h.sub⟩
theorem AddSt.app (h : AddSt B q S0 w gd gw gx gm D x v S u sums) {a : List UInt8} (hR : Row w' 60 32 u' (sums.length + 1) (sumsC sums ++ a.map bv)) (hC : Chg (fun k => u.ownBlock = some k) w w') (hv : u'.ownBlock = u.ownBlock ∨ u'.ownBlock = some w.heap.size) (hq : q ≤ w.heap.size) : AddSt B q S0 w' gd gw gx gm D x v S u' (sums ++ [a]) := by
 have hlt := h.all.lts
 refine ⟨h.all.chg hC (fun k hk e => (h.ap k e).1 hk), ?_, fun k hk => ?_, h.lo, h.sub⟩
 ·rw [List.length_append, List.length_singleton, sumsC_snoc]
  exact hR
 ·rcases hv with hv | hv
  ·exact h.ap k (hv ▸ hk)
  ·rw [hv] at hk
   obtain rfl := Option.some.inj hk
   exact ⟨fun e => by have := hlt _ e; omega, hq⟩
theorem AddSt.lts (h : AddSt B q S0 w gd gw gx gm D x v S u sums) : ∀ k, (S k ∨ WrT gw gx gm v k) ∨ u.ownBlock = some k → k < w.heap.size := fun k hk => hk.elim (h.all.lts k) (rowLt h.row k)
theorem AddSt.los (h : AddSt B q S0 w gd gw gx gm D x v S u sums) : ∀ k, S k ∨ WrT gw gx gm v k → S0 k ∨ q ≤ k := fun k hk => hk.elim (h.sub k) (fun e => .inr (h.lo k e))
end
theorem AddSt.size {B q gd gw gx gm : Nat} {w : World} {D : DiskD} {x : Wri} {v u : Value} {S S0 : Nat → Prop} {sums : List (List UInt8)} (h : AddSt B q S0 w gd gw gx gm D x v S u sums) : S32 x.l := h.all.scn.s32
set_option maxRecDepth 10000 in
theorem added_any (B gd : Nat) (D : DiskD) (S0 : Nat → Prop) (n : Int) (N : Nat) (w : World) (va : Value) (l : List (List UInt8)) (hd : Own B w gd D S0) (hg : Good N D) (hN : N ≤ 1000000) (hBw : B ≤ w.heap.size) (hT : PTabs B w) (hL : Reads w 1 va l.length (l.map str)) (hLS : 0 < l.length → ∀ k, va.ownBlock = some k → ¬ S0 k)
  (hl : l.length ≤ 30) (hlen : ∀ d ∈ l, d.length ≤ 1100) (h0 : (pbeginM D n).1 = 0) (D1 : DiskD) (hD1 : (pbeginM D n).2 = D1) :
  Calls Tryz.prog 17 #[.pointer (some ⟨gd, 0, none⟩), .int .i64 n, va] w fun e w' => ∃ gw gx gm v S u, e = .returned (.tuple #[.pointer (some ⟨gw, 0, none⟩), u, .bool true]) ∧ AddSt B w.heap.size S0 w' gd gw gx gm (addsM D1 ⟨n, [], false⟩ l).2 (addsM D1 ⟨n, [], false⟩ l).1 v S u ((addsM D1 ⟨n, [], false⟩ l).1.l.map (·.sum)) ∧ PTabs B w' ∧ Chg S0 w w' := by
 have hgb : Good (N + 30) D1 := by rw [← hD1]; exact pbegin_good hg n
 obtain ⟨a, c, rfl, hc1, hc2⟩ := hL.shape
 have hnn := hL.nle
 refine W_enter (args := [.pointer (some ⟨gd, 0, none⟩), .int .i64 n, .slice a l.length c]) 75 Tryz.func17 rfl rfl rfl (W_sub [(0, .pointer (some ⟨gd, 0, none⟩)), (1, .int .i64 n), (2, .slice a l.length c)] ?_ ⟨rfl, rfl, rfl, trivial⟩)
 have hcw := Chg.refl (S0) w
 refine W_rs (sa rfl rfl (sa rfl rfl (sa rfl rfl (Wn (tN (W_rs (sm rfl rfl (sm rfl rfl (sc _ Tryz.func25 rfl (by kernel_rfl) rfl rfl ((pbegin_any B gd D S0 n N _ hd hg (by omega) (Nat.le_trans hBw hcw.size) hT).mono ?_))))))))))
 rintro e_ w1 ⟨p, S1, rfl, hd1, hS1, hX, hpn, hps⟩
 refine cR ?_
 obtain ⟨gw, gx, gm, v, rfl, hW, hWo⟩ := hps h0
 replace hT := hT.chg hX (fun k hk => (hd.lo k hk).1)
 replace hcw := hcw.next hX (fun i hi => .inl hi)
 rw [h0]
 rw [hD1] at hW
 have hA : AddSt B w.heap.size S0 _ gd gw gx gm D1 ⟨n, [], false⟩ v S1 (.slice none 0 0) [] := ⟨hW, Row.nil _ _ _, fun k hk => by simp [Value.ownBlock] at hk, fun k hk => by have := hWo k hk; omega, fun k hk => (hS1 k hk).imp id (fun e => by omega)⟩
 clear hps hpn hWo hd1 hW hX
 refine sm rfl rfl (st (X.ext rfl rfl) rfl (st (X.ext rfl rfl) rfl (sa rfl rfl (sa rfl rfl (Wn (tN (W_seq (W_rs (sm rfl rfl (st (X.neq rfl rfl) rfl ?_))))))))))
 refine sbN rfl (rfl) rfl (gY (g := 23) rfl rfl rfl (sm rfl rfl (gY (g := 23) rfl rfl rfl (st (X.wEq rfl) rfl (st (X.pickF rfl rfl) rfl (Wn (tN (W_no rfl (rfl) (W_skip (tN ?_))))))))))
 refine W_rs (sa rfl rfl (Wn (tN (W_seq (W_rs (sa rfl rfl (Wn (tN (W_block (W_lp (fun nw2_ lw2_ w2 => ∃ j : Nat, ∃ v : Value, ∃ S1 : Nat → Prop, ∃ u : Value, nw2_ = l.length - j ∧ lw2_ = ([(1, .int .i64 n), (2, .slice a l.length c), (9, .pointer (some ⟨gw, 0, none⟩)), (11, u), (12, .int .i64 j)] : Env) ∧ (AddSt B w.heap.size S0 w2 gd gw gx gm (addsM D1 ⟨n, [], false⟩ (l.take j)).2 (addsM D1 ⟨n, [], false⟩ (l.take j)).1 v S1 u ((addsM D1 ⟨n, [], false⟩ (l.take j)).1.l.map (·.sum))) ∧ (PTabs B w2) ∧ (j ≤ l.length) ∧ (Chg S0 w w2)) _ ⟨_, ⟨0, v, S1, .slice none 0 0, rfl, rfl, hA, hT, Nat.zero_le _, hcw⟩, ⟨rfl, rfl, rfl, rfl, rfl, trivial⟩⟩ ?_))))))))))
 clear hA hT hcw
 rintro nw2_ lw2_ w2 ⟨j, v, S1, u, rfl, rfl, hA, hT, hj, hcw⟩
 refine W_seq (W_rs (sm rfl rfl (sm rfl rfl (st (X.lenL rfl rfl Tryz.underlying38) rfl (st (X.lss rfl rfl) rfl (Wn (tN (W_if rfl (fun h30 => ?_) (fun h30 => ?_)))))))))
 ·first | replace h30 := of_decide_eq_true h30 | replace h30 := of_decide_eq_false (notT h30) | replace h30 := notT h30 | skip
  obtain ⟨d, hd_⟩ : ∃ d, l[j]? = some d := ⟨_, List.getElem?_eq_getElem (by omega)⟩
  have hux : (l.map str)[j]? = some (str d) := by rw [List.getElem?_map, hd_]; rfl
  obtain ⟨g1, o1, c', hv, hg1⟩ := hL.some_ (by omega)
  injection hv with e1 _ e3
  subst e1 e3
  have hdl := hlen d (List.mem_of_getElem? hd_)
  have hgj := addsM_good (l.take j) ⟨n, [], false⟩ hgb
  have hnl := addsM_len (l.take j) D1 ⟨n, [], false⟩
  have htk : (l.take j).length = j := by rw [List.length_take]; omega
  have hnx := addsM_take (D := D1) (x := ⟨n, [], false⟩) hd_
  rw [htk] at hgj hnl
  obtain ⟨y, hy⟩ : ∃ y, addsM D1 ⟨n, [], false⟩ (l.take j) = y := ⟨_, rfl⟩
  rw [hy] at hA hgj hnl hnx
  refine W_skip (tN (W_seq (W_block (W_rs (sm rfl rfl (sm rfl rfl (sm rfl rfl (st (X.idxA rfl rfl Tryz.underlying38 siz9 rfl (by omega)) rfl (st (X.ld rfl Tryz.underlying9 rfl (by rw [Nat.mul_one]; exact (hL.chgS hcw hLS).cellAt (by omega) hux)) rfl ?_)))))))))
  refine sc _ Tryz.func26 rfl (by kernel_rfl) rfl rfl ((padd_any d (N + 30 + 1100 * j) hA.all hgj (by omega) hT (by omega) (by have := hnl.1; simp at this; omega)).mono ?_)
  rintro e_ w3 ⟨rfl, hWP⟩
  refine cR ?_
  have hA0 := hA
  obtain ⟨v2, S2, hA2, hX⟩ := hA.step hWP (by have := hcw.size; omega)
  have hp32 := padd_sum32 (D := y.2) (d := d) hA.size
  have hpl := padd_l y.2 y.1 d
  replace hT := hT.chg hX hA.all.lo
  replace hcw := hcw.next hX hA.los
  obtain ⟨r, hr⟩ : ∃ r, paddM y.2 y.1 d = r := ⟨_, rfl⟩
  rw [hr] at hA2 hp32 hpl hnx
  rw [hr]
  clear hWP hX hA hA0
  have hA := hA2
  clear hA2
  have hz : r.1.1.cells.toArray.size = 35 := Ent.size hp32.1
  refine sm rfl rfl (st (X.ext rfl rfl) rfl (st (X.ext rfl rfl) rfl ?_))
  have hq13 := hA.lts
  have hw13 := hcw.size
  refine salA inf66 rfl (fun g13 w4 hB13 hg13 hb hl13 => ?_)
  replace hcw := hcw.then_below hb
  replace hT := hT.bel hb
  replace hA := hA.bel hb
  have hz_w4 := hb.size
  clear hb
  refine ssBN rfl rfl hB13 (by rw [hz]; exact siz66) (by rw [hz]; rfl) (Ent.cells_one r.1.1) (fun w5 hB_ hc_ => ?_)
  replace hB13 := hB_
  replace hA := hA.chg hc_ (fun k hk => by show ¬ k = g13; have := hq13 k (.inl hk); omega) (fun k hk => by show ¬ k = g13; have := hq13 k (.inr hk); omega)
  replace hT := hT.chg hc_ (fun k hk => by have h1 : k = g13 := hk; have := hcw.size; omega)
  replace hcw := hcw.next hc_ (fun i hi => .inr (by have h1 : i = g13 := hi; omega))
  have hz_w5 := hc_.size
  clear hB_ hc_
  refine sa rfl rfl (Wn (tN (W_rs (sm rfl rfl (st (X.eql rfl rfl) rfl (Wn (tN (W_if rfl (fun h43 => ?_) (fun h43 => ?_)))))))))
  ·first | replace h43 := of_decide_eq_true h43 | replace h43 := of_decide_eq_false (notT h43) | replace h43 := notT h43 | skip
   obtain ⟨hp1, hp2, hp3, hp4⟩ := hpl.2.1 h43
   refine W_seq (W_drsN (fun W_ => Blk W_ g13 66 r.1.1.cells.toArray ∧ W_.cell? ⟨g1, o1 + j, none⟩ = some (str d)) [0, 1, 2, 3, 4, 5, 6, 7, 8, 9, 10, 11, 12, 13, 14, 15, 16, 17, 18, 19, 20, 21, 22, 23] [true, true, true, true, true, true, false, true, true, true, true, true, true, true, true, true, true, true, true, true, true, true, true, true] (by kernel_rfl) (by kernel_rfl) (⟨hB13.drew, (hL.chgS hcw hLS).cellAt (by omega) hux⟩) ?_)
   obtain ⟨w6, hw_⟩ : ∃ w6 : World, w6 = World.drew w5 := ⟨_, rfl⟩
   rw [← hw_]
   have hb : Below w5.heap.size w5 w6 := by rw [hw_]; exact bdrew (Below.refl _ _)
   clear hw_
   have hS := hb
   replace hcw := hcw.then_below hb
   replace hT := hT.bel hb
   replace hA := hA.bel hb
   replace hB13 := hB13.bel hb
   have hz_w6 := hb.size
   clear hb
   refine oY rfl (fun W_ hW_ => (X.fa fa66_0 rfl)) rfl (oY rfl (fun W_ hW_ => (X.ldN (cs := r.1.1.sum.map bv) rfl Tryz.underlying60 rfl (by rw [List.length_map, hp32.1]; exact siz60) (ent_sumR hW_.1))) rfl ?_)
   refine oY rfl (fun W_ hW_ => (X.move rfl)) rfl (oY rfl (fun W_ hW_ => (X.move rfl)) rfl (oY rfl (fun W_ hW_ => (X.idxA rfl rfl Tryz.underlying38 siz9 rfl (by omega))) rfl (oY rfl (fun W_ hW_ => (X.ld rfl Tryz.underlying9 rfl (by rw [Nat.mul_one]; exact hW_.2))) rfl ?_)))
   refine oL rfl (fun Q_ hQ_ hP_ => (sc _ Tryz.func24 rfl (by kernel_rfl) rfl rfl ((Of_list d _ hT.sha (by omega)).mono ?_)))
   rintro e_ w7 ⟨rfl, hb⟩
   refine cR ?_
   replace hcw := hcw.then_below hb
   replace hT := hT.bel hb
   replace hA := hA.bel hb
   replace hB13 := hB13.bel hb
   have hz_w7 := hb.size
   clear hb
   refine Wn (hQ_ _ _ (⟨hB13, (hL.chgS hcw hLS).cellAt (by omega) hux⟩) ?_)
   clear hQ_ hP_ Q_
   refine oY rfl (fun W_ hW_ => (X.neSumF hp32.1 (sha_length _) rfl rfl)) rfl (oY rfl (fun W_ hW_ => (X.mvB (c := false) rfl ((by rw [hp2]; simp)))) rfl ?_)
   refine oYg (g := 52) rfl rfl rfl rfl (fun W_ hW_ => (X.fa fa66_3 rfl)) rfl (oYg (g := 52) rfl rfl rfl rfl (fun W_ hW_ => (X.ldB rfl hW_.1 Tryz.underlying3 rfl (Ent.cell_ hp32.1 2 _ rfl))) rfl (oYg (g := 52) rfl rfl rfl rfl (fun W_ hW_ => (X.move rfl)) rfl (oYg (g := 52) rfl rfl rfl rfl (fun W_ hW_ => (X.move rfl)) rfl (oYg (g := 52) rfl rfl rfl rfl (fun W_ hW_ => (X.idxA rfl rfl Tryz.underlying38 siz9 rfl (by omega))) rfl (oYg (g := 52) rfl rfl rfl rfl (fun W_ hW_ => (X.ld rfl Tryz.underlying9 rfl (by rw [Nat.mul_one]; exact hW_.2))) rfl ?_)))))
   refine oYg (g := 52) rfl rfl rfl rfl (fun W_ hW_ => (X.lenS rfl rfl Tryz.underlying9)) rfl (oYg (g := 52) rfl rfl rfl rfl (fun W_ hW_ => (X.neq rfl rfl)) rfl (oY rfl (fun W_ hW_ => (X.pickF rfl rfl)) rfl (oY rfl (fun W_ hW_ => (X.mvB (c := false) rfl ((decide_eq_false (by rw [hp4]; simp))))) rfl ?_)))
   refine oYg (g := 62) rfl rfl rfl rfl (fun W_ hW_ => (X.fa fa66_1 rfl)) rfl (oYg (g := 62) rfl rfl rfl rfl (fun W_ hW_ => (X.ldB rfl hW_.1 Tryz.underlying3 rfl (Ent.cell_ hp32.1 0 _ rfl))) rfl (oYg (g := 62) rfl rfl rfl rfl (fun W_ hW_ => (X.move rfl)) rfl (oYg (g := 62) rfl rfl rfl rfl (fun W_ hW_ => (X.neq rfl rfl)) rfl (oY rfl (fun W_ hW_ => (X.pickF rfl rfl)) rfl (oN (nN (W_no rfl ((decide_eq_false (by rw [hp3, hnl.2]; simp))) ?_)))))))
   refine W_skip (tN (W_reg (sm rfl rfl (st (X.fa fa66_0 rfl) rfl (st (X.ldN (cs := r.1.1.sum.map bv) rfl Tryz.underlying60 rfl (by rw [List.length_map, hp32.1]; exact siz60) (ent_sumR hB13)) rfl ?_)))))
   refine sbs1 rfl Tryz.underlying45 inf60 (by show (r.1.1.sum.map bv).toArray.size = 32; simp [hp32.1]) rfl (by decide) (by decide) rfl (fun g71 w8 hR71 hg71 hb => ?_)
   replace hA := hA.bel hb
   replace hT := hT.bel hb
   replace hcw := hcw.then_below hb
   have hz_w8 := hb.size
   clear hb hB13
   refine sapp rfl rfl Tryz.underlying45 inf60 rfl (by decide) hA.row (hR71.reads.src Tryz.underlying45 (by intro u hu; simp [Value.cells] at hu; obtain ⟨q, _, rfl⟩ := hu; rfl)) (by simp only [maxLen, List.length_map]; have := hnl.1; simp at this; omega) (by simp only [List.length_map]; have := hnl.1; simp at this; omega) rfl (fun u2 w9 hR2 hC2 hv2 => ?_)
   have hz_w9 := hC2.size
   have hAn := hA.app (a := r.1.1.sum) (by simpa [Value.cells] using hR2) hC2 hv2 (by have := hcw.size; omega)
   replace hT := hT.chg hC2 (fun k hk => by have := (hA.ap k hk).2; omega)
   replace hcw := hcw.next hC2 (fun i hi => .inr (hA.ap i hi).2)
   have hA2 : AddSt B w.heap.size S0 w9 gd gw gx gm (addsM D1 ⟨n, [], false⟩ (l.take (j + 1))).2 (addsM D1 ⟨n, [], false⟩ (l.take (j + 1))).1 v2 S2 u2 ((addsM D1 ⟨n, [], false⟩ (l.take (j + 1))).1.l.map (·.sum)) := by rw [hnx, hp1, List.map_append]; exact hAn
   clear hA hAn hR2 hC2 hR71
   have hA := hA2
   clear hA2
   refine sa rfl rfl (Wn (bN (tN (W_reg (sm rfl rfl (st (X.add64 rfl rfl (by omega)) rfl (sa rfl rfl (Wn (tN ⟨_, _, ?_, ⟨j + 1, _, _, _, rfl, rfl, hA, hT, by omega, hcw⟩, ⟨rfl, rfl, rfl, rfl, rfl, trivial⟩⟩)))))))))
   omega
  ·first | replace h43 := of_decide_eq_false h43 | replace h43 := of_decide_eq_true (notF h43) | replace h43 := notF h43 | skip
   have hA2 : AddSt B w.heap.size S0 w5 gd gw gx gm (addsM D1 ⟨n, [], false⟩ (l.take (j + 1))).2 (addsM D1 ⟨n, [], false⟩ (l.take (j + 1))).1 v2 S2 u ((addsM D1 ⟨n, [], false⟩ (l.take (j + 1))).1.l.map (·.sum)) := by have e43 := hpl.2.2 h43; rw [hnx, e43]; rw [e43] at hA; exact hA
   clear hA
   have hA := hA2
   clear hA2
   refine W_skip (bN (tN (W_reg (sm rfl rfl (st (X.add64 rfl rfl (by omega)) rfl (sa rfl rfl (Wn (tN ⟨_, _, ?_, ⟨j + 1, _, _, _, rfl, rfl, hA, hT, by omega, hcw⟩, ⟨rfl, rfl, rfl, rfl, rfl, trivial⟩⟩))))))))
   omega
 ·first | replace h30 := of_decide_eq_false h30 | replace h30 := of_decide_eq_true (notF h30) | replace h30 := notF h30 | skip
  obtain rfl : j = l.length := by omega
  rw [List.take_length] at hA
  refine W_exit (tE (tE (bH (tN (W_rs (sm rfl rfl (sm rfl rfl (sa rfl rfl (sa rfl rfl (sa rfl rfl (Wn (tN (W_ret ?_)))))))))))))
  exact (rTTT rfl rfl rfl rfl ⟨gw, gx, gm, v, S1, u, rfl, hA, hT, hcw⟩).1
end Go.Proofs.YtnlabkogebnioaaGreatDoor
namespace Go.Proofs.YtnlabkogebnioaaGreatDoor
open Go.RowKit Sha
theorem got_len (len : Int) (a s : List UInt8) : (gotM len a s).1.length ≤ s.length := by
 unfold gotM
 split
 ·simp
 split
 ·have := nextM_body s
  simp only [List.length_drop]
  omega
 ·simp
theorem pget_len {D : DiskD} (hok : DOk D) (n : Int) (l : List Ent) (a : List UInt8) : (pgetM D n l a).1.length ≤ 16777216 := by
 unfold pgetM
 split
 ·simp
 split
 ·simp
 rename_i f hf
 have := (hok.len hf).1
 split
 ·simp
 ·refine Nat.le_trans (got_len _ _ _) ?_
  simp only [List.length_take, List.length_drop]
  omega
theorem few_facts {l : List (List UInt8)} {n : Int} (hn : rightP n = true) (hl30 : l.length ≤ 30) :
  ∃ ds, WrAt1 1048576 n ds (addsM (pbeginM (newM 1048576) n).2 ⟨n, [], false⟩ l).2 (addsM (pbeginM (newM 1048576) n).2 ⟨n, [], false⟩ l).1 ∧ (∀ d ∈ l, DOkC d → sha d ∈ ds.map sha) ∧ (headB n ++ chunksB ds).length ≤ 40000 ∧ Good (30 + 1100 * l.length) (addsM (pbeginM (newM 1048576) n).2 ⟨n, [], false⟩ l).2 ∧ ds.length ≤ 30 := by
 have hh := headB_len n
 have h0 : (headB n ++ chunksB []).length = (headB n).length := by simp [chunksB]
 obtain ⟨ds, h1, _, h2, h3⟩ := adds_written (l := l) (WrAt1.begin (lim := 1048576) hn (by omega)) (by rw [h0]; omega)
 have hg := addsM_good l ⟨n, [], false⟩ (pbegin_good (Good.new (n := 0) (l := 1048576) (by omega)) n)
 have hlen := (addsM_len l (pbeginM (newM 1048576) n).2 ⟨n, [], false⟩).1
 refine ⟨ds, h1, h2, by rw [h0] at h3; omega, hg.mono (by omega), ?_⟩
 have := congrArg List.length h1.l
 rw [wents_length] at this
 simp only [List.length_nil] at hlen
 omega
theorem LastsAt.popen {D : DiskD} {n : Int} {s all : List UInt8} {lim : Int} (h : LastsAt D (nameP n) lim s all) (hn : rightP n = true) : popenM D n = scanP (s ++ all) n := by
 obtain ⟨f, hf, hfn⟩ := h.file
 rw [popen_there hn hf, hfn]
end Go.Proofs.YtnlabkogebnioaaGreatDoor
namespace Go.Proofs.YtnlabkogebnioaaGreatDoor
open Go.ChangeShapes Go.WideShapes Go.ChangeAt Go.RowKit
section
variable {H : Type} {enc : TypeId × Value → H} {W : World} {base : Nat} {sp : Nat → Bool} {held : Bool}
set_option maxRecDepth 4000 in
theorem open_intsW {r : Reach} {b0 : Nat} {v : Value} {d : DataW H} {p : List MemPlace} (hv : Value.okWide Tryz.prog W r b0 39 v) (h : DataW.Trod enc Tryz.prog W base sp held 39 v d p) :
  ∃ l : List Int, Reads W 1 v l.length (l.map fun k => .int .i64 k) := by
 obtain ⟨fuel, hf⟩ := h
 obtain ⟨a0, len0, cap0, rfl⟩ := okWide_slice Tryz.underlying39 hv
 obtain ⟨v', l, e, hR, _⟩ := open_rows (fun s : Int => [Value.int .i64 s]) (fun _ => True) Tryz.underlying39 cInt (by decide) open_intL hf
 rw [flat_int1] at hR
 simp [Value.cells] at e
 exact ⟨l, e ▸ hR⟩
end
end Go.Proofs.YtnlabkogebnioaaGreatDoor
namespace Go.Proofs.YtnlabkogebnioaaGreatDoor
open Go.RowKit Sha
set_option maxRecDepth 10000 in
theorem PackBack_walk (w : World) (v : Value) (l : List (List UInt8)) (hL : Reads w 1 v l.length (l.map str)) (n : Int) (vk : Value) (ks : List Int) (hK : Reads w 1 vk ks.length (ks.map fun k => .int .i64 k)) (hT : PTabs w.heap.size w) :
  Calls Tryz.prog 7 #[v, .int .i64 n, vk] w fun e w' => e = .returned (.bool true) ∧ Below w.heap.size w w' := by
 obtain ⟨a, c, rfl, hc1, hc2⟩ := hL.shape
 obtain ⟨ak, ck, rfl, hck1, hck2⟩ := hK.shape
 have hhl := headB_len n
 have hnn := hL.nle
 refine W_enter (args := [.slice a l.length c, .int .i64 n, .slice ak ks.length ck]) 177 Tryz.func7 rfl rfl rfl (W_sub [(0, .slice a l.length c), (1, .int .i64 n), (2, .slice ak ks.length ck)] ?_ ⟨rfl, rfl, rfl, trivial⟩)
 have hbw := Below.refl w.heap.size w
 refine W_rs (sa rfl rfl (Wn (tN (W_seq (W_rs (sm rfl rfl (sc _ Tryz.func15 rfl (by kernel_rfl) rfl rfl ((few_any _ l _ (hL.bel hbw)).mono ?_))))))))
 rintro e_ w1 ⟨rfl, hb⟩
 refine cR ?_
 replace hbw := bthen hbw hb
 have hz_w1 := hb.size
 clear hb
 refine st (X.not rfl) rfl (sb rfl rfl (fun h26 => ?_) (fun h26 => ?_))
 ·first | replace h26 := of_decide_eq_true h26 | replace h26 := of_decide_eq_false (notT h26) | replace h26 := notT h26 | skip
  refine gN (g := 26) rfl rfl rfl rfl (gN (g := 26) rfl rfl rfl rfl (st (X.pickT rfl rfl) rfl (sm rfl rfl (gN (g := 30) rfl rfl rfl rfl (gN (g := 30) rfl rfl rfl rfl (st (X.pickT rfl rfl) rfl (sm rfl rfl (gN (g := 34) rfl rfl rfl rfl (gN (g := 34) rfl rfl rfl rfl (gN (g := 34) rfl rfl rfl rfl ?_))))))))))
  refine st (X.pickT rfl rfl) rfl (Wn (tN (W_yes rfl (rfl) (W_rs (sc _ Tryz.func9 rfl (by kernel_rfl) rfl rfl ((pawake_any _ ((hT.bel hbw).to hbw.size)).mono ?_))))))
  rintro e_ w2 ⟨rfl, hb⟩
  refine cR ?_
  replace hbw := bthen hbw hb
  have hz_w2 := hb.size
  clear hb
  refine sa rfl rfl (Wn (tN (W_ret (tR ?_))))
  exact (rT rfl rfl ⟨rfl, hbw⟩).1
 ·first | replace h26 := of_decide_eq_false h26 | replace h26 := of_decide_eq_true (notF h26) | replace h26 := notF h26 | skip
  refine gY (g := 26) rfl rfl rfl (sm rfl rfl (gY (g := 26) rfl rfl rfl (st (X.lss rfl rfl) rfl (st (X.pickF rfl rfl) rfl (sb rfl rfl (fun h30 => ?_) (fun h30 => ?_))))))
  ·first | replace h30 := of_decide_eq_true h30 | replace h30 := of_decide_eq_false (notT h30) | replace h30 := notT h30 | skip
   refine gN (g := 30) rfl rfl rfl rfl (gN (g := 30) rfl rfl rfl rfl (st (X.pickT rfl rfl) rfl (sm rfl rfl (gN (g := 34) rfl rfl rfl rfl (gN (g := 34) rfl rfl rfl rfl (gN (g := 34) rfl rfl rfl rfl (st (X.pickT rfl rfl) rfl (Wn (tN (W_yes rfl (rfl) ?_))))))))))
   refine W_rs (sc _ Tryz.func9 rfl (by kernel_rfl) rfl rfl ((pawake_any _ ((hT.bel hbw).to hbw.size)).mono ?_))
   rintro e_ w3 ⟨rfl, hb⟩
   refine cR ?_
   replace hbw := bthen hbw hb
   have hz_w3 := hb.size
   clear hb
   refine sa rfl rfl (Wn (tN (W_ret (tR ?_))))
   exact (rT rfl rfl ⟨rfl, hbw⟩).1
  ·first | replace h30 := of_decide_eq_false h30 | replace h30 := of_decide_eq_true (notF h30) | replace h30 := notF h30 | skip
   refine gY (g := 30) rfl rfl rfl (sm rfl rfl (gY (g := 30) rfl rfl rfl (st (X.gtr rfl rfl) rfl (st (X.pickF rfl rfl) rfl (sb rfl rfl (fun h34 => ?_) (fun h34 => ?_))))))
   ·first | replace h34 := of_decide_eq_true h34 | replace h34 := of_decide_eq_false (notT h34) | replace h34 := notT h34 | skip
    refine gN (g := 34) rfl rfl rfl rfl (gN (g := 34) rfl rfl rfl rfl (gN (g := 34) rfl rfl rfl rfl (st (X.pickT rfl rfl) rfl (Wn (tN (W_yes rfl (rfl) (W_rs (sc _ Tryz.func9 rfl (by kernel_rfl) rfl rfl ((pawake_any _ ((hT.bel hbw).to hbw.size)).mono ?_)))))))))
    rintro e_ w4 ⟨rfl, hb⟩
    refine cR ?_
    replace hbw := bthen hbw hb
    have hz_w4 := hb.size
    clear hb
    refine sa rfl rfl (Wn (tN (W_ret (tR ?_))))
    exact (rT rfl rfl ⟨rfl, hbw⟩).1
   ·first | replace h34 := of_decide_eq_false h34 | replace h34 := of_decide_eq_true (notF h34) | replace h34 := notF h34 | skip
    refine gY (g := 34) rfl rfl rfl (sm rfl rfl (gY (g := 34) rfl rfl rfl (st (X.lenL rfl rfl Tryz.underlying39) rfl (gY (g := 34) rfl rfl rfl (st (X.gtr rfl rfl) rfl (st (X.pickF rfl rfl) rfl (Wn (tN (W_if rfl (fun h38 => ?_) (fun h38 => ?_))))))))))
    ·first | replace h38 := of_decide_eq_true h38 | replace h38 := of_decide_eq_false (notT h38) | replace h38 := notT h38 | skip
     refine W_rs (sc _ Tryz.func9 rfl (by kernel_rfl) rfl rfl ((pawake_any _ ((hT.bel hbw).to hbw.size)).mono ?_))
     rintro e_ w5 ⟨rfl, hb⟩
     refine cR ?_
     replace hbw := bthen hbw hb
     have hz_w5 := hb.size
     clear hb
     refine sa rfl rfl (Wn (tN (W_ret (tR ?_))))
     exact (rT rfl rfl ⟨rfl, hbw⟩).1
    ·first | replace h38 := of_decide_eq_false h38 | replace h38 := of_decide_eq_true (notF h38) | replace h38 := notF h38 | skip
     have hfw : fewP l = true := h26
     obtain ⟨hl30, hl11⟩ := fewP_true hfw
     have hr : rightP n = true := by unfold rightP; rw [decide_eq_true_eq]; omega
     obtain ⟨ds, hW, hin, h40, hg, hd30⟩ := few_facts (l := l) hr hl30
     obtain ⟨hm1, hm2, hm3, hm4, hm5⟩ := hW.make hr h40
     refine W_skip (tN (W_rs (sc _ Tryz.func16 rfl (by kernel_rfl) rfl rfl ((New_ok 1048576 _ (by omega)).mono ?_))))
     rintro e_ w6 ⟨g, S0, rfl, h0, hS0, hb⟩
     refine cR ?_
     replace hbw := bthen hbw hb
     have hz_w6 := hb.size
     clear hb
     have hd : Own w.heap.size w6 g (newM 1048576) S0 := ⟨h0, fun k hk => by have := hS0 k hk; have := hbw.size; omega⟩
     clear h0 hS0
     refine sm rfl rfl (st (X.ext rfl rfl) rfl (st (X.ext rfl rfl) rfl (sa rfl rfl (sa rfl rfl (Wn (tN (W_rs (sm rfl rfl (sm rfl rfl (sm rfl rfl ?_))))))))))
     refine sc _ Tryz.func17 rfl (by kernel_rfl) rfl rfl ((added_any w.heap.size g (newM 1048576) S0 n 0 _ _ l hd (Good.new (by omega)) (by omega) hbw.size (hT.bel hbw) (hL.bel hbw) (fun h0 k hk e => by have := (hd.lo k e).1; have := hL.ownLt h0 hk; omega) hl30 hl11 (begin_lasts hr (by omega)).1 _ rfl).mono ?_)
     rintro e_ w7 ⟨gw, gx, gm, v, S1, u, rfl, hA, hT1, hX⟩
     refine cR ?_
     have hbwn := bchg hbw hX (fun k hk => (hd.lo k hk).1)
     clear hT1 hX hd hbw
     have hbw := hbwn
     clear hbwn
     obtain ⟨y, hy⟩ : ∃ y, addsM (pbeginM (newM 1048576) n).2 ⟨n, [], false⟩ l = y := ⟨_, rfl⟩
     rw [hy] at hA hW hg hm1 hm2 hm3 hm4
     obtain ⟨sums, hsE⟩ : ∃ sums, y.1.l.map (·.sum) = sums := ⟨_, rfl⟩
     rw [hsE] at hA
     obtain ⟨au, cu, rfl, hcu1, hcu2⟩ := hA.row.shape
     have hsl : sums.length = ds.length := by rw [← hsE, List.length_map, hm4]
     obtain ⟨hcl1, hcl2⟩ := hW.close hr h40
     refine sm rfl rfl (st (X.ext rfl rfl) rfl (st (X.ext rfl rfl) rfl (st (X.ext rfl rfl) rfl (sa rfl rfl (sa rfl rfl (sa rfl rfl (Wn (tN (W_seq (W_rs ?_))))))))))
     refine sm rfl rfl (st (X.not rfl) rfl (Wn (tN (W_no rfl (rfl) (W_skip (tN (W_rs (sm rfl rfl (sc _ Tryz.func18 rfl (by kernel_rfl) rfl rfl ((pclose_any (30 + 1100 * l.length) hA.all hg (by omega) (hT.bel hbw) (by omega)).mono ?_))))))))))
     rintro e_ w8 ⟨ux, v3, S2, rfl, hE, hO, hA3, hS2, hv3, hX⟩
     refine cR ?_
     have hbwn := bchg hbw hX hA.all.lo
     have hd := hA3.wf.own
     have hgc := pclose_good hg y.1
     rw [hcl1] at hE ⊢
     obtain ⟨yc, hyc⟩ : ∃ yc, (pcloseM y.2 y.1).2.2 = yc := ⟨_, rfl⟩
     rw [hyc] at hd hgc hcl2
     have hnu : 0 < (makeM y.1.l).1.length → ∀ k, ux.ownBlock = some k → ¬ S2 k := fun _ k hk => (hO k hk).2
     clear hX hbw hA hA3 hO
     have hbw := hbwn
     clear hbwn
     obtain ⟨am, cm, rfl⟩ : ∃ am cm, ux = .slice am (makeM y.1.l).1.length cm := by obtain ⟨_, am, cm, e, _⟩ := hE; exact ⟨am, cm, e⟩
     refine sm rfl rfl (st (X.ext rfl rfl) rfl (st (X.ext rfl rfl) rfl ?_))
     have hlo7 := hd.lo
     have hw7 := hbw.size
     refine salA inf25 rfl (fun g12 w9 hB12 hg12 hb hl12 => ?_)
     replace hbw := bthen hbw hb
     replace hE := hE.bel hb
     replace hd := hd.bel hb
     have hz_w9 := hb.size
     clear hb
     refine ssBN rfl rfl hB12 siz25 rfl (by simp [Value.oneCell']) (fun w10 hB_ hc_ => ?_)
     have hn12 : ¬ S2 g12 := fun e => by have := (hlo7 _ e).2; omega
     replace hE := EntsAt.chgI hE (make_S32 hm3) hB12 hc_
     replace hd := hd.other hc_ (fun k hk e => by have h1 : k = g12 := hk; subst h1; exact hn12 e)
     replace hbw := bset hbw hc_ (by omega)
     replace hB12 := hB_
     have hz_w10 := hc_.size
     clear hB_ hc_
     refine sa rfl rfl (Wn (tN (W_rs (sm rfl rfl (sm rfl rfl (sc _ Tryz.func35 rfl (by kernel_rfl) rfl rfl ((Crash_any g yc S2 _ ks _ hd.at_ hgc.ok (hgc.bud (by omega)) (by have := hgc.few; omega) (hK.bel hbw) (fun h0 k hk h1 => by have := (hd.lo k h1).1; have := hK.ownLt h0 hk; omega)).mono ?_)))))))
     rintro e_ w11 ⟨rfl, hdk, hX⟩
     refine cR ?_
     have hbwn := bchg hbw hX (fun k hk => (hd.lo k hk).1)
     have hul : 0 < (makeM y.1.l).1.length → ∀ {k}, (Value.slice am (makeM y.1.l).1.length cm).ownBlock = some k → k < (w10).heap.size := fun h0 {k} hk => Reads.ownLt hE h0 hk
     have hg2 := crash_good hgc ks
     have hd2 := hd.step hdk hX hbw.size
     replace hE : EntsAt _ _ _ := Reads.chgS hE hX (fun h0 k hk => hnu h0 k hk)
     have hlt12 := hB12.lt
     replace hB12 := hB12.chg hX hn12
     have hnu2 : 0 < (makeM y.1.l).1.length → ∀ k, (Value.slice am (makeM y.1.l).1.length cm).ownBlock = some k → ¬ Ext S2 w10 w11 k := fun h0 k hk e => e.elim (hnu h0 k hk) (fun e => by have := hul h0 hk; omega)
     have hn12b : ¬ Ext S2 w10 w11 g12 := fun e => e.elim hn12 (fun e => by omega)
     obtain ⟨pk, hLa⟩ := hcl2.crashL ks
     obtain ⟨D2, hD2⟩ : ∃ D', crashD yc ks = D' := ⟨_, rfl⟩
     rw [hD2] at hd2 hLa hg2
     rw [List.take_nil, List.append_nil] at hLa
     have hop := closed_open hr hLa hW.l hW.ok hW.nd
     have hwE : EOk y.1.l := by
      have hs := hLa.popen hr
      rw [List.append_nil] at hs
      have h16 : (headB n ++ (chunksB ds ++ footB y.1.l)).length ≤ 16777216 := by
       have := footB_len y.1.l
       simp only [List.length_append] at h40 ⊢
       omega
      have := scanP_eok h16 n
      rw [← hs, hop] at this
      exact this
     have hwl : y.1.l.length ≤ 30 := by omega
     clear hX hbw hd hdk hnu hlo7 hul
     have hbw := hbwn
     clear hbwn
     obtain ⟨S3, hd2, hnu2, hn12b⟩ : ∃ S3, Own w.heap.size w11 g D2 S3 ∧ (0 < (makeM y.1.l).1.length → ∀ k, (Value.slice am (makeM y.1.l).1.length cm).ownBlock = some k → ¬ S3 k) ∧ ¬ S3 g12 := ⟨_, hd2, hnu2, hn12b⟩
     refine Wn (tN (W_rs (sm rfl rfl (sm rfl rfl ?_))))
     have hPo := popen_any w.heap.size g D2 S3 n w11 hd2.at_ hg2.ok (hT.bel hbw)
     rw [hop] at hPo
     refine sc _ Tryz.func19 rfl (by kernel_rfl) rfl rfl ((hPo).mono ?_)
     rintro e_ w12 ⟨p, rfl, hpn, hps, hb⟩
     refine cR ?_
     replace hbw := bthen hbw hb
     replace hE := hE.bel hb
     replace hB12 := hB12.bel hb
     replace hd2 := hd2.bel hb
     have hz_w12 := hb.size
     clear hb
     obtain ⟨gp, gx2, gm2, v2, rfl, hP, hPO⟩ := hps rfl
     clear hpn hps hPO
     refine sm rfl rfl (st (X.ext rfl rfl) rfl (st (X.ext rfl rfl) rfl (sa rfl rfl (sa rfl rfl (Wn (tN (W_seq (W_drsN (fun W_ => Blk W_ g12 25 #[.slice am (makeM y.1.l).1.length cm]) [0, 1, 2, 3, 4, 5, 6, 7, 8, 9, 10, 11, 12, 13, 14, 15, 16, 19, 17, 18, 20, 21, 22, 23, 24, 26, 27, 25, 28, 29] [true, true, true, true, true, true, true, true, true, true, true, true, false, true, true, true, true, true, false, false, false, true, true, true, true, true, true, false, true, true] (by kernel_rfl) (by kernel_rfl) (hB12.drew) ?_))))))))
     obtain ⟨w13, hw_⟩ : ∃ w13 : World, w13 = World.drew w12 := ⟨_, rfl⟩
     rw [← hw_]
     have hb : Below w12.heap.size w12 w13 := by rw [hw_]; exact bdrew (Below.refl _ _)
     clear hw_
     have hS := hb
     replace hbw := bthen hbw hb
     replace hE := hE.bel hb
     replace hB12 := hB12.bel hb
     replace hd2 := hd2.bel hb
     replace hP := hP.bel hb
     have hz_w13 := hb.size
     clear hb
     refine oY rfl (fun W_ hW_ => (X.move rfl)) rfl (oY rfl (fun W_ hW_ => (X.neq rfl rfl)) rfl (oY rfl (fun W_ hW_ => (X.mvB (c := false) rfl (rfl))) rfl (oYg (g := 70) rfl rfl rfl rfl (fun W_ hW_ => (X.move rfl)) rfl (oYg (g := 70) rfl rfl rfl rfl (fun W_ hW_ => (X.neq rfl rfl)) rfl (oY rfl (fun W_ hW_ => (X.pickF rfl rfl)) rfl (oY rfl (fun W_ hW_ => (X.mvB (c := false) rfl (rfl))) rfl (oYg (g := 74) rfl rfl rfl rfl (fun W_ hW_ => (X.move rfl)) rfl (oYg (g := 74) rfl rfl rfl rfl (fun W_ hW_ => (X.kEq rfl)) rfl (oY rfl (fun W_ hW_ => (X.pickF rfl rfl)) rfl (oY rfl (fun W_ hW_ => (X.mvB (c := false) rfl (rfl))) rfl ?_))))))))))
     refine oYg (g := 78) rfl rfl rfl rfl (fun W_ hW_ => (X.move rfl)) rfl (oL rfl (fun Q_ hQ_ hP_ => (gY (g := 78) rfl rfl rfl (sc _ Tryz.func33 rfl (by kernel_rfl) rfl rfl ((kWhole_any hP).mono ?_)))))
     rintro e_ w14 ⟨rfl, hb⟩
     refine cR ?_
     replace hbw := bthen hbw hb
     replace hE := hE.bel hb
     replace hB12 := hB12.bel hb
     replace hd2 := hd2.bel hb
     replace hP := hP.bel hb
     have hz_w14 := hb.size
     clear hb
     refine Wn (hQ_ _ _ (hB12) ?_)
     clear hQ_ hP_ Q_
     refine oYg (g := 78) rfl rfl rfl rfl (fun W_ hW_ => (X.not rfl)) rfl (oY rfl (fun W_ hW_ => (X.pickF rfl rfl)) rfl (oY rfl (fun W_ hW_ => (X.mvB (c := false) rfl (rfl))) rfl (oYg (g := 83) rfl rfl rfl rfl (fun W_ hW_ => (X.move rfl)) rfl (oYg (g := 83) rfl rfl rfl rfl (fun W_ hW_ => (X.ldBN rfl hW_ Tryz.underlying25 rfl siz25)) rfl (oL rfl (fun Q_ hQ_ hP_ => (gY (g := 83) rfl rfl rfl (sc _ Tryz.func32 rfl (by kernel_rfl) rfl rfl ((kIndex_any hP (by show y.1.l.length ≤ _; omega)).mono ?_)))))))))
     rintro e_ w15 ⟨u4, rfl, hE4, hO4, hb⟩
     refine cR ?_
     replace hbw := bthen hbw hb
     replace hE := hE.bel hb
     replace hB12 := hB12.bel hb
     replace hd2 := hd2.bel hb
     replace hP := hP.bel hb
     have hz_w15 := hb.size
     clear hb
     refine Wn (hQ_ _ _ (hB12) ?_)
     clear hQ_ hP_ Q_
     refine oL rfl (fun Q_ hQ_ hP_ => (gY (g := 83) rfl rfl rfl (sc _ Tryz.func36 rfl (by kernel_rfl) rfl rfl ((Encode_any _ _ _ hE4 (make_S32 hm3) (by show (makeM y.1.l).1.length ≤ _; rw [hm2]; omega)).mono ?_))))
     rintro e_ w16 ⟨rfl, hb⟩
     refine cR ?_
     replace hbw := bthen hbw hb
     replace hE := hE.bel hb
     replace hB12 := hB12.bel hb
     replace hd2 := hd2.bel hb
     replace hP := hP.bel hb
     replace hE4 := hE4.bel hb
     have hz_w16 := hb.size
     clear hb
     refine Wn (hQ_ _ _ (hB12) ?_)
     clear hQ_ hP_ Q_
     refine oL rfl (fun Q_ hQ_ hP_ => (gY (g := 83) rfl rfl rfl (sc _ Tryz.func36 rfl (by kernel_rfl) rfl rfl ((Encode_any _ _ _ hE (make_S32 hm3) (by rw [hm2]; omega)).mono ?_))))
     rintro e_ w17 ⟨rfl, hb⟩
     refine cR ?_
     replace hbw := bthen hbw hb
     replace hE := hE.bel hb
     replace hB12 := hB12.bel hb
     replace hd2 := hd2.bel hb
     replace hP := hP.bel hb
     replace hE4 := hE4.bel hb
     have hz_w17 := hb.size
     clear hb
     refine Wn (hQ_ _ _ (hB12) ?_)
     clear hQ_ hP_ Q_
     refine oYg (g := 83) rfl rfl rfl rfl (fun W_ hW_ => (X.neS rfl rfl)) rfl (oY rfl (fun W_ hW_ => (X.pickF rfl rfl)) rfl (oY rfl (fun W_ hW_ => (X.mvB (c := false) rfl (decide_eq_false (by simp)))) rfl ?_))
     refine oYg (g := 91) rfl rfl rfl rfl (fun W_ hW_ => (X.ldBN rfl hW_ Tryz.underlying25 rfl siz25)) rfl (oYg (g := 91) rfl rfl rfl rfl (fun W_ hW_ => (X.move rfl)) rfl (oYg (g := 91) rfl rfl rfl rfl (fun W_ hW_ => (X.lenL rfl rfl Tryz.underlying45)) rfl (oL rfl (fun Q_ hQ_ hP_ => (gY (g := 91) rfl rfl rfl (sc _ Tryz.func30 rfl (by kernel_rfl) rfl rfl ((ILen_any _ _ _ hE).mono ?_)))))))
     rintro e_ w18 ⟨rfl, hb⟩
     refine cR ?_
     replace hbw := bthen hbw hb
     replace hE := hE.bel hb
     replace hB12 := hB12.bel hb
     replace hd2 := hd2.bel hb
     replace hP := hP.bel hb
     replace hE4 := hE4.bel hb
     have hz_w18 := hb.size
     clear hb
     refine Wn (hQ_ _ _ (hB12) ?_)
     clear hQ_ hP_ Q_
     refine oYg (g := 91) rfl rfl rfl rfl (fun W_ hW_ => (X.neq rfl rfl)) rfl (oY rfl (fun W_ hW_ => (X.pickF rfl rfl)) rfl (oN (nN (W_no rfl (decide_eq_false (by rw [hm2, hsl]; simp)) ?_))))
     refine W_skip (tN (W_seq (W_rs (sa rfl rfl (Wn (tN (W_block (W_lp (fun nw19_ lw19_ w19 => ∃ i : Nat, nw19_ = l.length - i ∧ lw19_ = ([(0, .slice a l.length c), (1, .int .i64 n), (2, .slice ak ks.length ck), (7, .pointer (some ⟨g, 0, none⟩)), (12, .pointer (some ⟨g12, 0, none⟩)), (14, .pointer (some ⟨gp, 0, none⟩)), (16, .int .i64 i)] : Env) ∧ (i ≤ l.length) ∧ (PakAt w19 g gp gx2 gm2 v2 n ⟨y.1.l, (headB n).length + (chunksB ds).length + (footB y.1.l).length, true⟩) ∧ (Own w.heap.size w19 g D2 S3) ∧ (EntsAt w19 (.slice am (makeM y.1.l).1.length cm) (makeM y.1.l).1) ∧ (Blk w19 g12 25 #[.slice am (makeM y.1.l).1.length cm]) ∧ (Below w.heap.size w w19)) _ ⟨_, ⟨0, rfl, rfl, Nat.zero_le _, hP, hd2, hE, hB12, hbw⟩, ⟨rfl, rfl, rfl, rfl, rfl, rfl, rfl, trivial⟩⟩ ?_))))))))
     clear hP hd2 hE hB12 hbw
     rintro nw19_ lw19_ w19 ⟨i, rfl, rfl, hi, hP, hd2, hE, hB12, hbw⟩
     have hz_w19 := hbw.size
     refine W_seq (W_rs (sm rfl rfl (sm rfl rfl (st (X.lenL rfl rfl Tryz.underlying38) rfl (st (X.lss rfl rfl) rfl (Wn (tN (W_if rfl (fun h101 => ?_) (fun h101 => ?_)))))))))
     ·first | replace h101 := of_decide_eq_true h101 | replace h101 := of_decide_eq_false (notT h101) | replace h101 := notT h101 | skip
      obtain ⟨d, hdd⟩ : ∃ d, l[i]? = some d := ⟨_, List.getElem?_eq_getElem (by omega)⟩
      have hux : (l.map str)[i]? = some (str d) := by rw [List.getElem?_map, hdd]; rfl
      obtain ⟨g1, o1, c', hv, hg1⟩ := (hL.bel hbw).some_ (by omega)
      injection hv with e1 _ e3
      subst e1 e3
      have hdl := hl11 d (List.mem_of_getElem? hdd)
      refine W_skip (tN (W_seq (W_block (W_rs (sm rfl rfl (sm rfl rfl (sm rfl rfl (st (X.idxA rfl rfl Tryz.underlying38 siz9 rfl (by omega)) rfl (st (X.ld rfl Tryz.underlying9 rfl (by rw [Nat.mul_one]; exact (hL.bel hbw).cellAt (by omega) hux)) rfl ?_)))))))))
      refine sc _ Tryz.func24 rfl (by kernel_rfl) rfl rfl ((Of_list d _ (hT.bel hbw).sha (by omega)).mono ?_)
      rintro e_ w20 ⟨rfl, hb⟩
      refine cR ?_
      replace hbw := bthen hbw hb
      replace hP := hP.bel hb
      replace hd2 := hd2.bel hb
      replace hE := hE.bel hb
      replace hB12 := hB12.bel hb
      have hz_w20 := hb.size
      clear hb
      refine sc _ Tryz.func23 rfl (by kernel_rfl) rfl rfl ((pget_any (sha d) hP hd2.at_ hg2.ok (hT.bel hbw) (sha_length d) hwE).mono ?_)
      rintro e_ w21 ⟨rfl, hb⟩
      refine cR ?_
      replace hbw := bthen hbw hb
      replace hP := hP.bel hb
      replace hd2 := hd2.bel hb
      replace hE := hE.bel hb
      replace hB12 := hB12.bel hb
      have hz_w21 := hb.size
      clear hb
      refine sm rfl rfl (st (X.ext rfl rfl) rfl (st (X.ext rfl rfl) rfl (sa rfl rfl (sa rfl rfl (Wn (tN (W_seq (W_rs (sm rfl rfl (sm rfl rfl ?_))))))))))
      refine st (X.idxA rfl rfl Tryz.underlying38 siz9 rfl (by omega)) rfl (st (X.ld rfl Tryz.underlying9 rfl (by rw [Nat.mul_one]; exact (hL.bel hbw).cellAt (by omega) hux)) rfl ?_)
      refine st (X.eqS rfl rfl) rfl (sb rfl rfl (fun h119 => ?_) (fun h119 => ?_))
      ·first | replace h119 := of_decide_eq_true h119 | replace h119 := of_decide_eq_false (notT h119) | replace h119 := notT h119 | skip
       refine gN (g := 119) rfl rfl rfl rfl (gN (g := 119) rfl rfl rfl rfl (gN (g := 119) rfl rfl rfl rfl (gN (g := 119) rfl rfl rfl rfl (gN (g := 119) rfl rfl rfl rfl (gN (g := 119) rfl rfl rfl rfl (st (X.pickT rfl rfl) rfl (Wn (tN (W_yes rfl (rfl) (W_exit (tE (bH ?_))))))))))))
       refine tN (W_reg (sm rfl rfl (st (X.add64 rfl rfl (by omega)) rfl (sa rfl rfl (Wn (tN ⟨_, _, ?_, ⟨i + 1, rfl, rfl, by omega, hP, hd2, hE, hB12, hbw⟩, ⟨rfl, rfl, rfl, rfl, rfl, rfl, rfl, trivial⟩⟩))))))
       omega
      ·first | replace h119 := of_decide_eq_false h119 | replace h119 := of_decide_eq_true (notF h119) | replace h119 := notF h119 | skip
       refine gY (g := 119) rfl rfl rfl (sm rfl rfl (gY (g := 119) rfl rfl rfl (sm rfl rfl (gY (g := 119) rfl rfl rfl (st (X.idxA rfl rfl Tryz.underlying38 siz9 rfl (by omega)) rfl (gY (g := 119) rfl rfl rfl (st (X.ld rfl Tryz.underlying9 rfl (by rw [Nat.mul_one]; exact (hL.bel hbw).cellAt (by omega) hux)) rfl ?_)))))))
       refine gY (g := 119) rfl rfl rfl (st (X.lenS rfl rfl Tryz.underlying9) rfl (gY (g := 119) rfl rfl rfl (st (X.gtr rfl rfl) rfl (st (X.pickF rfl rfl) rfl (Wn (tN (W_if rfl (fun h126 => ?_) (fun h126 => ?_))))))))
       ·first | replace h126 := of_decide_eq_true h126 | replace h126 := of_decide_eq_false (notT h126) | replace h126 := notT h126 | skip
        refine W_exit (tE (bH (tN (W_reg (sm rfl rfl (st (X.add64 rfl rfl (by omega)) rfl (sa rfl rfl (Wn (tN ⟨_, _, ?_, ⟨i + 1, rfl, rfl, by omega, hP, hd2, hE, hB12, hbw⟩, ⟨rfl, rfl, rfl, rfl, rfl, rfl, rfl, trivial⟩⟩)))))))))
        omega
       ·first | replace h126 := of_decide_eq_false h126 | replace h126 := of_decide_eq_true (notF h126) | replace h126 := notF h126 | skip
        have hcg := closed_get (d := d) hLa hW.l hW.ok (hin d (List.mem_of_getElem? hdd) ⟨h119, by omega⟩)
        refine W_skip (tN (W_drsN (fun W_ => W_.cell? ⟨g1, o1 + i, none⟩ = some (str d)) [0, 1, 2, 3, 5, 6, 7, 8, 4, 9, 10, 11] [true, true, true, true, true, true, true, true, false, false, true, true] (by kernel_rfl) (by kernel_rfl) ((hL.bel (bdrew hbw)).cellAt (by omega) hux) ?_))
        obtain ⟨w22, hw_⟩ : ∃ w22 : World, w22 = World.drew w21 := ⟨_, rfl⟩
        rw [← hw_]
        have hb : Below w21.heap.size w21 w22 := by rw [hw_]; exact bdrew (Below.refl _ _)
        clear hw_
        have hS := hb
        replace hbw := bthen hbw hb
        replace hP := hP.bel hb
        replace hd2 := hd2.bel hb
        replace hE := hE.bel hb
        replace hB12 := hB12.bel hb
        have hz_w22 := hb.size
        clear hb
        refine oY rfl (fun W_ hW_ => (X.move rfl)) rfl (oY rfl (fun W_ hW_ => (X.neq rfl rfl)) rfl (oY rfl (fun W_ hW_ => (X.mvB (c := false) rfl (decide_eq_false (by rw [hcg.1]; simp)))) rfl ?_))
        refine oYg (g := 129) rfl rfl rfl rfl (fun W_ hW_ => (X.move rfl)) rfl (oYg (g := 129) rfl rfl rfl rfl (fun W_ hW_ => (X.move rfl)) rfl (oYg (g := 129) rfl rfl rfl rfl (fun W_ hW_ => (X.move rfl)) rfl (oYg (g := 129) rfl rfl rfl rfl (fun W_ hW_ => (X.idxA rfl rfl Tryz.underlying38 siz9 rfl (by omega))) rfl (oYg (g := 129) rfl rfl rfl rfl (fun W_ hW_ => (X.ld rfl Tryz.underlying9 rfl (by rw [Nat.mul_one]; exact hW_))) rfl ?_))))
        refine oL rfl (fun Q_ hQ_ hP_ => (gY (g := 129) rfl rfl rfl (sc _ Tryz.func24 rfl (by kernel_rfl) rfl rfl ((Of_list _ _ (hT.bel hbw).sha (Nat.le_trans (pget_len hg2.ok _ _ _) (by decide))).mono ?_))))
        rintro e_ w23 ⟨rfl, hb⟩
        refine cR ?_
        replace hbw := bthen hbw hb
        replace hP := hP.bel hb
        replace hd2 := hd2.bel hb
        replace hE := hE.bel hb
        replace hB12 := hB12.bel hb
        have hz_w23 := hb.size
        clear hb
        refine Wn (hQ_ _ _ ((hL.bel hbw).cellAt (by omega) hux) ?_)
        clear hQ_ hP_ Q_
        refine oL rfl (fun Q_ hQ_ hP_ => (gY (g := 129) rfl rfl rfl (sc _ Tryz.func24 rfl (by kernel_rfl) rfl rfl ((Of_list d _ (hT.bel hbw).sha (by omega)).mono ?_))))
        rintro e_ w24 ⟨rfl, hb⟩
        refine cR ?_
        replace hbw := bthen hbw hb
        replace hP := hP.bel hb
        replace hd2 := hd2.bel hb
        replace hE := hE.bel hb
        replace hB12 := hB12.bel hb
        have hz_w24 := hb.size
        clear hb
        refine Wn (hQ_ _ _ ((hL.bel hbw).cellAt (by omega) hux) ?_)
        clear hQ_ hP_ Q_
        refine oYg (g := 129) rfl rfl rfl rfl (fun W_ hW_ => (X.neSumF (sha_length _) (sha_length _) rfl rfl)) rfl (oY rfl (fun W_ hW_ => (X.pickF rfl rfl)) rfl (oN (nN (W_no rfl ((by rw [hcg.2]; simp)) ?_))))
        refine W_skip (bN (tN (W_reg (sm rfl rfl (st (X.add64 rfl rfl (by omega)) rfl (sa rfl rfl (Wn (tN ⟨_, _, ?_, ⟨i + 1, rfl, rfl, by omega, hP, hd2, hE, hB12, hbw⟩, ⟨rfl, rfl, rfl, rfl, rfl, rfl, rfl, trivial⟩⟩))))))))
        omega
     ·first | replace h101 := of_decide_eq_false h101 | replace h101 := of_decide_eq_true (notF h101) | replace h101 := notF h101 | skip
      refine W_exit (tE (tE (bH (tN (W_rs ?_)))))
      obtain ⟨hb1, hb2, hb3, hb4⟩ := closed_rebuild hW hr h40 hd30 hg2 hLa ks
      refine sm rfl rfl (sm rfl rfl (sc _ Tryz.func28 rfl (by kernel_rfl) rfl rfl ((prebuild_any (n := n) (30 + 1100 * l.length + 30) hd2 hbw.size hg2 (by omega) (hT.bel hbw) (by rw [hop]; show y.1.l.length ≤ _; omega)).mono ?_)))
      rintro e_ w25 ⟨uy, S5, rfl, hEy, hny, hyO, hd5, hS5, hX⟩
      refine cR ?_
      have hbwn := bchg hbw hX (fun k hk => (hd2.lo k hk).1)
      have hul : 0 < (makeM y.1.l).1.length → ∀ {k}, (Value.slice am (makeM y.1.l).1.length cm).ownBlock = some k → k < (w19).heap.size := fun h0 {k} hk => Reads.ownLt hE h0 hk
      replace hE : EntsAt _ _ _ := Reads.chgS hE hX (fun h0 k hk => hnu2 h0 k hk)
      have hn12c : ¬ S5 g12 := fun e => (hS5 _ e).elim hn12b (fun e => by have := hB12.lt; omega)
      replace hB12 := hB12.chg hX hn12b
      have hnu5 : 0 < (makeM y.1.l).1.length → ∀ k, (Value.slice am (makeM y.1.l).1.length cm).ownBlock = some k → ¬ S5 k := fun h0 k hk e => (hS5 k e).elim (hnu2 h0 k hk) (fun e => by have := hul h0 hk; omega)
      rw [hb1] at hEy hny ⊢
      obtain ⟨D5, hD5⟩ : ∃ D', (prebuildM D2 n).2 = D' := ⟨_, rfl⟩
      rw [hD5] at hd5 hb2 hb3 hb4
      clear hX hbw hd2 hul
      have hbw := hbwn
      clear hbwn
      obtain ⟨ay, cy, rfl⟩ : ∃ am cm, uy = .slice am (makeM y.1.l).1.length cm := by obtain ⟨_, am, cm, e, _⟩ := hEy; exact ⟨am, cm, e⟩
      refine sm rfl rfl (st (X.ext rfl rfl) rfl (st (X.ext rfl rfl) rfl ?_))
      have hlo19 := hd5.lo
      have hw19 := hbw.size
      have hlt19 := hB12.lt
      refine salA inf25 rfl (fun g19 w26 hB19 hg19 hb hl19 => ?_)
      replace hbw := bthen hbw hb
      replace hE := hE.bel hb
      replace hB12 := hB12.bel hb
      replace hEy := hEy.bel hb
      replace hd5 := hd5.bel hb
      have hz_w26 := hb.size
      clear hb
      refine ssBN rfl rfl hB19 siz25 rfl (by simp [Value.oneCell']) (fun w27 hB_ hc_ => ?_)
      have hn19 : ¬ S5 g19 := fun e => by have := (hlo19 _ e).2; omega
      replace hE := EntsAt.chgI hE (make_S32 hm3) hB19 hc_
      replace hEy := EntsAt.chgI hEy (make_S32 hm3) hB19 hc_
      replace hd5 := hd5.other hc_ (fun k hk e => by have h1 : k = g19 := hk; subst h1; exact hn19 e)
      replace hB12 := hB12.chg hc_ (by show ¬ g12 = g19; omega)
      replace hbw := bset hbw hc_ (by omega)
      replace hB19 := hB_
      have hz_w27 := hc_.size
      clear hB_ hc_
      refine sa rfl rfl (Wn (tN (W_rs (sm rfl rfl (sm rfl rfl (sc _ Tryz.func35 rfl (by kernel_rfl) rfl rfl ((Crash_any g D5 S5 _ ks _ hd5.at_ hb3.ok (hb3.bud (by omega)) (by have := hb3.few; omega) (hK.bel hbw) (fun h0 k hk h1 => by have := (hd5.lo k h1).1; have := hK.ownLt h0 hk; omega)).mono ?_)))))))
      rintro e_ w28 ⟨rfl, hdk, hX⟩
      refine cR ?_
      have hbwn := bchg hbw hX (fun k hk => (hd5.lo k hk).1)
      have hg6 := crash_good hb3 ks
      replace hE : EntsAt _ _ _ := Reads.chgS hE hX (fun h0 k hk => hnu5 h0 k hk)
      replace hEy : EntsAt _ _ _ := Reads.chgS hEy hX (fun h0 k hk => hny h0 k hk)
      replace hB12 := hB12.chg hX hn12c
      replace hB19 := hB19.chg hX hn19
      clear hX hbw hd5
      have hbw := hbwn
      clear hbwn
      refine Wn (tN (W_rs (sm rfl rfl (sm rfl rfl ?_))))
      have hPl := pload_any (n := n) (B := w.heap.size) hdk hg6.ok (hT.bel hbw) hb4
      rw [hb2] at hPl
      refine sc _ Tryz.func27 rfl (by kernel_rfl) rfl rfl ((hPl).mono ?_)
      rintro e_ w29 ⟨uz, rfl, hEz, hOz, hb⟩
      refine cR ?_
      replace hbw := bthen hbw hb
      replace hE := hE.bel hb
      replace hB12 := hB12.bel hb
      replace hEy := hEy.bel hb
      replace hB19 := hB19.bel hb
      replace hdk := hdk.bel hb
      have hz_w29 := hb.size
      clear hb
      obtain ⟨az, cz, rfl⟩ : ∃ am cm, uz = .slice am (makeM y.1.l).1.length cm := by obtain ⟨_, am, cm, e, _⟩ := hEz; exact ⟨am, cm, e⟩
      refine sm rfl rfl (st (X.ext rfl rfl) rfl (st (X.ext rfl rfl) rfl ?_))
      have hlt21 := hB12.lt
      have hw21 := hbw.size
      have hlt22 := hB19.lt
      refine salA inf25 rfl (fun g21 w30 hB21 hg21 hb hl21 => ?_)
      replace hbw := bthen hbw hb
      replace hE := hE.bel hb
      replace hB12 := hB12.bel hb
      replace hEy := hEy.bel hb
      replace hB19 := hB19.bel hb
      replace hdk := hdk.bel hb
      replace hEz := hEz.bel hb
      have hz_w30 := hb.size
      clear hb
      refine ssBN rfl rfl hB21 siz25 rfl (by simp [Value.oneCell']) (fun w31 hB_ hc_ => ?_)
      replace hE := EntsAt.chgI hE (make_S32 hm3) hB21 hc_
      replace hEy := EntsAt.chgI hEy (make_S32 hm3) hB21 hc_
      replace hEz := EntsAt.chgI hEz (make_S32 hm3) hB21 hc_
      replace hB12 := hB12.chg hc_ (by show ¬ g12 = g21; omega)
      replace hB19 := hB19.chg hc_ (by show ¬ g19 = g21; omega)
      replace hbw := bset hbw hc_ (by omega)
      replace hB21 := hB_
      have hz_w31 := hc_.size
      clear hB_ hc_ hdk
      refine sa rfl rfl (Wn (tN (W_drsN (fun W_ => Blk W_ g12 25 #[.slice am (makeM y.1.l).1.length cm] ∧ Blk W_ g19 25 #[.slice ay (makeM y.1.l).1.length cy] ∧ Blk W_ g21 25 #[.slice az (makeM y.1.l).1.length cz]) [0, 1, 2, 3, 4, 5, 6, 7, 9, 8, 10, 11, 12, 13, 14, 16, 15, 17, 18, 19, 20, 21, 22, 23] [true, true, true, true, true, true, true, true, true, false, false, true, true, true, true, true, false, false, true, true, true, false, true, true] (by kernel_rfl) (by kernel_rfl) (⟨hB12.drew, hB19.drew, hB21.drew⟩) ?_)))
      obtain ⟨w32, hw_⟩ : ∃ w32 : World, w32 = World.drew w31 := ⟨_, rfl⟩
      rw [← hw_]
      have hb : Below w31.heap.size w31 w32 := by rw [hw_]; exact bdrew (Below.refl _ _)
      clear hw_
      have hS := hb
      replace hbw := bthen hbw hb
      replace hE := hE.bel hb
      replace hB12 := hB12.bel hb
      replace hEy := hEy.bel hb
      replace hB19 := hB19.bel hb
      replace hEz := hEz.bel hb
      replace hB21 := hB21.bel hb
      have hz_w32 := hb.size
      clear hb
      refine oY rfl (fun W_ hW_ => (X.move rfl)) rfl (oY rfl (fun W_ hW_ => (X.eql rfl rfl)) rfl (oY rfl (fun W_ hW_ => (X.mvB (c := true) rfl (rfl))) rfl (oYg (g := 156) rfl rfl rfl rfl (fun W_ hW_ => (X.move rfl)) rfl (oYg (g := 156) rfl rfl rfl rfl (fun W_ hW_ => (X.eql rfl rfl)) rfl (oY rfl (fun W_ hW_ => (X.pickT rfl rfl)) rfl (oY rfl (fun W_ hW_ => (X.mvB (c := true) rfl (rfl))) rfl (oYg (g := 160) rfl rfl rfl rfl (fun W_ hW_ => (X.ldBN rfl hW_.2.1 Tryz.underlying25 rfl siz25)) rfl (oYg (g := 160) rfl rfl rfl rfl (fun W_ hW_ => (X.ldBN rfl hW_.1 Tryz.underlying25 rfl siz25)) rfl (oL rfl (fun Q_ hQ_ hP_ => (gY (g := 160) rfl rfl rfl ?_)))))))))))
      refine sc _ Tryz.func36 rfl (by kernel_rfl) rfl rfl ((Encode_any _ _ _ hEy (make_S32 hm3) (by rw [hm2]; omega)).mono ?_)
      rintro e_ w33 ⟨rfl, hb⟩
      refine cR ?_
      replace hbw := bthen hbw hb
      replace hE := hE.bel hb
      replace hB12 := hB12.bel hb
      replace hEy := hEy.bel hb
      replace hB19 := hB19.bel hb
      replace hEz := hEz.bel hb
      replace hB21 := hB21.bel hb
      have hz_w33 := hb.size
      clear hb
      refine Wn (hQ_ _ _ (⟨hB12, hB19, hB21⟩) ?_)
      clear hQ_ hP_ Q_
      refine oL rfl (fun Q_ hQ_ hP_ => (gY (g := 160) rfl rfl rfl (sc _ Tryz.func36 rfl (by kernel_rfl) rfl rfl ((Encode_any _ _ _ hE (make_S32 hm3) (by rw [hm2]; omega)).mono ?_))))
      rintro e_ w34 ⟨rfl, hb⟩
      refine cR ?_
      replace hbw := bthen hbw hb
      replace hE := hE.bel hb
      replace hB12 := hB12.bel hb
      replace hEy := hEy.bel hb
      replace hB19 := hB19.bel hb
      replace hEz := hEz.bel hb
      replace hB21 := hB21.bel hb
      have hz_w34 := hb.size
      clear hb
      refine Wn (hQ_ _ _ (⟨hB12, hB19, hB21⟩) ?_)
      clear hQ_ hP_ Q_
      refine oYg (g := 160) rfl rfl rfl rfl (fun W_ hW_ => (X.eqS rfl rfl)) rfl (oY rfl (fun W_ hW_ => (X.pickT rfl rfl)) rfl (oY rfl (fun W_ hW_ => (X.mvB (c := true) rfl (decide_eq_true rfl))) rfl (oYg (g := 167) rfl rfl rfl rfl (fun W_ hW_ => (X.ldBN rfl hW_.2.2 Tryz.underlying25 rfl siz25)) rfl (oYg (g := 167) rfl rfl rfl rfl (fun W_ hW_ => (X.ldBN rfl hW_.1 Tryz.underlying25 rfl siz25)) rfl (oL rfl (fun Q_ hQ_ hP_ => (gY (g := 167) rfl rfl rfl (sc _ Tryz.func36 rfl (by kernel_rfl) rfl rfl ((Encode_any _ _ _ hEz (make_S32 hm3) (by rw [hm2]; omega)).mono ?_)))))))))
      rintro e_ w35 ⟨rfl, hb⟩
      refine cR ?_
      replace hbw := bthen hbw hb
      replace hE := hE.bel hb
      replace hB12 := hB12.bel hb
      replace hEy := hEy.bel hb
      replace hB19 := hB19.bel hb
      replace hEz := hEz.bel hb
      replace hB21 := hB21.bel hb
      have hz_w35 := hb.size
      clear hb
      refine Wn (hQ_ _ _ (⟨hB12, hB19, hB21⟩) ?_)
      clear hQ_ hP_ Q_
      refine oL rfl (fun Q_ hQ_ hP_ => (gY (g := 167) rfl rfl rfl (sc _ Tryz.func36 rfl (by kernel_rfl) rfl rfl ((Encode_any _ _ _ hE (make_S32 hm3) (by rw [hm2]; omega)).mono ?_))))
      rintro e_ w36 ⟨rfl, hb⟩
      refine cR ?_
      replace hbw := bthen hbw hb
      replace hE := hE.bel hb
      replace hB12 := hB12.bel hb
      replace hEy := hEy.bel hb
      replace hB19 := hB19.bel hb
      replace hEz := hEz.bel hb
      replace hB21 := hB21.bel hb
      have hz_w36 := hb.size
      clear hb
      refine Wn (hQ_ _ _ (⟨hB12, hB19, hB21⟩) ?_)
      clear hQ_ hP_ Q_
      refine oYg (g := 167) rfl rfl rfl rfl (fun W_ hW_ => (X.eqS rfl rfl)) rfl (oY rfl (fun W_ hW_ => (X.pickT rfl rfl)) rfl (oY rfl (fun W_ hW_ => (X.mvB (c := true) rfl (decide_eq_true rfl))) rfl (oL rfl (fun Q_ hQ_ hP_ => (gY (g := 174) rfl rfl rfl (sc _ Tryz.func9 rfl (by kernel_rfl) rfl rfl ((pawake_any _ ((hT.bel hbw).to hbw.size)).mono ?_)))))))
      rintro e_ w37 ⟨rfl, hb⟩
      refine cR ?_
      replace hbw := bthen hbw hb
      replace hE := hE.bel hb
      replace hB12 := hB12.bel hb
      replace hEy := hEy.bel hb
      replace hB19 := hB19.bel hb
      replace hEz := hEz.bel hb
      replace hB21 := hB21.bel hb
      have hz_w37 := hb.size
      clear hb
      refine Wn (hQ_ _ _ (⟨hB12, hB19, hB21⟩) ?_)
      clear hQ_ hP_ Q_
      refine oY rfl (fun W_ hW_ => (X.pickT rfl rfl)) rfl (oY rfl (fun W_ hW_ => (X.assign rfl)) rfl (oN (nN (W_ret ?_))))
      exact (rT rfl rfl ⟨rfl, hbw⟩).1
end Go.Proofs.YtnlabkogebnioaaGreatDoor
