/- law01: the document's disk beside the program's: asked, Same. -/
import Derived.Test.YtnijmegalgoipaaGreatDoorRefD6
import Derived.Test.YtnijmegalgoipaaGreatDoorDiskX
namespace Go.Proofs.YtnijmegalgoipaaGreatDoor
open Go.RowKit
theorem nilEqPr (w : World) (a : Addr) : (binOp .eql 27 (.pointer (some a)) (.pointer none)).run Tryz.prog w = .ok (.bool false) w := by kernel_rfl
theorem nilEqNr (w : World) : (binOp .eql 27 (.pointer none) (.pointer none)).run Tryz.prog w = .ok (.bool true) w := by kernel_rfl
theorem X.rEq {l : Env} {x : Operand} {w : World} {t' ty : TypeId} {p : Option Addr} (hx : ev l x = some (.pointer p)) : X Tryz.prog l (.binOp .eql 27 x (.const (.pointer none)) t') ty w (.bool p.isNone) w :=
  X.bin hx rfl guard_ptr (by cases p with | none => exact nilEqNr w | some a => exact nilEqPr w a)
theorem RDisk.chg {w w' : World} {g : Nat} {D : DiskD} {S T : Nat → Prop} (h : RDisk w g D S) (hC : Chg T w w') (hs : ∀ k, S k → ¬ T k) : RDisk w' g D S := by
  obtain ⟨vF, rs, h1, h2⟩ := h
  exact ⟨vF, rs, h1.chg hC ⟨hs _ h2.g, fun k hk => hs k (h2.vF k hk), fun q hq k hk => hs k (h2.v q hq k hk)⟩, h2⟩
/-- the document's disk, whose blocks are not below B -/
structure ROwn (B : Nat) (w : World) (g : Nat) (D : DiskD) (S : Nat → Prop) : Prop where
  at_ : RDisk w g D S
  lo : ∀ k, S k → B ≤ k ∧ k < w.heap.size
section
variable {B g c : Nat} {w w' w'' : World} {D D' E : DiskD} {S T : Nat → Prop}
theorem ROwn.bel (h : ROwn B w g D S) (hb : Below w.heap.size w w') : ROwn B w' g D S := ⟨h.at_.bel hb, fun k hk => by have := h.lo k hk; have := hb.size; omega⟩
theorem ROwn.step (h : ROwn B w g D S) (hD : RDisk w' g D' (Ext S w w')) (hC : Chg S w w') (hB : B ≤ w.heap.size) : ROwn B w' g D' (Ext S w w') :=
  ⟨hD, fun k hk => by
    have := hC.size
    rcases hk with hk | hk
    · have := h.lo k hk; omega
    · omega⟩
theorem ROwn.other (h : ROwn B w c E T) (hC : Chg S w w') (hd : ∀ k, S k → ¬ T k) : ROwn B w' c E T := ⟨h.at_.chg hC (fun k hk e => hd k e hk), fun k hk => by have := h.lo k hk; have := hC.size; omega⟩
theorem ROwn.ext (h : ROwn B w c E T) (hd : ∀ k, S k → ¬ T k) : ∀ k, Ext S w w' k → ¬ T k := Ext.apart hd (fun k hk => (h.lo k hk).2)
theorem Ext.flip (hd : ∀ k, T k → ¬ S k) : ∀ k, S k → ¬ T k := fun k h1 h2 => hd k h2 h1
end
set_option maxRecDepth 10000 in
theorem asked_any (g : Nat) (D : DiskD) (S : Nat → Prop) (o : OpM) (n : Nat) (w : World) (hd : RDisk w g D S) (hg : Good n D) (hn : n ≤ 900000) (ho : o.ok w) (hf : fewO o = true) (hPS : 0 < o.picks.length → ∀ k, o.vp.ownBlock = some k → ¬ S k) (hSw : ∀ k, S k → k < w.heap.size) :
    Calls Tryz.prog 14 #[.pointer (some ⟨g, 0, none⟩), .agg o.cells.toArray] w fun e w' => e = .returned (.tuple #[str (doesM D o).1.1, .int .i64 (doesM D o).1.2.1, .int .i64 (doesM D o).1.2.2]) ∧ RDisk w' g (doesM D o).2 (Ext S w w') ∧ Chg S w w' := by
  have hdl : o.data.length ≤ 300 ∧ o.name.length ≤ 300 ∧ o.to_.length ≤ 300 := by
    unfold fewO at hf
    simp only [Bool.and_eq_true, decide_eq_true_eq] at hf
    omega
  have hK := ho.picks
  obtain ⟨ap, cp, hvp, hcp, _⟩ := hK.shape
  rw [hvp] at hK hPS
  have hcells : o.cells.toArray = #[.int .i64 o.ask, str o.name, str o.to_, .int .i64 o.at_, .int .i64 o.n, str o.data, .slice ap o.picks.length cp] := by rw [← hvp]; rfl
  rw [hcells]
  have hok := hg.ok
  have hbud := hg.bud (by omega)
  have hfew := hg.few
  unfold doesM
  refine W_enter (args := [.pointer (some ⟨g, 0, none⟩), .agg #[.int .i64 o.ask, str o.name, str o.to_, .int .i64 o.at_, .int .i64 o.n, str o.data, .slice ap o.picks.length cp]]) 104 Tryz.func14 rfl rfl rfl ?_
  refine W_sub [(0, .pointer (some ⟨g, 0, none⟩)), (1, .agg #[.int .i64 o.ask, str o.name, str o.to_, .int .i64 o.at_, .int .i64 o.n, str o.data, .slice ap o.picks.length cp])] ?_ ⟨rfl, rfl, trivial⟩
  have hbw := Below.refl w.heap.size w
  refine W_rs ?_
  refine sboxA rfl rfl (fun g3 w1 hB3 hg3 hb hl3 => ?_)
  replace hbw := bthen hbw hb
  replace hd := hd.bel hb
  replace hK := hK.bel hb
  have hz_w1 := hb.size
  clear hb
  refine sa rfl rfl ?_
  refine sa rfl rfl ?_
  refine sa rfl rfl ?_
  refine Wn ?_
  refine tN ?_
  refine W_seq ?_
  refine W_rs ?_
  refine st (X.fa fa36_0 rfl) rfl ?_
  refine st (X.ldL rfl hB3 Tryz.underlying3 rfl rfl) rfl ?_
  refine Wn ?_
  refine tN ?_
  refine W_block ?_
  refine W_rs ?_
  refine st (X.eql rfl rfl) rfl ?_
  refine sa rfl rfl ?_
  refine Wn ?_
  refine tN ?_
  refine W_if rfl (fun h13 => ?_) (fun h13 => ?_)
  · first | replace h13 := of_decide_eq_true h13 | replace h13 := of_decide_eq_false (notT h13) | replace h13 := notT h13 | skip
    refine W_rs ?_
    refine sm rfl rfl ?_
    refine st (X.fa fa36_1 rfl) rfl ?_
    refine st (X.ldL rfl hB3 Tryz.underlying9 rfl rfl) rfl ?_
    refine sc _ Tryz.func50 rfl (by kernel_rfl) rfl rfl ((RCreate_any g D S _ hd o.name hok (by omega) (by omega)).mono ?_)
    rintro e_ w2 ⟨rfl, h1, hX⟩
    refine cR ?_
    refine sa rfl rfl ?_
    refine sa rfl rfl ?_
    refine sa rfl rfl ?_
    refine Wn ?_
    refine tN ?_
    refine W_ret (bR (tR ?_))
    simp only [if_pos h13]
    exact (rTTT rfl rfl rfl rfl ⟨rfl, h1.mono (Ext.up hbw.size), (Chg.of_below hbw S).next hX (fun i hi => .inl hi)⟩).1
  · first | replace h13 := of_decide_eq_false h13 | replace h13 := of_decide_eq_true (notF h13) | replace h13 := notF h13 | skip
    refine W_rs ?_
    refine st (X.eql rfl rfl) rfl ?_
    refine sa rfl rfl ?_
    refine Wn ?_
    refine tN ?_
    refine W_if rfl (fun h19 => ?_) (fun h19 => ?_)
    · first | replace h19 := of_decide_eq_true h19 | replace h19 := of_decide_eq_false (notT h19) | replace h19 := notT h19 | skip
      refine W_rs ?_
      refine sm rfl rfl ?_
      refine st (X.fa fa36_1 rfl) rfl ?_
      refine st (X.ldL rfl hB3 Tryz.underlying9 rfl rfl) rfl ?_
      refine st (X.fa fa36_5 rfl) rfl ?_
      refine st (X.ldL rfl hB3 Tryz.underlying9 rfl rfl) rfl ?_
      refine sc _ Tryz.func51 rfl (by kernel_rfl) rfl rfl ((RAppend_any g D S _ hd o.name o.data hok hbud (by omega)).mono ?_)
      rintro e_ w3 ⟨rfl, h1, hX⟩
      refine cR ?_
      refine sa rfl rfl ?_
      refine sa rfl rfl ?_
      refine sa rfl rfl ?_
      refine Wn ?_
      refine tN ?_
      refine W_ret (bR (tR ?_))
      simp only [if_neg h13, if_pos h19]
      exact (rTTT rfl rfl rfl rfl ⟨rfl, h1.mono (Ext.up hbw.size), (Chg.of_below hbw S).next hX (fun i hi => .inl hi)⟩).1
    · first | replace h19 := of_decide_eq_false h19 | replace h19 := of_decide_eq_true (notF h19) | replace h19 := notF h19 | skip
      refine W_rs ?_
      refine st (X.eql rfl rfl) rfl ?_
      refine sa rfl rfl ?_
      refine Wn ?_
      refine tN ?_
      refine W_if rfl (fun h27 => ?_) (fun h27 => ?_)
      · first | replace h27 := of_decide_eq_true h27 | replace h27 := of_decide_eq_false (notT h27) | replace h27 := notT h27 | skip
        refine W_rs ?_
        refine sm rfl rfl ?_
        refine st (X.fa fa36_1 rfl) rfl ?_
        refine st (X.ldL rfl hB3 Tryz.underlying9 rfl rfl) rfl ?_
        refine st (X.fa fa36_3 rfl) rfl ?_
        refine st (X.ldL rfl hB3 Tryz.underlying3 rfl rfl) rfl ?_
        refine st (X.fa fa36_5 rfl) rfl ?_
        refine st (X.ldL rfl hB3 Tryz.underlying9 rfl rfl) rfl ?_
        refine sc _ Tryz.func52 rfl (by kernel_rfl) rfl rfl ((RWrite_any g D S _ hd o.name o.at_ o.data hok hbud (by omega)).mono ?_)
        rintro e_ w4 ⟨rfl, h1, hX⟩
        refine cR ?_
        refine sa rfl rfl ?_
        refine sa rfl rfl ?_
        refine sa rfl rfl ?_
        refine Wn ?_
        refine tN ?_
        refine W_ret (bR (tR ?_))
        simp only [if_neg h13, if_neg h19, if_pos h27]
        exact (rTTT rfl rfl rfl rfl ⟨rfl, h1.mono (Ext.up hbw.size), (Chg.of_below hbw S).next hX (fun i hi => .inl hi)⟩).1
      · first | replace h27 := of_decide_eq_false h27 | replace h27 := of_decide_eq_true (notF h27) | replace h27 := notF h27 | skip
        refine W_rs ?_
        refine st (X.eql rfl rfl) rfl ?_
        refine sa rfl rfl ?_
        refine Wn ?_
        refine tN ?_
        refine W_if rfl (fun h37 => ?_) (fun h37 => ?_)
        · first | replace h37 := of_decide_eq_true h37 | replace h37 := of_decide_eq_false (notT h37) | replace h37 := notT h37 | skip
          refine W_rs ?_
          refine sm rfl rfl ?_
          refine st (X.fa fa36_1 rfl) rfl ?_
          refine st (X.ldL rfl hB3 Tryz.underlying9 rfl rfl) rfl ?_
          refine sc _ Tryz.func53 rfl (by kernel_rfl) rfl rfl ((RSync_any g D S _ hd o.name hok hbud).mono ?_)
          rintro e_ w5 ⟨rfl, h1, hX⟩
          refine cR ?_
          refine sa rfl rfl ?_
          refine sa rfl rfl ?_
          refine sa rfl rfl ?_
          refine Wn ?_
          refine tN ?_
          refine W_ret (bR (tR ?_))
          simp only [if_neg h13, if_neg h19, if_neg h27, if_pos h37]
          exact (rTTT rfl rfl rfl rfl ⟨rfl, h1.mono (Ext.up hbw.size), (Chg.of_below hbw S).next hX (fun i hi => .inl hi)⟩).1
        · first | replace h37 := of_decide_eq_false h37 | replace h37 := of_decide_eq_true (notF h37) | replace h37 := notF h37 | skip
          refine W_rs ?_
          refine st (X.eql rfl rfl) rfl ?_
          refine sa rfl rfl ?_
          refine Wn ?_
          refine tN ?_
          refine W_if rfl (fun h43 => ?_) (fun h43 => ?_)
          · first | replace h43 := of_decide_eq_true h43 | replace h43 := of_decide_eq_false (notT h43) | replace h43 := notT h43 | skip
            refine W_rs ?_
            refine sm rfl rfl ?_
            refine st (X.fa fa36_1 rfl) rfl ?_
            refine st (X.ldL rfl hB3 Tryz.underlying9 rfl rfl) rfl ?_
            refine st (X.fa fa36_2 rfl) rfl ?_
            refine st (X.ldL rfl hB3 Tryz.underlying9 rfl rfl) rfl ?_
            refine sc _ Tryz.func54 rfl (by kernel_rfl) rfl rfl ((RRename_any g D S _ hd o.name o.to_ hok (by omega) (by omega)).mono ?_)
            rintro e_ w6 ⟨rfl, h1, hX⟩
            refine cR ?_
            refine sa rfl rfl ?_
            refine sa rfl rfl ?_
            refine sa rfl rfl ?_
            refine Wn ?_
            refine tN ?_
            refine W_ret (bR (tR ?_))
            simp only [if_neg h13, if_neg h19, if_neg h27, if_neg h37, if_pos h43]
            exact (rTTT rfl rfl rfl rfl ⟨rfl, h1.mono (Ext.up hbw.size), (Chg.of_below hbw S).next hX (fun i hi => .inl hi)⟩).1
          · first | replace h43 := of_decide_eq_false h43 | replace h43 := of_decide_eq_true (notF h43) | replace h43 := notF h43 | skip
            refine W_rs ?_
            refine st (X.eql rfl rfl) rfl ?_
            refine sa rfl rfl ?_
            refine Wn ?_
            refine tN ?_
            refine W_if rfl (fun h51 => ?_) (fun h51 => ?_)
            · first | replace h51 := of_decide_eq_true h51 | replace h51 := of_decide_eq_false (notT h51) | replace h51 := notT h51 | skip
              refine W_rs ?_
              refine sm rfl rfl ?_
              refine st (X.fa fa36_1 rfl) rfl ?_
              refine st (X.ldL rfl hB3 Tryz.underlying9 rfl rfl) rfl ?_
              refine sc _ Tryz.func55 rfl (by kernel_rfl) rfl rfl ((RRemove_any g D S _ hd o.name hok (by omega)).mono ?_)
              rintro e_ w7 ⟨rfl, h1, hX⟩
              refine cR ?_
              refine sa rfl rfl ?_
              refine sa rfl rfl ?_
              refine sa rfl rfl ?_
              refine Wn ?_
              refine tN ?_
              refine W_ret (bR (tR ?_))
              simp only [if_neg h13, if_neg h19, if_neg h27, if_neg h37, if_neg h43, if_pos h51]
              exact (rTTT rfl rfl rfl rfl ⟨rfl, h1.mono (Ext.up hbw.size), (Chg.of_below hbw S).next hX (fun i hi => .inl hi)⟩).1
            · first | replace h51 := of_decide_eq_false h51 | replace h51 := of_decide_eq_true (notF h51) | replace h51 := notF h51 | skip
              refine W_rs ?_
              refine st (X.eql rfl rfl) rfl ?_
              refine sa rfl rfl ?_
              refine Wn ?_
              refine tN ?_
              refine W_if rfl (fun h57 => ?_) (fun h57 => ?_)
              · first | replace h57 := of_decide_eq_true h57 | replace h57 := of_decide_eq_false (notT h57) | replace h57 := notT h57 | skip
                refine W_rs ?_
                refine sm rfl rfl ?_
                refine st (X.fa fa36_6 rfl) rfl ?_
                refine st (X.ldL rfl hB3 Tryz.underlying34 rfl rfl) rfl ?_
                refine sc _ Tryz.func37 rfl (by kernel_rfl) rfl rfl ((RCrash_any g D S _ hd _ o.picks hok hbud hK hPS).mono ?_)
                rintro e_ w8 ⟨rfl, h1, hX⟩
                refine cR ?_
                refine Wn ?_
                refine tN ?_
                refine W_rs ?_
                refine sa rfl rfl ?_
                refine sa rfl rfl ?_
                refine sa rfl rfl ?_
                refine Wn ?_
                refine tN ?_
                refine W_ret (bR (tR ?_))
                simp only [if_neg h13, if_neg h19, if_neg h27, if_neg h37, if_neg h43, if_neg h51, if_pos h57]
                exact (rTTT rfl rfl rfl rfl ⟨rfl, h1.mono (Ext.up hbw.size), (Chg.of_below hbw S).next hX (fun i hi => .inl hi)⟩).1
              · first | replace h57 := of_decide_eq_false h57 | replace h57 := of_decide_eq_true (notF h57) | replace h57 := notF h57 | skip
                refine W_rs ?_
                refine st (X.eql rfl rfl) rfl ?_
                refine sa rfl rfl ?_
                refine Wn ?_
                refine tN ?_
                refine W_if rfl (fun h63 => ?_) (fun h63 => ?_)
                · first | replace h63 := of_decide_eq_true h63 | replace h63 := of_decide_eq_false (notT h63) | replace h63 := notT h63 | skip
                  refine W_drsN (fun W_ => Blk W_ g3 36 #[.int .i64 o.ask, str o.name, str o.to_, .int .i64 o.at_, .int .i64 o.n, str o.data, .slice ap o.picks.length cp]) [0, 1, 2, 3, 4, 5, 6, 7, 8, 9, 10, 11] [true, true, true, true, true, true, true, false, false, true, true, true] (by kernel_rfl) (by kernel_rfl) (hB3.drew) ?_
                  obtain ⟨w9, hw_⟩ : ∃ w9 : World, w9 = World.drew w1 := ⟨_, rfl⟩
                  rw [← hw_]
                  have hb : Below w1.heap.size w1 w9 := by rw [hw_]; exact bdrew (Below.refl _ _)
                  clear hw_
                  have hS := hb
                  replace hbw := bthen hbw hb
                  replace hd := hd.bel hb
                  replace hK := hK.bel hb
                  replace hB3 := hB3.bel hb
                  have hz_w9 := hb.size
                  clear hb
                  refine oY rfl (fun W_ hW_ => (X.move rfl)) rfl ?_
                  refine oY rfl (fun W_ hW_ => (X.fa fa36_1 rfl)) rfl ?_
                  refine oY rfl (fun W_ hW_ => (X.ldL rfl hW_ Tryz.underlying9 rfl rfl)) rfl ?_
                  refine oY rfl (fun W_ hW_ => (X.fa fa36_3 rfl)) rfl ?_
                  refine oY rfl (fun W_ hW_ => (X.ldL rfl hW_ Tryz.underlying3 rfl rfl)) rfl ?_
                  refine oY rfl (fun W_ hW_ => (X.fa fa36_5 rfl)) rfl ?_
                  refine oY rfl (fun W_ hW_ => (X.ldL rfl hW_ Tryz.underlying9 rfl rfl)) rfl ?_
                  refine oL rfl (fun Q_ hQ_ hP_ => ?_)
                  refine sc _ Tryz.func49 rfl (by kernel_rfl) rfl rfl ((first_any o.data _ (by omega)).mono ?_)
                  rintro e_ w10 ⟨rfl, hb⟩
                  refine cR ?_
                  replace hbw := bthen hbw hb
                  replace hd := hd.bel hb
                  replace hK := hK.bel hb
                  replace hB3 := hB3.bel hb
                  have hz_w10 := hb.size
                  clear hb
                  refine Wn (hQ_ _ _ (hB3) ?_)
                  clear hQ_ hP_ Q_
                  refine oL rfl (fun Q_ hQ_ hP_ => ?_)
                  refine sc _ Tryz.func56 rfl (by kernel_rfl) rfl rfl ((RRot_any g D S _ hd o.name o.at_ _ hok hbud).mono ?_)
                  rintro e_ w11 ⟨rfl, h1, hX⟩
                  refine cR ?_
                  replace hB3 := hB3.chg hX (fun e => by have := hSw _ e; omega)
                  refine Wn (hQ_ _ _ (hB3) ?_)
                  clear hQ_ hP_ Q_
                  refine oY rfl (fun W_ hW_ => (X.assign rfl)) rfl ?_
                  refine oY rfl (fun W_ hW_ => (X.assign rfl)) rfl ?_
                  refine oY rfl (fun W_ hW_ => (X.assign rfl)) rfl ?_
                  refine oN ?_
                  refine nN ?_
                  refine W_ret (bR (tR ?_))
                  simp only [if_neg h13, if_neg h19, if_neg h27, if_neg h37, if_neg h43, if_neg h51, if_neg h57, if_pos h63]
                  exact (rTTT rfl rfl rfl rfl ⟨rfl, h1.mono (Ext.up hbw.size), (Chg.of_below hbw S).next hX (fun i hi => .inl hi)⟩).1
                · first | replace h63 := of_decide_eq_false h63 | replace h63 := of_decide_eq_true (notF h63) | replace h63 := notF h63 | skip
                  refine W_rs ?_
                  refine st (X.eql rfl rfl) rfl ?_
                  refine sa rfl rfl ?_
                  refine Wn ?_
                  refine tN ?_
                  refine W_if rfl (fun h74 => ?_) (fun h74 => ?_)
                  · first | replace h74 := of_decide_eq_true h74 | replace h74 := of_decide_eq_false (notT h74) | replace h74 := notT h74 | skip
                    refine W_rs ?_
                    refine sm rfl rfl ?_
                    refine st (X.fa fa36_1 rfl) rfl ?_
                    refine st (X.ldL rfl hB3 Tryz.underlying9 rfl rfl) rfl ?_
                    refine st (X.fa fa36_3 rfl) rfl ?_
                    refine st (X.ldL rfl hB3 Tryz.underlying3 rfl rfl) rfl ?_
                    refine st (X.fa fa36_4 rfl) rfl ?_
                    refine st (X.ldL rfl hB3 Tryz.underlying3 rfl rfl) rfl ?_
                    refine sc _ Tryz.func57 rfl (by kernel_rfl) rfl rfl ((RRead_any g D S _ hd o.name o.at_ o.n hok hbud).mono ?_)
                    rintro e_ w12 ⟨rfl, hb⟩
                    refine cR ?_
                    replace hbw := bthen hbw hb
                    replace hd := hd.bel hb
                    replace hK := hK.bel hb
                    replace hB3 := hB3.bel hb
                    have hz_w12 := hb.size
                    clear hb
                    refine sm rfl rfl ?_
                    refine st (X.ext rfl rfl) rfl ?_
                    refine st (X.ext rfl rfl) rfl ?_
                    refine sa rfl rfl ?_
                    refine sa rfl rfl ?_
                    refine Wn ?_
                    refine tN ?_
                    refine W_rs ?_
                    refine sm rfl rfl ?_
                    refine sm rfl rfl ?_
                    refine sa rfl rfl ?_
                    refine sa rfl rfl ?_
                    refine sa rfl rfl ?_
                    refine Wn ?_
                    refine tN ?_
                    refine W_ret (bR (tR ?_))
                    simp only [if_neg h13, if_neg h19, if_neg h27, if_neg h37, if_neg h43, if_neg h51, if_neg h57, if_neg h63, if_pos h74]
                    exact (rTTT rfl rfl rfl rfl ⟨rfl, hd.mono Ext.of, Chg.of_below hbw S⟩).1
                  · first | replace h74 := of_decide_eq_false h74 | replace h74 := of_decide_eq_true (notF h74) | replace h74 := notF h74 | skip
                    refine W_rs ?_
                    refine st (X.eql rfl rfl) rfl ?_
                    refine sa rfl rfl ?_
                    refine Wn ?_
                    refine tN ?_
                    refine W_if rfl (fun h89 => ?_) (fun h89 => ?_)
                    · first | replace h89 := of_decide_eq_true h89 | replace h89 := of_decide_eq_false (notT h89) | replace h89 := notT h89 | skip
                      refine W_rs ?_
                      refine sm rfl rfl ?_
                      refine st (X.fa fa36_4 rfl) rfl ?_
                      refine st (X.ldL rfl hB3 Tryz.underlying3 rfl rfl) rfl ?_
                      refine sc _ Tryz.func58 rfl (by kernel_rfl) rfl rfl ((RStop_any g D S _ hd o.n).mono ?_)
                      rintro e_ w13 ⟨rfl, h1, hX⟩
                      refine cR ?_
                      refine Wn ?_
                      refine tN ?_
                      refine W_rs ?_
                      refine sa rfl rfl ?_
                      refine sa rfl rfl ?_
                      refine sa rfl rfl ?_
                      refine Wn ?_
                      refine tN ?_
                      refine W_ret (bR (tR ?_))
                      simp only [if_neg h13, if_neg h19, if_neg h27, if_neg h37, if_neg h43, if_neg h51, if_neg h57, if_neg h63, if_neg h74, if_pos h89]
                      exact (rTTT rfl rfl rfl rfl ⟨rfl, h1.mono Ext.of, (Chg.of_below hbw S).next hX (fun i hi => .inl hi)⟩).1
                    · first | replace h89 := of_decide_eq_false h89 | replace h89 := of_decide_eq_true (notF h89) | replace h89 := notF h89 | skip
                      refine W_skip ?_
                      refine bN ?_
                      refine tN ?_
                      refine W_rs ?_
                      refine sm rfl rfl ?_
                      refine st (X.fa fa36_1 rfl) rfl ?_
                      refine st (X.ldL rfl hB3 Tryz.underlying9 rfl rfl) rfl ?_
                      refine sc _ Tryz.func59 rfl (by kernel_rfl) rfl rfl ((RSize_any g D S _ hd o.name hok hbud).mono ?_)
                      rintro e_ w14 ⟨rfl, hb⟩
                      refine cR ?_
                      replace hbw := bthen hbw hb
                      replace hd := hd.bel hb
                      replace hK := hK.bel hb
                      replace hB3 := hB3.bel hb
                      have hz_w14 := hb.size
                      clear hb
                      refine sm rfl rfl ?_
                      refine st (X.ext rfl rfl) rfl ?_
                      refine st (X.ext rfl rfl) rfl ?_
                      refine sa rfl rfl ?_
                      refine sa rfl rfl ?_
                      refine Wn ?_
                      refine tN ?_
                      refine W_rs ?_
                      refine sm rfl rfl ?_
                      refine sm rfl rfl ?_
                      refine sa rfl rfl ?_
                      refine sa rfl rfl ?_
                      refine sa rfl rfl ?_
                      refine Wn ?_
                      refine tN ?_
                      refine W_ret ?_
                      simp only [if_neg h13, if_neg h19, if_neg h27, if_neg h37, if_neg h43, if_neg h51, if_neg h57, if_neg h63, if_neg h74, if_neg h89]
                      exact (rTTT rfl rfl rfl rfl ⟨rfl, hd.mono Ext.of, Chg.of_below hbw S⟩).1
theorem readM_all {D : DiskD} {n : Key} {f : FileD} (hok : DOk D) (hg : mget D.files n = some f) : readM D n 0 1073741824 = (f.now, 0) := by
  have := (hok.len hg).1
  unfold readM
  rw [hg]
  simp only
  rw [if_neg (by omega), show (0 : Int).toNat = 0 from rfl, List.drop_zero, List.take_of_length_le (by omega)]
theorem sizeM_some {D : DiskD} {n : Key} {f : FileD} (hg : mget D.files n = some f) : sizeM D n = ((f.now.length : Int), 0) := by
  unfold sizeM
  rw [hg]
set_option maxRecDepth 10000 in
theorem Same1_any (g r : Nat) (D : DiskD) (S T : Nat → Prop) (n : Nat) (w : World) (hd : DiskAt w g D S) (hr : RDisk w r D T) (hg : Good n D) (hn : n ≤ 900000) :
    Calls Tryz.prog 15 #[.pointer (some ⟨g, 0, none⟩), .pointer (some ⟨r, 0, none⟩)] w fun e w' => e = .returned (.bool true) ∧ Below w.heap.size w w' := by
  obtain ⟨vF, rs, hI, hh⟩ := hr
  have hok := hg.ok
  have hbud := hg.bud (by omega)
  have hfew := hg.few
  have hB := hI.blk
  obtain ⟨a, c, rfl, hc1, hc2⟩ := hI.row.shape
  have hnn := hI.row.nle
  have hlen := hI.len
  have hnl : (namesM D).length = rs.length := by rw [hI.len]; simp [namesM]
  refine W_enter (args := [.pointer (some ⟨g, 0, none⟩), .pointer (some ⟨r, 0, none⟩)]) 109 Tryz.func15 rfl rfl rfl ?_
  refine W_sub [(0, .pointer (some ⟨g, 0, none⟩)), (1, .pointer (some ⟨r, 0, none⟩))] ?_ ⟨rfl, rfl, trivial⟩
  have hbw := Below.refl w.heap.size w
  refine W_rs ?_
  refine sa rfl rfl ?_
  refine Wn ?_
  refine tN ?_
  refine W_rs ?_
  refine sm rfl rfl ?_
  refine sc _ Tryz.func28 rfl (by kernel_rfl) rfl rfl ((List_any g D S _ hd hok.srt (by omega)).mono ?_)
  rintro e_ w1 ⟨vL, rfl, hL, hO, hb⟩
  refine cR ?_
  replace hbw := bthen hbw hb
  replace hd := hd.bel hb
  replace hI := hI.bel hb
  replace hB := hB.bel hb
  have hz_w1 := hb.size
  clear hb
  rw [hnl] at hL
  clear hO
  obtain ⟨al, cl, rfl, hcl1, hcl2⟩ := hL.shape
  refine sa rfl rfl ?_
  refine Wn ?_
  refine tN ?_
  refine W_seq ?_
  refine W_drsN (fun W_ => Blk W_ r 83 #[.slice a rs.length c, .int .i64 D.limit, .int .i64 D.refused, .bool D.stops, .int .i64 D.left]) [0, 1, 2, 3, 4, 5, 6, 7, 8, 9, 11, 10, 12, 13, 14, 15, 16, 18, 19, 20, 21, 17, 22, 23, 24, 25, 27, 28, 29, 30, 26, 31, 32] [true, true, true, true, true, true, true, true, true, true, true, false, false, true, true, true, true, true, true, true, true, false, true, true, true, true, true, true, true, true, false, true, true] (by kernel_rfl) (by kernel_rfl) (hB.bel (bdrew (Below.refl _ _))) ?_
  obtain ⟨w2, hw_⟩ : ∃ w2 : World, w2 = World.drew w1 := ⟨_, rfl⟩
  rw [← hw_]
  have hb : Below w1.heap.size w1 w2 := by rw [hw_]; exact bdrew (Below.refl _ _)
  clear hw_
  have hS := hb
  replace hbw := bthen hbw hb
  replace hd := hd.bel hb
  replace hI := hI.bel hb
  replace hB := hB.bel hb
  replace hL := hL.bel hb
  have hz_w2 := hb.size
  clear hb
  refine oY rfl (fun W_ hW_ => (X.move rfl)) rfl ?_
  refine oY rfl (fun W_ hW_ => (X.lenL rfl rfl Tryz.underlying42)) rfl ?_
  refine oY rfl (fun W_ hW_ => (X.move rfl)) rfl ?_
  refine oY rfl (fun W_ hW_ => (X.nilChk rfl)) rfl ?_
  refine oY rfl (fun W_ hW_ => (X.fa fa83_0 rfl)) rfl ?_
  refine oY rfl (fun W_ hW_ => (X.ldL rfl hW_ Tryz.underlying81 rfl rfl)) rfl ?_
  refine oY rfl (fun W_ hW_ => (X.lenL rfl rfl Tryz.underlying81)) rfl ?_
  refine oY rfl (fun W_ hW_ => (X.neq rfl rfl)) rfl ?_
  refine oY rfl (fun W_ hW_ => (X.mvB (c := false) rfl (decide_eq_false (by simp)))) rfl ?_
  refine oYg (g := 21) rfl rfl rfl rfl (fun W_ hW_ => (X.move rfl)) rfl ?_
  refine oYg (g := 21) rfl rfl rfl rfl (fun W_ hW_ => (X.move rfl)) rfl ?_
  refine oL rfl (fun Q_ hQ_ hP_ => ?_)
  refine gY (g := 21) rfl rfl rfl ?_
  refine sc _ Tryz.func39 rfl (by kernel_rfl) rfl rfl ((Used_any g D S _ hd).mono ?_)
  rintro e_ w3 ⟨rfl, hb⟩
  refine cR ?_
  replace hbw := bthen hbw hb
  replace hd := hd.bel hb
  replace hI := hI.bel hb
  replace hB := hB.bel hb
  replace hL := hL.bel hb
  have hz_w3 := hb.size
  clear hb
  refine Wn (hQ_ _ _ (hB) ?_)
  clear hQ_ hP_ Q_
  refine oL rfl (fun Q_ hQ_ hP_ => ?_)
  refine gY (g := 21) rfl rfl rfl ?_
  refine sc _ Tryz.func40 rfl (by kernel_rfl) rfl rfl ((RUsed_any r D _ rs _ hI hok hbud).mono ?_)
  rintro e_ w4 ⟨rfl, hb⟩
  refine cR ?_
  replace hbw := bthen hbw hb
  replace hd := hd.bel hb
  replace hI := hI.bel hb
  replace hB := hB.bel hb
  replace hL := hL.bel hb
  have hz_w4 := hb.size
  clear hb
  refine Wn (hQ_ _ _ (hB) ?_)
  clear hQ_ hP_ Q_
  refine oYg (g := 21) rfl rfl rfl rfl (fun W_ hW_ => (X.neq rfl rfl)) rfl ?_
  refine oY rfl (fun W_ hW_ => (X.pickF rfl rfl)) rfl ?_
  refine oY rfl (fun W_ hW_ => (X.mvB (c := false) rfl (decide_eq_false (by simp)))) rfl ?_
  refine oYg (g := 28) rfl rfl rfl rfl (fun W_ hW_ => (X.move rfl)) rfl ?_
  refine oYg (g := 28) rfl rfl rfl rfl (fun W_ hW_ => (X.move rfl)) rfl ?_
  refine oYg (g := 28) rfl rfl rfl rfl (fun W_ hW_ => (X.nilChk rfl)) rfl ?_
  refine oYg (g := 28) rfl rfl rfl rfl (fun W_ hW_ => (X.fa fa83_2 rfl)) rfl ?_
  refine oYg (g := 28) rfl rfl rfl rfl (fun W_ hW_ => (X.ldL rfl hW_ Tryz.underlying3 rfl rfl)) rfl ?_
  refine oL rfl (fun Q_ hQ_ hP_ => ?_)
  refine gY (g := 28) rfl rfl rfl ?_
  refine sc _ Tryz.func60 rfl (by kernel_rfl) rfl rfl ((Refused_any g D S _ hd).mono ?_)
  rintro e_ w5 ⟨rfl, hb⟩
  refine cR ?_
  replace hbw := bthen hbw hb
  replace hd := hd.bel hb
  replace hI := hI.bel hb
  replace hB := hB.bel hb
  replace hL := hL.bel hb
  have hz_w5 := hb.size
  clear hb
  refine Wn (hQ_ _ _ (hB) ?_)
  clear hQ_ hP_ Q_
  refine oYg (g := 28) rfl rfl rfl rfl (fun W_ hW_ => (X.neq rfl rfl)) rfl ?_
  refine oY rfl (fun W_ hW_ => (X.pickF rfl rfl)) rfl ?_
  refine oY rfl (fun W_ hW_ => (X.mvB (c := false) rfl (decide_eq_false (by simp)))) rfl ?_
  refine oYg (g := 37) rfl rfl rfl rfl (fun W_ hW_ => (X.move rfl)) rfl ?_
  refine oYg (g := 37) rfl rfl rfl rfl (fun W_ hW_ => (X.move rfl)) rfl ?_
  refine oYg (g := 37) rfl rfl rfl rfl (fun W_ hW_ => (X.nilChk rfl)) rfl ?_
  refine oYg (g := 37) rfl rfl rfl rfl (fun W_ hW_ => (X.fa fa83_1 rfl)) rfl ?_
  refine oYg (g := 37) rfl rfl rfl rfl (fun W_ hW_ => (X.ldL rfl hW_ Tryz.underlying3 rfl rfl)) rfl ?_
  refine oL rfl (fun Q_ hQ_ hP_ => ?_)
  refine gY (g := 37) rfl rfl rfl ?_
  refine sc _ Tryz.func61 rfl (by kernel_rfl) rfl rfl ((Limit_any g D S _ hd).mono ?_)
  rintro e_ w6 ⟨rfl, hb⟩
  refine cR ?_
  replace hbw := bthen hbw hb
  replace hd := hd.bel hb
  replace hI := hI.bel hb
  replace hB := hB.bel hb
  replace hL := hL.bel hb
  have hz_w6 := hb.size
  clear hb
  refine Wn (hQ_ _ _ (hB) ?_)
  clear hQ_ hP_ Q_
  refine oYg (g := 37) rfl rfl rfl rfl (fun W_ hW_ => (X.neq rfl rfl)) rfl ?_
  refine oY rfl (fun W_ hW_ => (X.pickF rfl rfl)) rfl ?_
  refine oN ?_
  refine nN ?_
  refine W_no rfl (decide_eq_false (by simp)) ?_
  refine W_skip ?_
  refine tN ?_
  refine W_seq ?_
  refine W_rs ?_
  refine sa rfl rfl ?_
  refine Wn ?_
  refine tN ?_
  refine W_block ?_
  refine W_lp (fun nw7_ lw7_ w7 => ∃ i : Nat, nw7_ = rs.length - i ∧ lw7_ = ([(0, .pointer (some ⟨g, 0, none⟩)), (1, .pointer (some ⟨r, 0, none⟩)), (5, .slice al rs.length cl), (6, .int .i64 i)] : Env) ∧ (i ≤ rs.length) ∧ (Below w.heap.size w w7) ∧ (DiskAt w7 g D S) ∧ (RIn w7 r D (.slice a rs.length c) rs) ∧ (Row w7 9 1 (.slice al rs.length cl) rs.length ((namesM D).map str))) _ ⟨_, ⟨0, rfl, rfl, Nat.zero_le _, hbw, hd, hI, hL⟩, ⟨rfl, rfl, rfl, rfl, trivial⟩⟩ ?_
  clear hbw hd hI hL
  rintro nw7_ lw7_ w7 ⟨i, rfl, rfl, hi, hbw, hd, hI, hL⟩
  have hz_w7 := hbw.size
  refine W_seq ?_
  refine W_rs ?_
  refine sm rfl rfl ?_
  refine sm rfl rfl ?_
  refine st (X.lenL rfl rfl Tryz.underlying42) rfl ?_
  refine st (X.lss rfl rfl) rfl ?_
  refine Wn ?_
  refine tN ?_
  refine W_if rfl (fun h49 => ?_) (fun h49 => ?_)
  · first | replace h49 := of_decide_eq_true h49 | replace h49 := of_decide_eq_false (notT h49) | replace h49 := notT h49 | skip
    obtain ⟨x, hx⟩ : ∃ x, rs[i]? = some x := ⟨_, List.getElem?_eq_getElem (by omega)⟩
    have hmem := List.mem_of_getElem? hx
    obtain ⟨hfk, hgx⟩ := hI.fok hok hmem
    have hnx : (namesM D)[i]? = some x.n := by unfold namesM; rw [List.getElem?_map, hI.file hx]; rfl
    have hux : ((namesM D).map str)[i]? = some (str x.n) := by rw [List.getElem?_map, hnx]; rfl
    obtain ⟨gF, oF, c', hv, hgF⟩ := hI.row.reads.some_ (by omega)
    injection hv with e1 _ e3
    subst e1 e3
    obtain ⟨gL, oL2, c', hv, hgL⟩ := hL.reads.some_ (by omega)
    injection hv with e1 _ e3
    subst e1 e3
    have hread := readM_all hok hgx
    have hsize := sizeM_some hgx
    have hxl := (hok.len hgx).1
    refine W_skip ?_
    refine tN ?_
    refine W_seq ?_
    refine W_block ?_
    refine W_rs ?_
    refine sm rfl rfl ?_
    refine sm rfl rfl ?_
    refine sm rfl rfl ?_
    refine st (X.idxA rfl rfl Tryz.underlying42 siz9 rfl (by omega)) rfl ?_
    refine st (X.ld rfl Tryz.underlying9 rfl (by rw [Nat.mul_one]; exact hL.reads.cellAt (by omega) hux)) rfl ?_
    refine sc _ Tryz.func45 rfl (by kernel_rfl) rfl rfl ((Read_is hd hok hread).mono ?_)
    rintro e_ w8 ⟨rfl, hb⟩
    refine cR ?_
    replace hbw := bthen hbw hb
    replace hd := hd.bel hb
    replace hI := hI.bel hb
    replace hL := hL.bel hb
    have hz_w8 := hb.size
    clear hb
    refine sm rfl rfl ?_
    refine st (X.ext rfl rfl) rfl ?_
    refine st (X.ext rfl rfl) rfl ?_
    refine sa rfl rfl ?_
    refine sa rfl rfl ?_
    refine Wn ?_
    refine tN ?_
    refine W_rs ?_
    refine sm rfl rfl ?_
    refine sm rfl rfl ?_
    refine sm rfl rfl ?_
    refine st (X.idxA rfl rfl Tryz.underlying42 siz9 rfl (by omega)) rfl ?_
    refine st (X.ld rfl Tryz.underlying9 rfl (by rw [Nat.mul_one]; exact hL.reads.cellAt (by omega) hux)) rfl ?_
    have hsz := fun W_ : World => fun h_ : DiskAt W_ g D S => Size_any g D S x.n W_ h_
    rw [hsize] at hsz
    refine sc _ Tryz.func22 rfl (by kernel_rfl) rfl rfl ((hsz _ hd).mono ?_)
    rintro e_ w9 ⟨rfl, hb⟩
    refine cR ?_
    replace hbw := bthen hbw hb
    replace hd := hd.bel hb
    replace hI := hI.bel hb
    replace hL := hL.bel hb
    have hz_w9 := hb.size
    clear hb
    refine sm rfl rfl ?_
    refine st (X.ext rfl rfl) rfl ?_
    refine st (X.ext rfl rfl) rfl ?_
    refine sa rfl rfl ?_
    refine sa rfl rfl ?_
    refine Wn ?_
    refine tN ?_
    refine W_drsN (fun W_ => RIn W_ r D (.slice (some ⟨gF, oF, none⟩) rs.length c) rs ∧ Row W_ 9 1 (.slice (some ⟨gL, oL2, none⟩) rs.length cl) rs.length ((namesM D).map str)) [0, 1, 2, 3, 4, 5, 6, 7, 8, 9, 10, 11, 12, 13, 14, 15, 16, 17, 18, 19, 20, 21, 22, 23, 24, 25, 26, 27, 28, 29, 30, 31, 32, 33, 34, 35, 36, 37, 38] [true, true, true, true, true, true, true, true, true, true, true, true, true, true, true, true, true, true, true, true, true, true, true, true, true, true, true, true, true, true, false, true, true, true, true, true, true, true, true] (by kernel_rfl) (by kernel_rfl) (⟨hI.bel (bdrew (Below.refl _ _)), hL.bel (bdrew (Below.refl _ _))⟩) ?_
    obtain ⟨w10, hw_⟩ : ∃ w10 : World, w10 = World.drew w9 := ⟨_, rfl⟩
    rw [← hw_]
    have hb : Below w9.heap.size w9 w10 := by rw [hw_]; exact bdrew (Below.refl _ _)
    clear hw_
    have hS := hb
    replace hbw := bthen hbw hb
    replace hd := hd.bel hb
    replace hI := hI.bel hb
    replace hL := hL.bel hb
    have hz_w10 := hb.size
    clear hb
    refine oY rfl (fun W_ hW_ => (X.move rfl)) rfl ?_
    refine oY rfl (fun W_ hW_ => (X.move rfl)) rfl ?_
    refine oY rfl (fun W_ hW_ => (X.idxA rfl rfl Tryz.underlying42 siz9 rfl (by omega))) rfl ?_
    refine oY rfl (fun W_ hW_ => (X.ld rfl Tryz.underlying9 rfl (by rw [Nat.mul_one]; exact hW_.2.reads.cellAt (by omega) hux))) rfl ?_
    refine oY rfl (fun W_ hW_ => (X.move rfl)) rfl ?_
    refine oY rfl (fun W_ hW_ => (X.nilChk rfl)) rfl ?_
    refine oY rfl (fun W_ hW_ => (X.fa fa83_0 rfl)) rfl ?_
    refine oY rfl (fun W_ hW_ => (X.ldL rfl hW_.1.blk Tryz.underlying81 rfl rfl)) rfl ?_
    refine oY rfl (fun W_ hW_ => (X.move rfl)) rfl ?_
    refine oY rfl (fun W_ hW_ => (X.idxA rfl rfl Tryz.underlying81 siz92 rfl (by omega))) rfl ?_
    refine oY rfl (fun W_ hW_ => (X.fa fa92_0 rfl)) rfl ?_
    refine oY rfl (fun W_ hW_ => (X.ld rfl Tryz.underlying9 rfl (hW_.1.row.reads.rec_ (f := RRec.cells) (rrec_len rs) hx 0 _ rfl))) rfl ?_
    refine oY rfl (fun W_ hW_ => (X.neS rfl rfl)) rfl ?_
    refine oY rfl (fun W_ hW_ => (X.mvB (c := false) rfl (decide_eq_false (by simp)))) rfl ?_
    refine oYg (g := 83) rfl rfl rfl rfl (fun W_ hW_ => (X.move rfl)) rfl ?_
    refine oYg (g := 83) rfl rfl rfl rfl (fun W_ hW_ => (X.neq rfl rfl)) rfl ?_
    refine oY rfl (fun W_ hW_ => (X.pickF rfl rfl)) rfl ?_
    refine oY rfl (fun W_ hW_ => (X.mvB (c := false) rfl (rfl))) rfl ?_
    refine oYg (g := 87) rfl rfl rfl rfl (fun W_ hW_ => (X.move rfl)) rfl ?_
    refine oYg (g := 87) rfl rfl rfl rfl (fun W_ hW_ => (X.neq rfl rfl)) rfl ?_
    refine oY rfl (fun W_ hW_ => (X.pickF rfl rfl)) rfl ?_
    refine oY rfl (fun W_ hW_ => (X.mvB (c := false) rfl (rfl))) rfl ?_
    refine oYg (g := 91) rfl rfl rfl rfl (fun W_ hW_ => (X.move rfl)) rfl ?_
    refine oYg (g := 91) rfl rfl rfl rfl (fun W_ hW_ => (X.move rfl)) rfl ?_
    refine oYg (g := 91) rfl rfl rfl rfl (fun W_ hW_ => (X.nilChk rfl)) rfl ?_
    refine oYg (g := 91) rfl rfl rfl rfl (fun W_ hW_ => (X.fa fa83_0 rfl)) rfl ?_
    refine oYg (g := 91) rfl rfl rfl rfl (fun W_ hW_ => (X.ldL rfl hW_.1.blk Tryz.underlying81 rfl rfl)) rfl ?_
    refine oYg (g := 91) rfl rfl rfl rfl (fun W_ hW_ => (X.move rfl)) rfl ?_
    refine oYg (g := 91) rfl rfl rfl rfl (fun W_ hW_ => (X.idxA rfl rfl Tryz.underlying81 siz92 rfl (by omega))) rfl ?_
    refine oYg (g := 91) rfl rfl rfl rfl (fun W_ hW_ => (X.ldN (cs := x.cells) rfl Tryz.underlying92 rfl siz92 (hW_.1.row.reads.rec_ (f := RRec.cells) (rrec_len rs) hx))) rfl ?_
    refine oL rfl (fun Q_ hQ_ hP_ => ?_)
    refine gY (g := 91) rfl rfl rfl ?_
    refine sc _ Tryz.func62 rfl (by kernel_rfl) rfl rfl ((BytesOf_any hI hok hbud hmem).mono ?_)
    rintro e_ w11 ⟨rfl, hb⟩
    refine cR ?_
    replace hbw := bthen hbw hb
    replace hd := hd.bel hb
    replace hI := hI.bel hb
    replace hL := hL.bel hb
    have hz_w11 := hb.size
    clear hb
    refine Wn (hQ_ _ _ (⟨hI, hL⟩) ?_)
    clear hQ_ hP_ Q_
    refine oYg (g := 91) rfl rfl rfl rfl (fun W_ hW_ => (X.neS rfl rfl)) rfl ?_
    refine oY rfl (fun W_ hW_ => (X.pickF rfl rfl)) rfl ?_
    refine oY rfl (fun W_ hW_ => (X.mvB (c := false) rfl (decide_eq_false (by simp)))) rfl ?_
    refine oYg (g := 103) rfl rfl rfl rfl (fun W_ hW_ => (X.move rfl)) rfl ?_
    refine oYg (g := 103) rfl rfl rfl rfl (fun W_ hW_ => (X.move rfl)) rfl ?_
    refine oYg (g := 103) rfl rfl rfl rfl (fun W_ hW_ => (X.lenS rfl rfl Tryz.underlying9)) rfl ?_
    refine oYg (g := 103) rfl rfl rfl rfl (fun W_ hW_ => (X.neq rfl rfl)) rfl ?_
    refine oY rfl (fun W_ hW_ => (X.pickF rfl rfl)) rfl ?_
    refine oN ?_
    refine nN ?_
    refine W_no rfl (decide_eq_false (by simp)) ?_
    refine W_skip ?_
    refine bN ?_
    refine tN ?_
    refine W_reg ?_
    refine sm rfl rfl ?_
    refine st (X.add64 rfl rfl (by omega)) rfl ?_
    refine sa rfl rfl ?_
    refine Wn ?_
    refine tN ⟨_, _, ?_, ⟨i + 1, rfl, rfl, by omega, hbw, hd, hI, hL⟩, ⟨rfl, rfl, rfl, rfl, trivial⟩⟩
    omega
  · first | replace h49 := of_decide_eq_false h49 | replace h49 := of_decide_eq_true (notF h49) | replace h49 := notF h49 | skip
    refine W_exit (tE (tE (bH ?_)))
    refine tN ?_
    refine W_rs ?_
    refine sa rfl rfl ?_
    refine Wn ?_
    refine tN ?_
    refine W_ret ?_
    exact (rT rfl rfl ⟨rfl, hbw⟩).1
end Go.Proofs.YtnijmegalgoipaaGreatDoor
