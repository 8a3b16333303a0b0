/- The law DiskRoom. -/
import Derived.Test.YtnijmegalgoipaaDoorDiskX
namespace Go.Proofs.YtnijmegalgoipaaDoor
open Go.RowKit
/-- what a call does to the room -/
def RoomOf (D : DiskD) (d : Nat) (e : Int) (D' : DiskD) : Prop := D'.limit = D.limit ∧ ((e = 17 ∧ D'.refused = D.refused + 1 ∧ D'.used = D.used ∧ D.limit < D.used + d) ∨ (e ≠ 17 ∧ D'.refused = D.refused))
section
variable {D : DiskD} {d : Nat}
theorem room_no {e : Int} {D' : DiskD} (he : e ≠ 17) (h1 : D'.limit = D.limit) (h2 : D'.refused = D.refused) : RoomOf D d e D' := ⟨h1, .inr ⟨he, h2⟩⟩
theorem room_op {k : DiskD → Int × DiskD} (hk : ∀ D', RoomOf D' d (k D').1 (k D').2) : RoomOf D d (opM D k).1 (opM D k).2 := by
  by_cases hl : D.stops = true ∧ D.left = 0
  · rw [opM_dead hl]
    exact room_no (by simp) rfl rfl
  · rw [opM_live hl]
    have := hk (tickM D)
    unfold RoomOf at this ⊢
    have h1 : (tickM D).limit = D.limit := by unfold tickM; split <;> rfl
    have h2 : (tickM D).refused = D.refused := by unfold tickM; split <;> rfl
    have h3 : (tickM D).used = D.used := by unfold tickM; split <;> rfl
    rwa [h1, h2, h3] at this
theorem room_file {n : Key} {k : FileD → Int × DiskD} (hk : ∀ f, RoomOf D d (k f).1 (k f).2) : RoomOf D d (fileM D n k).1 (fileM D n k).2 := by
  cases hg : mget D.files n with
  | none => rw [fileM_none hg]; exact room_no (by simp) rfl rfl
  | some f => rw [fileM_some hg]; exact hk f
theorem room_put {n : Key} {f : FileD} {at_ : Nat} {b : List UInt8} (ha : at_ ≤ f.now.length) : RoomOf D b.length (putM D n f at_ b).1 (putM D n f at_ b).2 := by
  unfold putM
  split
  · exact room_no (by simp) rfl rfl
  split
  · rename_i h
    refine ⟨rfl, .inl ⟨rfl, rfl, rfl, ?_⟩⟩
    unfold moreM at h
    omega
  · exact room_no (by simp) rfl rfl
theorem does_room (D : DiskD) (o : OpM) : RoomOf D o.data.length (doesM D o).1.2.2 (doesM D o).2 := by
  unfold doesM
  split
  · exact room_op fun D' => by
      split
      · split <;> exact room_no (by simp) rfl rfl
      · exact room_no (by simp) rfl rfl
  split
  · exact room_op fun D' => room_file fun f => room_put (Nat.le_refl _)
  split
  · exact room_op fun D' => room_file fun f => by
      split
      · exact room_no (by simp) rfl rfl
      · exact room_put (by omega)
  split
  · exact room_op fun D' => room_file fun f => room_no (by simp) rfl rfl
  split
  · exact room_op fun D' => by
      split
      · exact room_file fun f => by split <;> exact room_no (by simp) rfl rfl
      · exact room_no (by simp) rfl rfl
  split
  · exact room_op fun D' => room_file fun f => room_no (by simp) rfl rfl
  split
  · exact room_no (by simp) rfl rfl
  split
  · exact room_file fun f => by split <;> exact room_no (by simp) rfl rfl
  split
  · refine room_no ?_ rfl rfl
    unfold readM
    split
    · simp
    · split <;> simp
  split
  · exact room_no (by simp) rfl rfl
  · refine room_no ?_ rfl rfl
    unfold sizeM
    split <;> simp
end
theorem few_of {l : List OpM} (h : fewM l = true) : l.length ≤ 60 ∧ ∀ q ∈ l, fewO q = true := by
  unfold fewM at h
  simp only [Bool.and_eq_true, decide_eq_true_eq] at h
  exact ⟨h.1, List.all_eq_true.1 h.2⟩
set_option maxRecDepth 10000 in
theorem DiskRoom_walk (w : World) (lim : Int) (v : Value) (l : List OpM) (h : OpsAt w v l) :
    Calls Tryd.prog 9 #[.int .i64 lim, v] w fun e w' => e = .returned (.bool true) ∧ Below w.heap.size w w' := by
  obtain ⟨a, c, rfl, hc1, hc2⟩ := h.1.shape
  have hnn := h.1.nle
  by_cases hlim : 0 ≤ lim ∧ lim ≤ 16777216
  case neg =>
    refine W_enter (args := [.int .i64 lim, .slice a l.length c]) 107 Tryd.func9 rfl rfl rfl ?_
    refine W_sub [(0, .int .i64 lim), (1, .slice a l.length c)] ?_ ⟨rfl, rfl, trivial⟩
    have hbw := Below.refl w.heap.size w
    refine W_rs ?_
    refine sa rfl rfl ?_
    refine Wn ?_
    refine tN ?_
    refine W_rs ?_
    refine sm rfl rfl ?_
    refine sc _ Tryd.func23 rfl (by kernel_rfl) rfl rfl ((New_bad lim _ hlim).mono ?_)
    rintro e_ w1 ⟨rfl, hb⟩
    refine cR ?_
    replace hbw := bthen hbw hb
    have hz_w1 := hb.size
    clear hb
    refine sm rfl rfl ?_
    refine st (X.ext rfl rfl) rfl ?_
    refine st (X.ext rfl rfl) rfl ?_
    refine sa rfl rfl ?_
    refine sa rfl rfl ?_
    refine Wn ?_
    refine tN ?_
    refine W_seq ?_
    refine W_rs ?_
    refine sm rfl rfl ?_
    refine st (X.neq rfl rfl) rfl ?_
    refine sbY rfl (rfl) rfl ?_
    refine gN (g := 20) rfl rfl rfl rfl ?_
    refine gN (g := 20) rfl rfl rfl rfl ?_
    refine st (X.pickT rfl rfl) rfl ?_
    refine sm rfl rfl ?_
    refine gN (g := 24) rfl rfl rfl rfl ?_
    refine gN (g := 24) rfl rfl rfl rfl ?_
    refine st (X.pickT rfl rfl) rfl ?_
    refine sm rfl rfl ?_
    refine gN (g := 28) rfl rfl rfl rfl ?_
    refine gN (g := 28) rfl rfl rfl rfl ?_
    refine gN (g := 28) rfl rfl rfl rfl ?_
    refine st (X.pickT rfl rfl) rfl ?_
    refine Wn ?_
    refine tN ?_
    refine W_yes rfl (rfl) ?_
    refine W_rs ?_
    refine sm rfl rfl ?_
    refine st (X.dEq rfl) rfl ?_
    refine sm rfl rfl ?_
    refine st (X.neq rfl rfl) rfl ?_
    refine st (X.beq (c := true) (.inl ⟨rfl, rfl⟩) Tryd.underlying4 rfl rfl) rfl ?_
    refine sbY rfl (rfl) rfl ?_
    refine gY (g := 38) rfl rfl rfl ?_
    refine sc _ Tryd.func24 rfl (by kernel_rfl) rfl rfl ((awake_any _).mono ?_)
    rintro e_ w2 ⟨rfl, hb⟩
    refine cR ?_
    replace hbw := bthen hbw hb
    have hz_w2 := hb.size
    clear hb
    refine st (X.pickT rfl rfl) rfl ?_
    refine sa rfl rfl ?_
    refine Wn ?_
    refine tN ?_
    refine W_ret (tR ?_)
    exact (rT rfl rfl ⟨rfl, hbw⟩).1
  case pos =>
    have g0 : Good 0 (newM lim) := Good.new hlim
    refine W_enter (args := [.int .i64 lim, .slice a l.length c]) 107 Tryd.func9 rfl rfl rfl ?_
    refine W_sub [(0, .int .i64 lim), (1, .slice a l.length c)] ?_ ⟨rfl, rfl, trivial⟩
    have hbw := Below.refl w.heap.size w
    refine W_rs ?_
    refine sa rfl rfl ?_
    refine Wn ?_
    refine tN ?_
    refine W_rs ?_
    refine sm rfl rfl ?_
    refine sc _ Tryd.func23 rfl (by kernel_rfl) rfl rfl ((New_ok lim _ hlim).mono ?_)
    rintro e_ w1 ⟨g, S0, rfl, h0, hS0, hb⟩
    refine cR ?_
    replace hbw := bthen hbw hb
    have hz_w1 := hb.size
    clear hb
    have hd : Own w.heap.size w1 g (newM lim) S0 := ⟨h0, fun k hk => by have := hS0 k hk; have := hbw.size; omega⟩
    clear h0 hS0
    refine sm rfl rfl ?_
    refine st (X.ext rfl rfl) rfl ?_
    refine st (X.ext rfl rfl) rfl ?_
    refine sa rfl rfl ?_
    refine sa rfl rfl ?_
    refine Wn ?_
    refine tN ?_
    refine W_seq ?_
    refine W_rs ?_
    refine sm rfl rfl ?_
    refine st (X.neq rfl rfl) rfl ?_
    refine sbN rfl (rfl) rfl ?_
    refine gY (g := 20) rfl rfl rfl ?_
    refine sm rfl rfl ?_
    refine gY (g := 20) rfl rfl rfl ?_
    refine st (X.dEq rfl) rfl ?_
    refine st (X.pickF rfl rfl) rfl ?_
    refine sbN rfl (rfl) rfl ?_
    refine gY (g := 24) rfl rfl rfl ?_
    refine sm rfl rfl ?_
    refine gY (g := 24) rfl rfl rfl ?_
    refine st (X.gtr rfl rfl) rfl ?_
    refine st (X.pickF rfl rfl) rfl ?_
    refine sb rfl rfl (fun h28 => ?_) (fun h28 => ?_)
    · first | replace h28 := of_decide_eq_true h28 | replace h28 := of_decide_eq_false (notT h28) | replace h28 := notT h28 | skip
      refine gN (g := 28) rfl rfl rfl rfl ?_
      refine gN (g := 28) rfl rfl rfl rfl ?_
      refine gN (g := 28) rfl rfl rfl rfl ?_
      refine st (X.pickT rfl rfl) rfl ?_
      refine Wn ?_
      refine tN ?_
      refine W_yes rfl (rfl) ?_
      refine W_rs ?_
      refine sm rfl rfl ?_
      refine st (X.dEq rfl) rfl ?_
      refine sm rfl rfl ?_
      refine st (X.neq rfl rfl) rfl ?_
      refine st (X.beq (c := true) (.inl ⟨rfl, rfl⟩) Tryd.underlying4 rfl rfl) rfl ?_
      refine sbY rfl (rfl) rfl ?_
      refine gY (g := 38) rfl rfl rfl ?_
      refine sc _ Tryd.func24 rfl (by kernel_rfl) rfl rfl ((awake_any _).mono ?_)
      rintro e_ w2 ⟨rfl, hb⟩
      refine cR ?_
      replace hbw := bthen hbw hb
      replace hd := hd.bel hb
      have hz_w2 := hb.size
      clear hb
      refine st (X.pickT rfl rfl) rfl ?_
      refine sa rfl rfl ?_
      refine Wn ?_
      refine tN ?_
      refine W_ret (tR ?_)
      exact (rT rfl rfl ⟨rfl, hbw⟩).1
    · first | replace h28 := of_decide_eq_false h28 | replace h28 := of_decide_eq_true (notF h28) | replace h28 := notF h28 | skip
      refine gY (g := 28) rfl rfl rfl ?_
      refine sm rfl rfl ?_
      refine gY (g := 28) rfl rfl rfl ?_
      refine sc _ Tryd.func36 rfl (by kernel_rfl) rfl rfl ((Few_any _ l _ (h.bel hbw)).mono ?_)
      rintro e_ w3 ⟨rfl, hb⟩
      refine cR ?_
      replace hbw := bthen hbw hb
      replace hd := hd.bel hb
      have hz_w3 := hb.size
      clear hb
      refine gY (g := 28) rfl rfl rfl ?_
      refine st (X.not rfl) rfl ?_
      refine st (X.pickF rfl rfl) rfl ?_
      refine Wn ?_
      refine tN ?_
      refine W_if rfl (fun h32 => ?_) (fun h32 => ?_)
      · first | replace h32 := of_decide_eq_true h32 | replace h32 := of_decide_eq_false (notT h32) | replace h32 := notT h32 | skip
        refine W_rs ?_
        refine sm rfl rfl ?_
        refine st (X.dEq rfl) rfl ?_
        refine sm rfl rfl ?_
        refine st (X.neq rfl rfl) rfl ?_
        refine st (X.beq (c := true) (.inl ⟨rfl, rfl⟩) Tryd.underlying4 rfl rfl) rfl ?_
        refine sbY rfl (rfl) rfl ?_
        refine gY (g := 38) rfl rfl rfl ?_
        refine sc _ Tryd.func24 rfl (by kernel_rfl) rfl rfl ((awake_any _).mono ?_)
        rintro e_ w4 ⟨rfl, hb⟩
        refine cR ?_
        replace hbw := bthen hbw hb
        replace hd := hd.bel hb
        have hz_w4 := hb.size
        clear hb
        refine st (X.pickT rfl rfl) rfl ?_
        refine sa rfl rfl ?_
        refine Wn ?_
        refine tN ?_
        refine W_ret (tR ?_)
        exact (rT rfl rfl ⟨rfl, hbw⟩).1
      · first | replace h32 := of_decide_eq_false h32 | replace h32 := of_decide_eq_true (notF h32) | replace h32 := notF h32 | skip
        refine W_skip ?_
        refine tN ?_
        refine W_seq ?_
        refine W_rs ?_
        refine sa rfl rfl ?_
        refine Wn ?_
        refine tN ?_
        refine W_block ?_
        refine W_lp (fun nw5_ lw5_ w5 => ∃ i : Nat, ∃ D : DiskD, ∃ S : Nat → Prop, nw5_ = l.length - i ∧ lw5_ = ([(0, .int .i64 lim), (1, .slice a l.length c), (5, .pointer (some ⟨g, 0, none⟩)), (7, .int .i64 i)] : Env) ∧ (i ≤ l.length) ∧ (Below w.heap.size w w5) ∧ (Own w.heap.size w5 g D S) ∧ (Good (301 * i) D) ∧ (D.limit = lim)) _ ⟨_, ⟨0, newM lim, S0, rfl, rfl, Nat.zero_le _, hbw, hd, g0, rfl⟩, ⟨rfl, rfl, rfl, rfl, trivial⟩⟩ ?_
        clear hbw hd
        rintro nw5_ lw5_ w5 ⟨i, D, S, rfl, rfl, hi, hbw, hd, hg, hl⟩
        have hz_w5 := hbw.size
        refine W_seq ?_
        refine W_rs ?_
        refine sm rfl rfl ?_
        refine sm rfl rfl ?_
        refine st (X.lenL rfl rfl Tryd.underlying54) rfl ?_
        refine st (X.lss rfl rfl) rfl ?_
        refine Wn ?_
        refine tN ?_
        refine W_if rfl (fun h44 => ?_) (fun h44 => ?_)
        · first | replace h44 := of_decide_eq_true h44 | replace h44 := of_decide_eq_false (notT h44) | replace h44 := notT h44 | skip
          obtain ⟨q, hq⟩ : ∃ q, l[i]? = some q := ⟨_, List.getElem?_eq_getElem (by omega)⟩
          obtain ⟨g1, o1, c', hv, hg1⟩ := h.1.some_ (by omega)
          injection hv with e1 _ e3
          subst e1 e3
          have hmem := List.mem_of_getElem? hq
          obtain ⟨hf1, hf2⟩ := few_of h32
          have hfq := hf2 q hmem
          have hro := does_room D q
          have hgd := hg.ok
          have hrf := hg.ref
          have hrf0 := hg.ok.ref
          have hg2 : Good (301 * (i + 1)) (doesM D q).2 := (does_good hg hfq (h.2 q hmem).n.2).mono (by omega)
          have hgo := hg2.ok
          have hab : decide ((doesM D q).1.2.2 = 17) = decide ((doesM D q).2.refused = D.refused + 1) := by
            rcases hro.2 with ⟨h1, h2, _⟩ | ⟨h1, h2⟩
            · rw [decide_eq_true h1, decide_eq_true h2]
            · rw [decide_eq_false h1, decide_eq_false (by omega)]
          refine W_skip ?_
          refine tN ?_
          refine W_seq ?_
          refine W_block ?_
          refine W_rs ?_
          refine sm rfl rfl ?_
          refine sc _ Tryd.func30 rfl (by kernel_rfl) rfl rfl ((Used_any g D S _ hd.at_).mono ?_)
          rintro e_ w6 ⟨rfl, hb⟩
          refine cR ?_
          replace hbw := bthen hbw hb
          replace hd := hd.bel hb
          have hz_w6 := hb.size
          clear hb
          refine sa rfl rfl ?_
          refine Wn ?_
          refine tN ?_
          refine W_rs ?_
          refine sm rfl rfl ?_
          refine sc _ Tryd.func40 rfl (by kernel_rfl) rfl rfl ((Refused_any g D S _ hd.at_).mono ?_)
          rintro e_ w7 ⟨rfl, hb⟩
          refine cR ?_
          replace hbw := bthen hbw hb
          replace hd := hd.bel hb
          have hz_w7 := hb.size
          clear hb
          refine sa rfl rfl ?_
          refine Wn ?_
          refine tN ?_
          refine W_rs ?_
          refine sm rfl rfl ?_
          refine sm rfl rfl ?_
          refine sm rfl rfl ?_
          refine st (X.idxA rfl rfl Tryd.underlying54 siz58 rfl (by omega)) rfl ?_
          refine st (X.ldN (cs := q.cells) rfl Tryd.underlying58 rfl siz58 ((h.bel hbw).1.rec_ (f := OpM.cells) (fun a _ => OpM.cells_length a) hq)) rfl ?_
          refine sc _ Tryd.func37 rfl (by kernel_rfl) rfl rfl ((does_any g D S q (301 * i) _ hd.at_ hg (by omega) ((h.bel hbw).2 q hmem) hfq (fun h0 k hk hs => by have := (h.2 q hmem).picks.ownLt h0 hk; have := hd.lo k hs; omega) (fun k hk => (hd.lo k hk).2)).mono ?_)
          rintro e_ w8 ⟨rfl, h1, hX⟩
          refine cR ?_
          have hdn := hd.step h1 hX hbw.size
          have hbwn := bchg hbw hX (fun k hk => (hd.lo k hk).1)
          clear hd hbw h1 hX
          have hd := hdn
          have hbw := hbwn
          clear hdn hbwn
          refine sm rfl rfl ?_
          refine st (X.ext rfl rfl) rfl ?_
          refine st (X.ext rfl rfl) rfl ?_
          refine st (X.ext rfl rfl) rfl ?_
          refine sa rfl rfl ?_
          refine sa rfl rfl ?_
          refine sa rfl rfl ?_
          refine Wn ?_
          refine tN ?_
          refine W_seq ?_
          refine W_rs ?_
          refine sm rfl rfl ?_
          refine sc _ Tryd.func30 rfl (by kernel_rfl) rfl rfl ((Used_any g _ _ _ hd.at_).mono ?_)
          rintro e_ w9 ⟨rfl, hb⟩
          refine cR ?_
          replace hbw := bthen hbw hb
          replace hd := hd.bel hb
          have hz_w9 := hb.size
          clear hb
          refine sm rfl rfl ?_
          refine st (X.gtr rfl rfl) rfl ?_
          refine sbN rfl (decide_eq_false (by have := hgo.room; have := hro.1; omega)) rfl ?_
          refine gY (g := 65) rfl rfl rfl ?_
          refine sm rfl rfl ?_
          refine gY (g := 65) rfl rfl rfl ?_
          refine sc _ Tryd.func30 rfl (by kernel_rfl) rfl rfl ((Used_any g _ _ _ hd.at_).mono ?_)
          rintro e_ w10 ⟨rfl, hb⟩
          refine cR ?_
          replace hbw := bthen hbw hb
          replace hd := hd.bel hb
          have hz_w10 := hb.size
          clear hb
          refine gY (g := 65) rfl rfl rfl ?_
          refine st (X.lss rfl rfl) rfl ?_
          refine st (X.pickF rfl rfl) rfl ?_
          refine sbN rfl (decide_eq_false (by have := hgo.used; omega)) rfl ?_
          refine gY (g := 70) rfl rfl rfl ?_
          refine sm rfl rfl ?_
          refine gY (g := 70) rfl rfl rfl ?_
          refine st (X.eql rfl rfl) rfl ?_
          refine gY (g := 70) rfl rfl rfl ?_
          refine sm rfl rfl ?_
          refine gY (g := 70) rfl rfl rfl ?_
          refine sc _ Tryd.func40 rfl (by kernel_rfl) rfl rfl ((Refused_any g _ _ _ hd.at_).mono ?_)
          rintro e_ w11 ⟨rfl, hb⟩
          refine cR ?_
          replace hbw := bthen hbw hb
          replace hd := hd.bel hb
          have hz_w11 := hb.size
          clear hb
          refine gY (g := 70) rfl rfl rfl ?_
          refine sm rfl rfl ?_
          refine gY (g := 70) rfl rfl rfl ?_
          refine st (X.add64 rfl rfl (by omega)) rfl ?_
          refine gY (g := 70) rfl rfl rfl ?_
          refine st (X.eql rfl rfl) rfl ?_
          refine gY (g := 70) rfl rfl rfl ?_
          refine st (X.beq (c := false) (.inr ⟨rfl, by rw [hab]; simp⟩) Tryd.underlying4 rfl rfl) rfl ?_
          refine st (X.pickF rfl rfl) rfl ?_
          refine sbN rfl (rfl) rfl ?_
          refine gY (g := 80) rfl rfl rfl ?_
          refine sm rfl rfl ?_
          refine gY (g := 80) rfl rfl rfl ?_
          refine sc _ Tryd.func40 rfl (by kernel_rfl) rfl rfl ((Refused_any g _ _ _ hd.at_).mono ?_)
          rintro e_ w12 ⟨rfl, hb⟩
          refine cR ?_
          replace hbw := bthen hbw hb
          replace hd := hd.bel hb
          have hz_w12 := hb.size
          clear hb
          refine gY (g := 80) rfl rfl rfl ?_
          refine sm rfl rfl ?_
          refine gY (g := 80) rfl rfl rfl ?_
          refine st (X.lss rfl rfl) rfl ?_
          refine st (X.pickF rfl rfl) rfl ?_
          refine Wn ?_
          refine tN ?_
          refine W_no rfl (decide_eq_false (by rcases hro.2 with h1 | h1 <;> omega)) ?_
          refine W_skip ?_
          refine tN ?_
          refine W_rs ?_
          refine sm rfl rfl ?_
          refine st (X.eql rfl rfl) rfl ?_
          refine sb rfl rfl (fun h88 => ?_) (fun h88 => ?_)
          · first | replace h88 := of_decide_eq_true h88 | replace h88 := of_decide_eq_false (notT h88) | replace h88 := notT h88 | skip
            refine gY (g := 88) rfl rfl rfl ?_
            refine sm rfl rfl ?_
            refine gY (g := 88) rfl rfl rfl ?_
            refine sc _ Tryd.func30 rfl (by kernel_rfl) rfl rfl ((Used_any g _ _ _ hd.at_).mono ?_)
            rintro e_ w13 ⟨rfl, hb⟩
            refine cR ?_
            replace hbw := bthen hbw hb
            replace hd := hd.bel hb
            have hz_w13 := hb.size
            clear hb
            refine gY (g := 88) rfl rfl rfl ?_
            refine sm rfl rfl ?_
            refine gY (g := 88) rfl rfl rfl ?_
            refine st (X.neq rfl rfl) rfl ?_
            refine gY (g := 88) rfl rfl rfl ?_
            refine sbN rfl (decide_eq_false (by rcases hro.2 with h1 | h1; exact fun e => e h1.2.2.1; exact absurd h88 h1.1)) rfl ?_
            refine gY (g := 93) rfl rfl rfl ?_
            refine sm rfl rfl ?_
            refine gY (g := 93) rfl rfl rfl ?_
            refine sm rfl rfl ?_
            refine gY (g := 93) rfl rfl rfl ?_
            refine sm rfl rfl ?_
            refine gY (g := 93) rfl rfl rfl ?_
            refine st (X.idxA rfl rfl Tryd.underlying54 siz58 rfl (by omega)) rfl ?_
            refine gY (g := 93) rfl rfl rfl ?_
            refine st (X.fa fa58_5 rfl) rfl ?_
            refine gY (g := 93) rfl rfl rfl ?_
            refine st (X.ld rfl Tryd.underlying9 rfl (op_cell (h.bel hbw).1 rfl hq rfl)) rfl ?_
            refine gY (g := 93) rfl rfl rfl ?_
            refine st (X.lenS rfl rfl Tryd.underlying9) rfl ?_
            have hus : 0 ≤ D.used ∧ D.used ≤ 16777216 := by have := hgd.used; have := hgd.room; have := hgd.lim; omega
            have hdl : q.data.length ≤ 300 := by
              unfold fewO at hfq
              simp only [Bool.and_eq_true, decide_eq_true_eq] at hfq
              omega
            refine gY (g := 93) rfl rfl rfl ?_
            refine st (X.add64 rfl rfl (by omega)) rfl ?_
            refine gY (g := 93) rfl rfl rfl ?_
            refine sm rfl rfl ?_
            refine gY (g := 93) rfl rfl rfl ?_
            refine st (X.leq rfl rfl) rfl ?_
            refine gY (g := 88) rfl rfl rfl ?_
            refine st (X.pickF rfl rfl) rfl ?_
            refine st (X.pickT rfl rfl) rfl ?_
            refine Wn ?_
            refine tN ?_
            refine W_no rfl (decide_eq_false (by rcases hro.2 with h1 | h1; have := h1.2.2.2; omega; exact absurd h88 h1.1)) ?_
            refine W_skip ?_
            refine bN ?_
            refine tN ?_
            refine W_reg ?_
            refine sm rfl rfl ?_
            refine st (X.add64 rfl rfl (by omega)) rfl ?_
            refine sa rfl rfl ?_
            refine Wn ?_
            refine tN ⟨_, _, ?_, ⟨i + 1, (doesM D q).2, _, rfl, rfl, by omega, hbw, hd, hg2, hro.1.trans hl⟩, ⟨rfl, rfl, rfl, rfl, trivial⟩⟩
            omega
          · first | replace h88 := of_decide_eq_false h88 | replace h88 := of_decide_eq_true (notF h88) | replace h88 := notF h88 | skip
            refine gN (g := 88) rfl rfl rfl rfl ?_
            refine gN (g := 88) rfl rfl rfl rfl ?_
            refine gN (g := 88) rfl rfl rfl rfl ?_
            refine gN (g := 88) rfl rfl rfl rfl ?_
            refine gN (g := 88) rfl rfl rfl rfl ?_
            refine gU (g := 93) rfl rfl rfl rfl ?_
            refine gU (g := 93) rfl rfl rfl rfl ?_
            refine gU (g := 93) rfl rfl rfl rfl ?_
            refine gU (g := 93) rfl rfl rfl rfl ?_
            refine gU (g := 93) rfl rfl rfl rfl ?_
            refine gU (g := 93) rfl rfl rfl rfl ?_
            refine gU (g := 93) rfl rfl rfl rfl ?_
            have hus : 0 ≤ D.used ∧ D.used ≤ 16777216 := by have := hgd.used; have := hgd.room; have := hgd.lim; omega
            have hdl : q.data.length ≤ 300 := by
              unfold fewO at hfq
              simp only [Bool.and_eq_true, decide_eq_true_eq] at hfq
              omega
            refine gU (g := 93) rfl rfl rfl rfl ?_
            refine gU (g := 93) rfl rfl rfl rfl ?_
            refine gU (g := 93) rfl rfl rfl rfl ?_
            refine gN (g := 88) rfl rfl rfl rfl ?_
            refine st (X.pickF rfl rfl) rfl ?_
            refine Wn ?_
            refine tN ?_
            refine W_no rfl (rfl) ?_
            refine W_skip ?_
            refine bN ?_
            refine tN ?_
            refine W_reg ?_
            refine sm rfl rfl ?_
            refine st (X.add64 rfl rfl (by omega)) rfl ?_
            refine sa rfl rfl ?_
            refine Wn ?_
            refine tN ⟨_, _, ?_, ⟨i + 1, (doesM D q).2, _, rfl, rfl, by omega, hbw, hd, hg2, hro.1.trans hl⟩, ⟨rfl, rfl, rfl, rfl, trivial⟩⟩
            omega
        · first | replace h44 := of_decide_eq_false h44 | replace h44 := of_decide_eq_true (notF h44) | replace h44 := notF h44 | skip
          refine W_exit (tE (tE (bH ?_)))
          refine tN ?_
          refine W_rs ?_
          refine sc _ Tryd.func24 rfl (by kernel_rfl) rfl rfl ((awake_any _).mono ?_)
          rintro e_ w14 ⟨rfl, hb⟩
          refine cR ?_
          replace hbw := bthen hbw hb
          replace hd := hd.bel hb
          have hz_w14 := hb.size
          clear hb
          refine sa rfl rfl ?_
          refine Wn ?_
          refine tN ?_
          refine W_ret ?_
          exact (rT rfl rfl ⟨rfl, hbw⟩).1
end Go.Proofs.YtnijmegalgoipaaDoor
