/- disk: put. -/
import Derived.Test.YtnijmegalgoipaaDoorDiskB
namespace Go.Proofs.YtnijmegalgoipaaDoor
open Go.RowKit
theorem bwrite (i : Int) (s : List UInt8) (w : World) : (Instr.build 109 #[(0, .int .i64 i), (1, str s)]).run Tryd.prog w = .ok (.agg #[.int .i64 i, str s]) w := by kernel_rfl
theorem Row.ne2 {w : World} {e : TypeId} {size n : Nat} {v : Value} {xs : List Value} {g : Nat} {t : TypeId} {cs : Array Value} (h : Row w e size v n xs) (hB : Blk w g t cs) (hne : e ≠ t) : ∀ k, v.ownBlock = some k → ¬ k = g :=
  fun k hk e => h.ne_ hB hne (by rw [← e]; exact hk)
theorem own_slice (a : Option Addr) (n c n' c' : Nat) : (Value.slice a n c).ownBlock = (Value.slice a n' c').ownBlock := by cases a <;> rfl
set_option maxRecDepth 10000 in
set_option maxHeartbeats 1000000 in
theorem put_any (g b : Nat) (D : DiskD) (rs : List (Key × FRec)) (S : Nat → Prop) (n : Key) (r : FRec) (at_ : Nat) (d : List UInt8) (w : World) (h : DiskIn w g b D rs S) (hok : DOk D) (hr : mget rs n = some r) (hat : at_ ≤ r.f.now.length) (hd : d.length ≤ 1099511627776) (hp : r.f.pend.length ≤ 1099511627776) (href : D.refused ≤ 4611686018427387904) :
    Calls Tryd.prog 58 #[.pointer (some ⟨g, 0, none⟩), .pointer (some ⟨r.blk, 0, none⟩), .int .i64 at_, str d] w fun e w' => e = .returned (.int .i64 (putM D n r.f at_ d).1) ∧ DiskAt w' g (putM D n r.f at_ d).2 (Ext S w w') ∧ Chg S w w' := by
  have hB : Blk w g 88 #[.map (some b), .int .i64 D.limit, .int .i64 D.used, .int .i64 D.refused, .bool D.stops, .int .i64 D.left] := h.blk
  have hlt := hB.lt
  have hfile := h.at_ n r hr
  have hfn : mget D.files n = some r.f := by rw [h.files, hr]; rfl
  have hF := hfile.blk
  have hflt := hF.lt
  have hgf : r.blk ≠ g := fun e => (h.ne hr).1 (.inl e.symm)
  have hNo := hfile.now
  have hLa := hfile.last
  have hPe := hfile.pend
  obtain ⟨hn1, hn2, hn3⟩ := hok.len hfn
  have hlim := hok.lim
  have hroom := hok.room
  have hused := hok.used
  have href0 := hok.ref
  obtain ⟨an, cn, hvn, hcn, hcn2⟩ := hNo.shape
  obtain ⟨ap, cp, hvp, hcp, hcp2⟩ := hPe.shape
  have hS1 : ∀ k, (k = g ∨ r.owns k) → S k := fun k hk => hk.elim (fun e => e ▸ h.inS.1) (h.inR n r k hr)
  rw [hvn] at hNo hF
  rw [hvp] at hPe hF
  have hmz : (moreM r.f at_ d : Int) = if (0 : Int) > (at_ : Int) + d.length - r.f.now.length then 0 else (at_ : Int) + d.length - r.f.now.length := by unfold moreM; split <;> omega
  have hml : moreM r.f at_ d ≤ d.length := by unfold moreM; omega
  refine W_enter (args := [.pointer (some ⟨g, 0, none⟩), .pointer (some ⟨r.blk, 0, none⟩), .int .i64 at_, str d]) 80 Tryd.func58 rfl rfl rfl ?_
  refine W_sub [(0, .pointer (some ⟨g, 0, none⟩)), (1, .pointer (some ⟨r.blk, 0, none⟩)), (2, .int .i64 at_), (3, str d)] ?_ ⟨rfl, rfl, rfl, rfl, trivial⟩
  have hcw := Chg.refl (fun k => k = g ∨ r.owns k) w
  refine W_rs ?_
  refine sa rfl rfl ?_
  refine Wn ?_
  refine tN ?_
  refine W_seq ?_
  refine W_rs ?_
  refine sm rfl rfl ?_
  refine st (X.eqS rfl rfl) rfl ?_
  refine Wn ?_
  refine tN ?_
  refine W_if rfl (fun h12 => ?_) (fun h12 => ?_)
  · first | replace h12 := of_decide_eq_true h12 | replace h12 := of_decide_eq_false (notT h12) | replace h12 := notT h12 | skip
    refine W_rs ?_
    refine sa rfl rfl ?_
    refine Wn ?_
    refine tN ?_
    refine W_ret (tR ?_)
    subst h12
    refine (rT rfl rfl ⟨rfl, ⟨b, rs, ?_⟩, Chg.refl _ _⟩).1
    exact h.mono Ext.of
  · first | replace h12 := of_decide_eq_false h12 | replace h12 := of_decide_eq_true (notF h12) | replace h12 := notF h12 | skip
    refine W_skip ?_
    refine tN ?_
    refine W_rs ?_
    refine sm rfl rfl ?_
    refine sm rfl rfl ?_
    refine st (X.lenS rfl rfl Tryd.underlying9) rfl ?_
    refine st (X.add64 rfl rfl (by omega)) rfl ?_
    refine sm rfl rfl ?_
    refine st (X.nilChk rfl) rfl ?_
    refine st (X.fa fa95_1 rfl) rfl ?_
    refine st (X.ldL rfl hF Tryd.underlying92 rfl rfl) rfl ?_
    refine st (X.lenL rfl rfl Tryd.underlying92) rfl ?_
    refine st (X.sub64 rfl rfl (by omega)) rfl ?_
    refine st (X.max2 (r := (moreM r.f at_ d : Nat)) rfl rfl hmz) rfl ?_
    refine sa rfl rfl ?_
    refine Wn ?_
    refine tN ?_
    refine W_seq ?_
    refine W_still_s 10 (by kernel_rfl) (by kernel_rfl) ?_
    obtain ⟨w1, hw_⟩ : ∃ w1 : World, w1 = World.drew w := ⟨_, rfl⟩
    rw [← hw_]
    have hb : Below w.heap.size w w1 := by rw [hw_]; exact bdrew (Below.refl _ _)
    clear hw_
    replace hcw := hcw.then_below hb
    replace hB := hB.bel hb
    replace hF := hF.bel hb
    replace hNo := hNo.bel hb
    replace hLa := hLa.bel hb
    replace hPe := hPe.bel hb
    have hz_w1 := hb.size
    clear hb
    refine hY (X.move rfl) rfl ?_
    refine hY (X.nilChk rfl) rfl ?_
    refine hY (X.fa fa88_2 rfl) rfl ?_
    refine hY (X.ldL rfl hB Tryd.underlying3 rfl rfl) rfl ?_
    refine hY (X.move rfl) rfl ?_
    refine hY (X.add64 rfl rfl (by omega)) rfl ?_
    refine hY (X.move rfl) rfl ?_
    refine hY (X.nilChk rfl) rfl ?_
    refine hY (X.fa fa88_1 rfl) rfl ?_
    refine hY (X.ldL rfl hB Tryd.underlying3 rfl rfl) rfl ?_
    refine hN ?_
    refine st (X.gtr rfl rfl) rfl ?_
    refine Wn ?_
    refine tN ?_
    refine W_if rfl (fun h34 => ?_) (fun h34 => ?_)
    · first | replace h34 := of_decide_eq_true h34 | replace h34 := of_decide_eq_false (notT h34) | replace h34 := notT h34 | skip
      refine W_rs ?_
      refine sm rfl rfl ?_
      refine st (X.nilChk rfl) rfl ?_
      refine st (X.fa fa88_3 rfl) rfl ?_
      refine st (X.ldL rfl hB Tryd.underlying3 rfl rfl) rfl ?_
      refine st (X.add64 rfl rfl (by omega)) rfl ?_
      refine st (X.nilChk rfl) rfl ?_
      refine st (X.fa fa88_3 rfl) rfl ?_
      refine ssB rfl rfl hB siz3 rfl (by simp) (fun w2 hB2 hC2 => ?_)
      replace hLa := hLa.chg hC2 (hLa.ne2 hB (by decide))
      replace hPe := hPe.chg hC2 (hPe.ne2 hB (by decide))
      replace hNo := hNo.chg hC2 (hNo.ne2 hB (by decide))
      replace hF := hF.chg hC2 hgf
      replace hcw := hcw.next hC2 (fun i hi => .inl (.inl hi))
      refine Wn ?_
      refine tN ?_
      refine W_rs ?_
      refine sa rfl rfl ?_
      refine Wn ?_
      refine tN ?_
      refine W_ret (tR ?_)
      have e1 : putM D n r.f at_ d = (17, { D with refused := D.refused + 1 }) := by unfold putM; rw [if_neg h12, if_pos (by omega)]
      rw [e1]
      refine (rT rfl rfl ⟨rfl, ⟨b, _, h.file (r' := r) hr hcw hB2 ?_ ⟨by rw [hvn, hvp]; exact hF, hLa, by rw [hvn]; exact hNo, by rw [hvp]; exact hPe, hfile.apart⟩ rfl (fun k hk => .inl hk)⟩, hcw.mono (fun k _ hk => hS1 k hk)⟩).1
      intro m
      show mget D.files m = _
      split
      · rename_i hm
        rw [hm, hfn]
      · rfl
    · first | replace h34 := of_decide_eq_false h34 | replace h34 := of_decide_eq_true (notF h34) | replace h34 := notF h34 | skip
      refine W_skip ?_
      refine tN ?_
      refine W_rs ?_
      refine sm rfl rfl ?_
      refine sm rfl rfl ?_
      refine st (X.nilChk rfl) rfl ?_
      refine st (X.fa fa95_1 rfl) rfl ?_
      refine st (X.ldL rfl hF Tryd.underlying92 rfl rfl) rfl ?_
      refine sm rfl rfl ?_
      refine sm rfl rfl ?_
      refine sc _ Tryd.func86 rfl (by kernel_rfl) rfl rfl ((over_any _ r.f.now at_ d _ hNo hat (by omega) (by omega)).mono ?_)
      rintro e_ w3 ⟨v', rfl, hNw, hC1, hO1⟩
      refine cR ?_
      replace hB := hB.chg hC1 (fun e => hNo.ne2 hB (by decide) _ e rfl)
      replace hF := hF.chg hC1 (fun e => hNo.ne2 hF (by decide) _ e rfl)
      replace hLa := hLa.chg hC1 (fun k hk e => hfile.apart k hk (by rw [hvn]; exact e))
      replace hPe := hPe.chg hC1 (fun k hk => hPe.apart_ hNo (by decide) k hk)
      replace hcw := hcw.next hC1 (fun i hi => .inl (.inr (.inr (.inr (.inl (by rw [hvn]; exact hi))))))
      refine st (X.nilChk rfl) rfl ?_
      refine st (X.fa fa95_1 rfl) rfl ?_
      refine ssB rfl rfl hF siz92 hNw.one1 (by simp) (fun w4 hF2 hC2 => ?_)
      replace hB := hB.chg hC2 (fun e => hgf e.symm)
      replace hLa := hLa.chg hC2 (hLa.ne2 hF (by decide))
      replace hPe := hPe.chg hC2 (hPe.ne2 hF (by decide))
      replace hNw := hNw.chg hC2 (hNw.ne2 hF (by decide))
      replace hF : Blk w4 r.blk 95 #[r.vl, v', .slice ap r.f.pend.length cp] := hF2
      replace hcw := hcw.next hC2 (fun i hi => .inl (.inr (.inl hi)))
      clear hF2 hNo
      refine Wn ?_
      refine tN ?_
      refine W_rs ?_
      refine sm rfl rfl ?_
      refine st (X.nilChk rfl) rfl ?_
      refine st (X.fa fa95_2 rfl) rfl ?_
      refine st (X.ldL rfl hF Tryd.underlying93 rfl rfl) rfl ?_
      refine st (X.lenL rfl rfl Tryd.underlying93) rfl ?_
      refine sa rfl rfl ?_
      refine Wn ?_
      refine tN ?_
      refine W_rs ?_
      refine sm rfl rfl ?_
      refine sm rfl rfl ?_
      refine st (X.nilChk rfl) rfl ?_
      refine st (X.fa fa95_2 rfl) rfl ?_
      refine st (X.ldL rfl hF Tryd.underlying93 rfl rfl) rfl ?_
      refine sm rfl rfl ?_
      refine sm rfl rfl ?_
      refine st (X.fullL (j := r.f.pend.length) rfl rfl rfl Tryd.underlying93 siz109 rfl rfl hcp) rfl ?_
      rw [sliced_zero]
      refine sm rfl rfl ?_
      refine sm rfl rfl ?_
      refine st (X.bld rfl (bwrite _ _ _)) rfl ?_
      refine sbs1 rfl Tryd.underlying93 inf109 rfl rfl (by decide) (by decide) rfl (fun g68 w5 hR68 hg68 hb => ?_)
      replace hB := hB.bel hb
      replace hF := hF.bel hb
      replace hLa := hLa.bel hb
      replace hPe := hPe.bel hb
      replace hNw := hNw.bel hb
      replace hcw := hcw.then_below hb
      clear hb
      refine sapp rfl rfl Tryd.underlying93 inf109 rfl (by decide) hPe.full (hR68.src Tryd.underlying93 (putCells_one (at_, d))) (by simp only [maxLen]; omega) (by omega) rfl (fun vq w6 hPw hC4 hv4 => ?_)
      have hzc := hcw.size
      replace hB := hB.chg hC4 (fun e => hPe.full.ne2 hB (by decide) _ e rfl)
      replace hF := hF.chg hC4 (fun e => hPe.full.ne2 hF (by decide) _ e rfl)
      replace hLa := hLa.chg hC4 (fun k hk => hLa.apart_ hPe.full (by decide) k hk)
      replace hNw := hNw.chg hC4 (fun k hk => hNw.apart_ hPe.full (by decide) k hk)
      replace hcw := hcw.next hC4 (fun i hi => .inl (.inr (.inr (.inr (.inr (by rw [hvp]; exact (own_slice ..).trans hi))))))
      have hO4 : ∀ k, vq.ownBlock = some k → r.vp.ownBlock = some k ∨ w.heap.size ≤ k := fun k hk => by
        rcases hv4 with hv4 | hv4
        · left
          rw [hvp]
          exact (own_slice ..).trans (hv4.symm.trans hk)
        · rw [hv4] at hk
          injection hk with hk
          right
          omega
      refine st (X.nilChk rfl) rfl ?_
      refine st (X.fa fa95_2 rfl) rfl ?_
      refine ssB rfl rfl hF siz93 hPw.one1 (by simp) (fun w7 hF2 hC2 => ?_)
      replace hB := hB.chg hC2 (fun e => hgf e.symm)
      replace hLa := hLa.chg hC2 (hLa.ne2 hF (by decide))
      replace hPw := hPw.chg hC2 (hPw.ne2 hF (by decide))
      replace hNw := hNw.chg hC2 (hNw.ne2 hF (by decide))
      replace hF : Blk w7 r.blk 95 #[r.vl, v', vq] := hF2
      replace hcw := hcw.next hC2 (fun i hi => .inl (.inr (.inl hi)))
      clear hF2
      refine Wn ?_
      refine tN ?_
      refine W_rs ?_
      refine sm rfl rfl ?_
      refine st (X.nilChk rfl) rfl ?_
      refine st (X.fa fa88_2 rfl) rfl ?_
      refine st (X.ldL rfl hB Tryd.underlying3 rfl rfl) rfl ?_
      refine sm rfl rfl ?_
      refine st (X.add64 rfl rfl (by omega)) rfl ?_
      refine st (X.nilChk rfl) rfl ?_
      refine st (X.fa fa88_2 rfl) rfl ?_
      refine ssB rfl rfl hB siz3 rfl (by simp) (fun w8 hB2 hC2 => ?_)
      replace hLa := hLa.chg hC2 (hLa.ne2 hB (by decide))
      replace hPw := hPw.chg hC2 (hPw.ne2 hB (by decide))
      replace hNw := hNw.chg hC2 (hNw.ne2 hB (by decide))
      replace hF := hF.chg hC2 hgf
      replace hcw := hcw.next hC2 (fun i hi => .inl (.inl hi))
      refine Wn ?_
      refine tN ?_
      refine W_rs ?_
      refine sa rfl rfl ?_
      refine Wn ?_
      refine tN ?_
      refine W_ret ?_
      have e1 : putM D n r.f at_ d = (0, { D with files := sput D.files n (laidM r.f at_ d), used := D.used + moreM r.f at_ d }) := by unfold putM; rw [if_neg h12, if_neg (by omega)]
      rw [e1]
      refine (rT rfl rfl ⟨rfl, ⟨b, _, h.file (r' := ⟨r.blk, r.vl, v', vq, laidM r.f at_ d⟩) hr hcw hB2 ?_ ⟨hF, hLa, hNw, ?_, ?_⟩ rfl ?_⟩, hcw.mono (fun k _ hk => hS1 k hk)⟩).1
      · intro m
        exact mget_sput hok.srt n _ m
      · show Row _ _ 2 vq (r.f.pend ++ [(at_, d)]).length ((r.f.pend ++ [(at_, d)]).flatMap putCells)
        rw [List.length_append, List.flatMap_append]
        exact hPw
      · intro k hk hk2
        rcases hO1 k hk2 with e | e
        · exact hfile.apart k hk (by rw [hvn]; exact e)
        · have := hfile.lt (.inr (.inl hk))
          omega
      · rintro k (e | e | e | e)
        · exact .inl (.inl e)
        · exact .inl (.inr (.inl e))
        · rcases hO1 k e with e | e
          · exact .inl (.inr (.inr (.inl (by rw [hvn]; exact e))))
          · exact .inr (by omega)
        · rcases hO4 k e with e | e
          · exact .inl (.inr (.inr (.inr e)))
          · exact .inr e
end Go.Proofs.YtnijmegalgoipaaDoor
