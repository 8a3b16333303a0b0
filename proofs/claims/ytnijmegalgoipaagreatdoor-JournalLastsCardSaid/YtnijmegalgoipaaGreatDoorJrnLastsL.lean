/- The law JournalLasts. -/
import Derived.Test.YtnijmegalgoipaaGreatDoorLastsRun
namespace Go.Proofs.YtnijmegalgoipaaGreatDoor
open Go.RowKit
theorem read_len {D : DiskD} (hok : DOk D) (n : Key) (i k : Int) : (readM D n i k).1.length ≤ 16777216 := by
  unfold readM
  split
  · exact Nat.zero_le _
  · rename_i f hf
    split
    · exact Nat.zero_le _
    · have := (hok.len hf).1
      simp only [List.length_take, List.length_drop]
      omega
theorem openJ_good {n : Nat} {D : DiskD} (h : Good n D) : Good (n + 16777300) (openJ D).2 := by
  have h1 := madeJ_good h
  have h2 := fun s => replaceJ_good h1 s
  unfold openJ
  split
  · exact h1.mono (by omega)
  split
  · exact h1.mono (by omega)
  split
  · have h3 : ∀ s : List UInt8, s.length ≤ 16777216 → Good (n + 16777300) (replaceJ (madeJ D).2 s).2 := fun s hs => (h2 s).mono (by omega)
    have h4 := read_len h1.ok jName 0 (sizeM D jName).1
    split
    · exact h3 _ (by rw [List.length_take]; omega)
    · exact h3 _ (by rw [List.length_take]; omega)
  · exact h1.mono (by omega)
/-- what Open answers on a disk that may stop -/
theorem OpenTwo_any (B gd : Nat) (C : List UInt8) (X : ScM) (og : Option FileD) (st : Bool) (lf : Int) (S : Nat → Prop) (n : Nat) (w : World) (hJF : JFile C X) (hC : C.length ≤ 500000) (hd : Own B w gd (twoD ⟨C, C, []⟩ og st lf) S) (hB : B ≤ w.heap.size) (hg : Good n (twoD ⟨C, C, []⟩ og st lf)) (hn : n ≤ 400000000) :
    Calls Tryz.prog 18 #[.pointer (some ⟨gd, 0, none⟩)] w (fun e w' => ∃ po er C' og' st' lf' S', e = .returned (.tuple #[.pointer po, .int .i64 er]) ∧ Own B w' gd (twoD ⟨C', C', []⟩ og' st' lf') S' ∧ JFile C' X ∧ C'.length ≤ 500000 ∧ Good (n + 16777300) (twoD ⟨C', C', []⟩ og' st' lf') ∧ (st = false → st' = false) ∧
      ((er = 19 ∧ po = none ∧ st = true) ∨ (er = 0 ∧ ∃ gk vk, po = some ⟨gk, 0, none⟩ ∧ JAll B w' gd gk (twoD ⟨C', C', []⟩ og' st' lf') (viewM X) vk S' ∧ w.heap.size ≤ gk ∧ ∀ k, vk.ownBlock = some k → w.heap.size ≤ k)) ∧ (∀ k, S' k → S k ∨ w.heap.size ≤ k) ∧ Chg S w w') := by
  refine (Open_any B gd _ S n w hd hB hg (by omega)).mono ?_
  rintro e w' ⟨S', hO, hS, hX, hm⟩
  have hgo := openJ_good hg
  rcases open_two og st lf hJF hC with ⟨C', og', lf', h1, h2, h3⟩ | ⟨hst, og', h3⟩
  · rw [h3] at hO hm hgo
    obtain ⟨gj, v, rfl, hj, hgj, hv⟩ := hm
    exact ⟨_, _, C', og', st, lf', S', rfl, hO, h1, by omega, hgo, fun e => e, .inr ⟨rfl, gj, v, rfl, hj, hgj, hv⟩, hS, hX⟩
  · rw [h3] at hO hm hgo
    exact ⟨_, _, C, og', true, 0, S', hm, hO, hJF, hC, hgo, fun e => (by rw [hst] at e; cases e), .inl ⟨rfl, rfl, hst⟩, hS, hX⟩
theorem jrNeN2 (w : World) : (binOp .neq 43 (.pointer none) (.pointer none)).run Tryz.prog w = .ok (.bool false) w := by kernel_rfl
theorem X.jNeG {l : Env} {x : Operand} {t' ty : TypeId} {w : World} {p : Option Addr} (hx : ev l x = some (.pointer p)) : X Tryz.prog l (.binOp .neq 43 x (.const (.pointer none)) t') ty w (.bool p.isSome) w :=
  X.bin hx rfl guard_ptr (by cases p with | none => exact jrNeN2 w | some a => exact jrNeP w a)
theorem Ext.old {w w' : World} {S : Nat → Prop} : ∀ k, Ext S w w' k → S k ∨ w.heap.size ≤ k := fun _ h => h.imp (fun e => e) (fun e => e.1)
theorem two_len (f : FileD) (og : Option FileD) (st : Bool) (lf : Int) : (twoD f og st lf).files.length ≤ 2 := by
  cases og with
  | none => exact Nat.le_succ 1
  | some g => exact Nat.le_refl 2
theorem stop_jd (n : Int) : stopM (jd []) n = twoD ⟨[], [], []⟩ none (decide (0 ≤ n)) n := by kernel_rfl
theorem Own.chg {B c : Nat} {w w' : World} {E : DiskD} {S T : Nat → Prop} (h : Own B w c E T) (hC : Chg S w w') (hd : ∀ k, T k → ¬ S k) : Own B w' c E T := h.other hC (fun k h1 h2 => hd k h2 h1)
/-- what is not the disk's -/
def Off (g4 g11 : Nat) (u : Value) (S : Nat → Prop) : Prop := ¬ S g4 ∧ ¬ S g11 ∧ ∀ k, u.ownBlock = some k → ¬ S k
theorem Off.next {g4 g11 : Nat} {u : Value} {S S' : Nat → Prop} {w : World} {e : TypeId} {n : Nat} {xs : List Value} {t4 t11 : TypeId} {c4 c11 : Array Value} (h : Off g4 g11 u S) (h4 : Blk w g4 t4 c4) (h11 : Blk w g11 t11 c11) (hR : Row w e 1 u n xs) (hS : ∀ k, S' k → S k ∨ w.heap.size ≤ k) : Off g4 g11 u S' := by
  have a := h4.lt
  have b := h11.lt
  exact ⟨fun e => (hS _ e).elim h.1 (fun e => by omega), fun e => (hS _ e).elim h.2.1 (fun e => by omega), fun k hk e => (hS _ e).elim (h.2.2 k hk) (fun e => by have := hR.lt k hk; omega)⟩
set_option maxRecDepth 10000 in
theorem JournalLasts_walk (w : World) (vl : Value) (l : List Op16) (hO : Ops16At w vl l) (s0 s1 : Int) (hs0 : s0 ≤ 9223372036854775807) (hs1 : s1 ≤ 9223372036854775807) (vp : Value) (ps : List Int) (hP : Reads w 1 vp ps.length (ps.map fun k => .int .i64 k)) :
    Calls Tryz.prog 7 #[vl, .agg #[.int .i64 s0, .int .i64 s1], vp] w fun e w' => e = .returned (.bool true) ∧ Below w.heap.size w w' := by
  obtain ⟨al, cl, rfl, hl1, hl2⟩ := hO.1.shape
  obtain ⟨ap, cp, rfl, hp1, hp2⟩ := hP.shape
  have hPlt : 0 < ps.length → ∀ k, (Value.slice ap ps.length cp).ownBlock = some k → k < w.heap.size := fun h0 k hk => hP.ownLt h0 hk
  refine W_enter (args := [.slice al l.length cl, .agg #[.int .i64 s0, .int .i64 s1], .slice ap ps.length cp]) 151 Tryz.func7 rfl rfl rfl ?_
  refine W_sub [(0, .slice al l.length cl), (1, .agg #[.int .i64 s0, .int .i64 s1]), (2, .slice ap ps.length cp)] ?_ ⟨rfl, rfl, rfl, trivial⟩
  have hbw := Below.refl w.heap.size w
  refine W_rs ?_
  refine sboxA rfl rfl (fun g4 w1 hB4 hg4 hb hl4 => ?_)
  replace hbw := bthen hbw hb
  have hz_w1 := hb.size
  clear hb
  refine sa rfl rfl ?_
  refine Wn ?_
  refine tN ?_
  refine W_seq ?_
  refine W_rs ?_
  refine sm rfl rfl ?_
  refine sc _ Tryz.func31 rfl (by kernel_rfl) rfl rfl ((Few16_any _ l _ (hO.bel hbw)).mono ?_)
  rintro e_ w2 ⟨rfl, hb⟩
  refine cR ?_
  replace hbw := bthen hbw hb
  replace hB4 := hB4.bel hb
  have hz_w2 := hb.size
  clear hb
  refine st (X.not rfl) rfl ?_
  refine sb rfl rfl (fun h21 => ?_) (fun h21 => ?_)
  · first | replace h21 := of_decide_eq_true h21 | replace h21 := of_decide_eq_false (notT h21) | replace h21 := notT h21 | skip
    refine gN (g := 21) rfl rfl rfl rfl ?_
    refine gN (g := 21) rfl rfl rfl rfl ?_
    refine gN (g := 21) rfl rfl rfl rfl ?_
    refine st (X.pickT rfl rfl) rfl ?_
    refine Wn ?_
    refine tN ?_
    refine W_yes rfl (rfl) ?_
    refine W_rs ?_
    refine sc _ Tryz.func17 rfl (by kernel_rfl) rfl rfl ((awake16_any _).mono ?_)
    rintro e_ w3 ⟨rfl, hb⟩
    refine cR ?_
    replace hbw := bthen hbw hb
    replace hB4 := hB4.bel hb
    have hz_w3 := hb.size
    clear hb
    refine sa rfl rfl ?_
    refine Wn ?_
    refine tN ?_
    refine W_ret (tR ?_)
    exact (rT rfl rfl ⟨rfl, hbw⟩).1
  · first | replace h21 := of_decide_eq_false h21 | replace h21 := of_decide_eq_true (notF h21) | replace h21 := notF h21 | skip
    refine gY (g := 21) rfl rfl rfl ?_
    refine sm rfl rfl ?_
    refine gY (g := 21) rfl rfl rfl ?_
    refine st (X.lenL rfl rfl Tryz.underlying34) rfl ?_
    refine gY (g := 21) rfl rfl rfl ?_
    refine st (X.gtr rfl rfl) rfl ?_
    refine st (X.pickF rfl rfl) rfl ?_
    refine Wn ?_
    refine tN ?_
    refine W_if rfl (fun h25 => ?_) (fun h25 => ?_)
    · first | replace h25 := of_decide_eq_true h25 | replace h25 := of_decide_eq_false (notT h25) | replace h25 := notT h25 | skip
      refine W_rs ?_
      refine sc _ Tryz.func17 rfl (by kernel_rfl) rfl rfl ((awake16_any _).mono ?_)
      rintro e_ w4 ⟨rfl, hb⟩
      refine cR ?_
      replace hbw := bthen hbw hb
      replace hB4 := hB4.bel hb
      have hz_w4 := hb.size
      clear hb
      refine sa rfl rfl ?_
      refine Wn ?_
      refine tN ?_
      refine W_ret (tR ?_)
      exact (rT rfl rfl ⟨rfl, hbw⟩).1
    · first | replace h25 := of_decide_eq_false h25 | replace h25 := of_decide_eq_true (notF h25) | replace h25 := notF h25 | skip
      refine W_skip ?_
      refine tN ?_
      refine W_rs ?_
      refine sc _ Tryz.func9 rfl (by kernel_rfl) rfl rfl ((New_ok 1048576 _ (by omega)).mono ?_)
      rintro e_ w5 ⟨gd, S0, rfl, h0, hS0, hb⟩
      refine cR ?_
      replace hbw := bthen hbw hb
      replace hB4 := hB4.bel hb
      have hz_w5 := hb.size
      clear hb
      have hd : Own w.heap.size w5 gd (newM 1048576) S0 := ⟨h0, fun k hk => by have := hS0 k hk; have := hbw.size; omega⟩
      have hS4 : ¬ S0 g4 := fun e => by have := hS0 _ e; have := hl4; omega
      clear h0 hS0
      refine sm rfl rfl ?_
      refine st (X.ext rfl rfl) rfl ?_
      refine st (X.ext rfl rfl) rfl ?_
      refine sa rfl rfl ?_
      refine sa rfl rfl ?_
      refine Wn ?_
      refine tN ?_
      refine W_rs ?_
      refine sm rfl rfl ?_
      have hOp := Open_any w.heap.size gd (newM 1048576) S0 0 w5 hd hbw.size (Good.new (by omega)) (by omega)
      rw [open_new] at hOp
      refine sc _ Tryz.func18 rfl (by kernel_rfl) rfl rfl ((hOp).mono ?_)
      rintro e_ w6 ⟨S1, hd1, hS1, hX, gj, v1, rfl, hj, hgj, hv1⟩
      refine cR ?_
      have hz9 := hB4.lt
      have hap4 : Ap S1 gj v1 g4 := ⟨fun e => (hS1 _ e).elim hS4 (fun e => by omega), by omega, fun e => by have := hv1 _ e; omega⟩
      have hB4' := hB4.chg hX hS4
      replace hbw := bchg hbw hX (fun k hk => (hd.lo k hk).1)
      have hz_w6 := hX.size
      clear hd hd1 hX hOp hB4
      have hB4 := hB4'
      clear hB4'
      refine sm rfl rfl ?_
      refine st (X.ext rfl rfl) rfl ?_
      refine st (X.ext rfl rfl) rfl ?_
      refine sa rfl rfl ?_
      refine sa rfl rfl ?_
      refine Wn ?_
      refine tN ?_
      refine W_seq ?_
      refine W_rs ?_
      refine sm rfl rfl ?_
      refine st (X.neq rfl rfl) rfl ?_
      refine sbN rfl (rfl) rfl ?_
      refine gY (g := 38) rfl rfl rfl ?_
      refine sm rfl rfl ?_
      refine gY (g := 38) rfl rfl rfl ?_
      refine st (X.neq rfl rfl) rfl ?_
      refine st (X.pickF rfl rfl) rfl ?_
      refine sbN rfl (rfl) rfl ?_
      refine gY (g := 42) rfl rfl rfl ?_
      refine sm rfl rfl ?_
      refine gY (g := 42) rfl rfl rfl ?_
      refine st (X.jEq rfl) rfl ?_
      refine st (X.pickF rfl rfl) rfl ?_
      refine Wn ?_
      refine tN ?_
      refine W_no rfl (rfl) ?_
      refine W_skip ?_
      refine tN ?_
      refine W_rs ?_
      refine sm rfl rfl ?_
      refine st (X.idxArr (j := 0) rfl rfl Tryz.underlying60 siz3 rfl (by decide)) rfl ?_
      refine st (X.ldL rfl hB4 Tryz.underlying3 rfl rfl) rfl ?_
      refine sc _ Tryz.func32 rfl (by kernel_rfl) rfl rfl ((Stop_any gd _ S1 s0 _ hj.jf.own.at_).mono ?_)
      rintro e_ w7 ⟨rfl, h1, hX⟩
      refine cR ?_
      have hjn := hj.open_ (hj.jf.own.same h1 hX) (fun k hk => .inl hk) hX
      rw [stop_jd] at hjn
      have hB4' := hB4.chg hX hap4.s
      have hbwn := bchg hbw hX (fun k hk => (hj.jf.own.lo k hk).1)
      have hz_w7 := hX.size
      clear hj hbw h1 hX hB4
      have hj := hjn
      have hbw := hbwn
      have hB4 := hB4'
      clear hjn hbwn hB4'
      refine Wn ?_
      refine tN ?_
      refine W_rs ?_
      refine sm rfl rfl ?_
      refine sm rfl rfl ?_
      have hgJ : Good 1 (twoD ⟨[], [], []⟩ none (decide (0 ≤ s0)) s0) := by rw [← stop_jd]; exact stop_good (jd_good (by simp)) hs0
      have hRI : RInv 0 (twoD ⟨[], [], []⟩ none (decide (0 ≤ s0)) s0) ⟨scNew, false⟩ ⟨[], [], [], false, [], false⟩ 0 [] := ⟨⟨[], _, _, rfl, FitJ.new, Nat.zero_le _⟩, rfl, rfl, rfl, fun e => absurd e (Nat.lt_irrefl 0), ⟨Nat.le_refl _, Nat.le_refl _⟩, Nat.le_refl _, Nat.le_refl _⟩
      refine sc _ Tryz.func33 rfl (by kernel_rfl) rfl rfl ((run_any w.heap.size gd gj _ _ v1 _ S1 l 1 w _ rfl hbw hj hO (by assumption) hRI hgJ (by omega)).mono ?_)
      rintro e_ w8 ⟨x, vd, D1, S2, rfl, hRd, hvd, hFin, hg1, hd, hS2, hX⟩
      refine cR ?_
      obtain ⟨ad, cd, rfl, hcd1, hcd2⟩ := hRd.shape
      have hS24 : ¬ S2 g4 := fun e => (hS2 _ e).elim hap4.s (fun e => by have := hB4.lt; omega)
      have hB4' := hB4.chg hX hap4.no
      have hvB : ∀ k, v1.ownBlock = some k → w.heap.size ≤ k := fun k hk => (hj.jf.v k hk).2
      have hbwn := bchg hbw hX (fun k hk => hk.elim (fun e => (hj.jf.own.lo k e).1) (fun e => e.elim (fun e => by have := hj.jf.gB; omega) (fun e => hvB k e)))
      have hz_w8 := hX.size
      clear hj hbw hX hB4
      have hbw := hbwn
      have hB4 := hB4'
      clear hbwn hB4'
      have hlo2 := hd.lo
      refine salA inf64 rfl (fun g11 w9 hB11 hg11 hb hl11 => ?_)
      replace hbw := bthen hbw hb
      replace hB4 := hB4.bel hb
      replace hd := hd.bel hb
      replace hRd := hRd.bel hb
      have hz_w9 := hb.size
      clear hb
      have hne11 : ∀ k, S2 k → ¬ k = g11 := fun k hk => by have := hlo2 k hk; omega
      have hne11r : ∀ k, (Value.slice ad x.done.length cd).ownBlock = some k → ¬ k = g11 := hRd.ne2 hB11 (by decide)
      refine ssBN rfl rfl hB11 siz64 rfl rfl (fun w10 hB_ hc_ => ?_)
      replace hB11 := hB_
      clear hB_
      replace hB4 := hB4.chg hc_ (by first | (show ¬ _ = _; omega) | (intro k_ hk_; simp [Value.ownBlock] at hk_; subst hk_; show ¬ _ = _; omega) | assumption | trivial)
      replace hd := hd.chg hc_ (by first | (show ¬ _ = _; omega) | (intro k_ hk_; simp [Value.ownBlock] at hk_; subst hk_; show ¬ _ = _; omega) | assumption | trivial)
      replace hRd := hRd.chg hc_ (by first | (show ¬ _ = _; omega) | (intro k_ hk_; simp [Value.ownBlock] at hk_; subst hk_; show ¬ _ = _; omega) | assumption | trivial)
      replace hbw := bset hbw hc_ (by omega)
      have hz_w10 := hc_.size
      clear hc_
      have hB11' : Blk w10 g11 64 #[str x.state, .slice ad x.done.length cd, str x.more, .bool x.is_, str x.other, .bool x.was] := hB11
      clear hB11
      have hB11 := hB11'
      clear hB11'
      have hoff : Off g4 g11 (Value.slice ad x.done.length cd) S2 := ⟨hS24, fun e => hne11 _ e rfl, fun k hk => (hvd k hk).2⟩
      obtain ⟨C, Xm, og, lf, hcr, hCl, hJF, hH, hdl⟩ := hFin.crash ps
      have hgC := crash_good hg1 ps
      rw [hcr] at hgC
      have hlod := hd.lo
      clear hS24 hlo2 hvd
      refine Wn ?_
      refine tN ?_
      refine W_rs ?_
      refine sm rfl rfl ?_
      refine sm rfl rfl ?_
      refine sc _ Tryz.func23 rfl (by kernel_rfl) rfl rfl ((Crash_any gd D1 S2 _ ps _ hd.at_ hg1.ok (hg1.bud (by omega)) (by have := hg1.few; omega) (hP.bel hbw) (fun h0 k hk e => by have := hPlt h0 k hk; have := hlod k e; omega)).mono ?_)
      rintro e_ w11 ⟨rfl, h1, hX⟩
      refine cR ?_
      rw [hcr] at h1
      have hdn := hd.step h1 hX hbw.size
      have hB4' := hB4.chg hX hoff.1
      have hB11' := hB11.chg hX hoff.2.1
      have hRd' := hRd.chg hX hoff.2.2
      have hoffn : Off g4 g11 (Value.slice ad x.done.length cd) (Ext S2 _ w11) := hoff.next hB4 hB11 hRd (Ext.old (w' := w11))
      have hbwn := bchg hbw hX (fun k hk => (hd.lo k hk).1)
      have hz_w11 := hX.size
      clear hd hbw hX hB4 hB11 hRd hoff h1 hlod
      have hd := hdn
      have hbw := hbwn
      have hB4 := hB4'
      have hB11 := hB11'
      have hRd := hRd'
      have hoff := hoffn
      clear hdn hbwn hB4' hB11' hRd' hoffn
      have hlod := hd.lo
      refine Wn ?_
      refine tN ?_
      refine W_rs ?_
      refine sm rfl rfl ?_
      refine st (X.idxArr (j := 1) rfl rfl Tryz.underlying60 siz3 rfl (by decide)) rfl ?_
      refine st (X.ldL rfl hB4 Tryz.underlying3 rfl rfl) rfl ?_
      refine sc _ Tryz.func32 rfl (by kernel_rfl) rfl rfl ((Stop_any gd _ _ s1 _ hd.at_).mono ?_)
      rintro e_ w12 ⟨rfl, h1, hX⟩
      refine cR ?_
      have hgS := stop_good hgC hs1
      rw [stop_two] at hgS h1
      have hdn := hd.same h1 hX
      have hB4' := hB4.chg hX hoff.1
      have hB11' := hB11.chg hX hoff.2.1
      have hRd' := hRd.chg hX hoff.2.2
      have hoffn : Off g4 g11 (Value.slice ad x.done.length cd) _ := hoff.next hB4 hB11 hRd (fun k hk => .inl hk)
      have hbwn := bchg hbw hX (fun k hk => (hd.lo k hk).1)
      have hz_w12 := hX.size
      clear hd hbw hX hB4 hB11 hRd hoff hlod h1 hgC
      have hd := hdn
      have hbw := hbwn
      have hB4 := hB4'
      have hB11 := hB11'
      have hRd := hRd'
      have hoff := hoffn
      clear hdn hbwn hB4' hB11' hRd' hoffn
      have hlod := hd.lo
      refine Wn ?_
      refine tN ?_
      refine W_rs ?_
      refine sm rfl rfl ?_
      refine sc _ Tryz.func18 rfl (by kernel_rfl) rfl rfl ((OpenTwo_any w.heap.size gd C Xm _ _ _ _ 100000 _ hJF (by omega) hd hbw.size hgS (by omega)).mono ?_)
      rintro e_ w13 ⟨po, er, C1, og1, st1, lf1, S3, rfl, hdn, hJF1, hC1, hg2, hst, hor, hS3, hX⟩
      refine cR ?_
      have hB4' := hB4.chg hX hoff.1
      have hB11' := hB11.chg hX hoff.2.1
      have hRd' := hRd.chg hX hoff.2.2
      have hoffn : Off g4 g11 (Value.slice ad x.done.length cd) _ := hoff.next hB4 hB11 hRd (hS3)
      have hbwn := bchg hbw hX (fun k hk => (hd.lo k hk).1)
      have hz_w13 := hX.size
      clear hd hbw hX hB4 hB11 hRd hoff hlod hgS
      have hd := hdn
      have hbw := hbwn
      have hB4 := hB4'
      have hB11 := hB11'
      have hRd := hRd'
      have hoff := hoffn
      clear hdn hbwn hB4' hB11' hRd' hoffn
      have hlod := hd.lo
      refine sm rfl rfl ?_
      refine st (X.ext rfl rfl) rfl ?_
      refine st (X.ext rfl rfl) rfl ?_
      refine sa rfl rfl ?_
      refine sa rfl rfl ?_
      refine Wn ?_
      refine tN ?_
      refine W_seq ?_
      refine W_rs ?_
      refine sm rfl rfl ?_
      refine st (X.eql rfl rfl) rfl ?_
      refine Wn ?_
      refine tN ?_
      refine W_if rfl (fun h66 => ?_) (fun h66 => ?_)
      · first | replace h66 := of_decide_eq_true h66 | replace h66 := of_decide_eq_false (notT h66) | replace h66 := notT h66 | skip
        subst h66
        obtain ⟨_, gk, vk, rfl, hk, hgk, hvk⟩ := hor.resolve_left (fun e => by cases e.1)
        refine W_rs ?_
        refine sm rfl rfl ?_
        refine st (X.jEq rfl) rfl ?_
        refine sbN rfl (rfl) rfl ?_
        refine gY (g := 69) rfl rfl rfl ?_
        refine st (X.ldBN rfl hB11 Tryz.underlying64 rfl siz64) rfl ?_
        refine gY (g := 69) rfl rfl rfl ?_
        refine sm rfl rfl ?_
        refine gY (g := 69) rfl rfl rfl ?_
        refine sc _ Tryz.func34 rfl (by kernel_rfl) rfl rfl ((holds_any w.heap.size gd gk _ (viewM Xm) vk _ S3 x _ hk hRd.reads hH (by show Xm.done.length ≤ _; omega)).mono ?_)
        rintro e_ w14 ⟨rfl, hb⟩
        refine cR ?_
        replace hbw := bthen hbw hb
        replace hB4 := hB4.bel hb
        replace hd := hd.bel hb
        replace hRd := hRd.bel hb
        replace hB11 := hB11.bel hb
        replace hk := hk.bel hb
        have hz_w14 := hb.size
        clear hb
        refine gY (g := 69) rfl rfl rfl ?_
        refine st (X.not rfl) rfl ?_
        refine st (X.pickF rfl rfl) rfl ?_
        refine Wn ?_
        refine tN ?_
        refine W_no rfl (rfl) ?_
        refine W_skip ?_
        refine tN ?_
        refine W_rs ?_
        refine sm rfl rfl ?_
        refine sm rfl rfl ?_
        obtain ⟨og2, hcr2⟩ := crash_quiet C1 og1 st1 lf1 ps
        have hgC2 := crash_good hg2 ps
        rw [hcr2] at hgC2
        refine sc _ Tryz.func23 rfl (by kernel_rfl) rfl rfl ((Crash_any gd _ S3 _ ps _ hd.at_ hg2.ok (hg2.bud (by omega)) (by have := two_len ⟨C1, C1, []⟩ og1 st1 lf1; omega) (hP.bel hbw) (fun h0 k hk e => by have := hPlt h0 k hk; have := hlod k e; omega)).mono ?_)
        rintro e_ w15 ⟨rfl, h1, hX⟩
        refine cR ?_
        rw [hcr2] at h1
        have hdn := hd.step h1 hX hbw.size
        have hk' := hk.open_ hdn (Ext.old) hX
        have hB4' := hB4.chg hX hoff.1
        have hB11' := hB11.chg hX hoff.2.1
        have hRd' := hRd.chg hX hoff.2.2
        have hoffn : Off g4 g11 (Value.slice ad x.done.length cd) _ := hoff.next hB4 hB11 hRd (Ext.old (w' := w15))
        have hbwn := bchg hbw hX (fun k hk => (hd.lo k hk).1)
        have hz_w15 := hX.size
        clear hd hbw hX hB4 hB11 hRd hoff hlod hk h1
        have hd := hdn
        have hk := hk'
        have hbw := hbwn
        have hB4 := hB4'
        have hB11 := hB11'
        have hRd := hRd'
        have hoff := hoffn
        clear hdn hbwn hB4' hB11' hRd' hoffn hk'
        have hlod := hd.lo
        refine Wn ?_
        refine tN ?_
        refine W_rs ?_
        refine sm rfl rfl ?_
        refine sc _ Tryz.func18 rfl (by kernel_rfl) rfl rfl ((OpenTwo_any w.heap.size gd C1 Xm _ _ _ _ 16877300 _ hJF1 hC1 hd hbw.size hgC2 (by omega)).mono ?_)
        rintro e_ w16 ⟨po2, er2, C2, og3, st2, lf2, S4, rfl, hdn, hJF2, hC2, hg3, hst2, hor2, hS4, hX⟩
        refine cR ?_
        obtain ⟨rfl, gm, vm, rfl, hm, hgm, hvm⟩ := hor2.resolve_left (fun e => by cases e.2.2)
        obtain rfl := hst2 rfl
        have hk' := hk.open_ hdn (hS4) hX
        have hB4' := hB4.chg hX hoff.1
        have hB11' := hB11.chg hX hoff.2.1
        have hRd' := hRd.chg hX hoff.2.2
        have hoffn : Off g4 g11 (Value.slice ad x.done.length cd) _ := hoff.next hB4 hB11 hRd (hS4)
        have hbwn := bchg hbw hX (fun k hk => (hd.lo k hk).1)
        have hz_w16 := hX.size
        clear hd hbw hX hB4 hB11 hRd hoff hlod hk
        have hd := hdn
        have hk := hk'
        have hbw := hbwn
        have hB4 := hB4'
        have hB11 := hB11'
        have hRd := hRd'
        have hoff := hoffn
        clear hdn hbwn hB4' hB11' hRd' hoffn hk'
        have hlod := hd.lo
        refine sm rfl rfl ?_
        refine st (X.ext rfl rfl) rfl ?_
        refine st (X.ext rfl rfl) rfl ?_
        refine sa rfl rfl ?_
        refine sa rfl rfl ?_
        refine Wn ?_
        refine tN ?_
        refine W_seq ?_
        refine W_rs ?_
        refine sm rfl rfl ?_
        refine st (X.neq rfl rfl) rfl ?_
        refine sbN rfl (rfl) rfl ?_
        refine gY (g := 91) rfl rfl rfl ?_
        refine sm rfl rfl ?_
        refine gY (g := 91) rfl rfl rfl ?_
        refine st (X.jEq rfl) rfl ?_
        refine st (X.pickF rfl rfl) rfl ?_
        refine sbN rfl (rfl) rfl ?_
        refine gY (g := 95) rfl rfl rfl ?_
        refine st (X.ldBN rfl hB11 Tryz.underlying64 rfl siz64) rfl ?_
        refine gY (g := 95) rfl rfl rfl ?_
        refine sm rfl rfl ?_
        refine gY (g := 95) rfl rfl rfl ?_
        refine sc _ Tryz.func34 rfl (by kernel_rfl) rfl rfl ((holds_any w.heap.size gd gm _ (viewM Xm) vm _ S4 x _ hm hRd.reads hH (by show Xm.done.length ≤ _; omega)).mono ?_)
        rintro e_ w17 ⟨rfl, hb⟩
        refine cR ?_
        replace hbw := bthen hbw hb
        replace hB4 := hB4.bel hb
        replace hd := hd.bel hb
        replace hRd := hRd.bel hb
        replace hB11 := hB11.bel hb
        replace hk := hk.bel hb
        replace hm := hm.bel hb
        have hz_w17 := hb.size
        clear hb
        refine gY (g := 95) rfl rfl rfl ?_
        refine st (X.not rfl) rfl ?_
        refine st (X.pickF rfl rfl) rfl ?_
        refine Wn ?_
        refine tN ?_
        refine W_no rfl (rfl) ?_
        refine W_skip ?_
        refine tN ?_
        refine W_seq ?_
        refine W_rs ?_
        refine sm rfl rfl ?_
        refine st (X.eql rfl rfl) rfl ?_
        refine sbY rfl (rfl) rfl ?_
        refine gY (g := 103) rfl rfl rfl ?_
        refine sm rfl rfl ?_
        refine gY (g := 103) rfl rfl rfl ?_
        refine sc _ Tryz.func25 rfl (by kernel_rfl) rfl rfl ((State_any w.heap.size gd gm _ (viewM Xm) vm S4 _ hm).mono ?_)
        rintro e_ w_ ⟨rfl, rfl⟩
        refine cR ?_
        refine gY (g := 103) rfl rfl rfl ?_
        refine sm rfl rfl ?_
        refine gY (g := 103) rfl rfl rfl ?_
        refine sc _ Tryz.func25 rfl (by kernel_rfl) rfl rfl ((State_any w.heap.size gd gk _ (viewM Xm) vk S4 _ hk).mono ?_)
        rintro e_ w_ ⟨rfl, rfl⟩
        refine cR ?_
        refine gY (g := 103) rfl rfl rfl ?_
        refine st (X.neS rfl rfl) rfl ?_
        refine gY (g := 103) rfl rfl rfl ?_
        refine sbN rfl (decide_eq_false (by simp)) rfl ?_
        refine gY (g := 109) rfl rfl rfl ?_
        refine sm rfl rfl ?_
        refine gY (g := 109) rfl rfl rfl ?_
        refine sc _ Tryz.func27 rfl (by kernel_rfl) rfl rfl ((Next_j w.heap.size gd gm _ (viewM Xm) vm S4 _ hm).mono ?_)
        rintro e_ w_ ⟨rfl, rfl⟩
        refine cR ?_
        refine gY (g := 109) rfl rfl rfl ?_
        refine sm rfl rfl ?_
        refine gY (g := 109) rfl rfl rfl ?_
        refine sc _ Tryz.func27 rfl (by kernel_rfl) rfl rfl ((Next_j w.heap.size gd gk _ (viewM Xm) vk S4 _ hk).mono ?_)
        rintro e_ w_ ⟨rfl, rfl⟩
        refine cR ?_
        refine gY (g := 109) rfl rfl rfl ?_
        refine st (X.neq rfl rfl) rfl ?_
        refine gY (g := 103) rfl rfl rfl ?_
        refine st (X.pickF rfl rfl) rfl ?_
        refine gY (g := 103) rfl rfl rfl ?_
        refine sbN rfl (decide_eq_false (by simp)) rfl ?_
        refine gY (g := 116) rfl rfl rfl ?_
        refine sm rfl rfl ?_
        refine gY (g := 116) rfl rfl rfl ?_
        refine sc _ Tryz.func26 rfl (by kernel_rfl) rfl rfl ((Done_any w.heap.size gd gm _ (viewM Xm) vm S4 _ hm (by show Xm.done.length ≤ _; omega)).mono ?_)
        rintro e_ w18 ⟨va, rfl, hRa, hOa, hb⟩
        refine cR ?_
        replace hbw := bthen hbw hb
        replace hB4 := hB4.bel hb
        replace hd := hd.bel hb
        replace hRd := hRd.bel hb
        replace hB11 := hB11.bel hb
        replace hk := hk.bel hb
        replace hm := hm.bel hb
        have hz_w18 := hb.size
        clear hb
        refine gY (g := 116) rfl rfl rfl ?_
        refine sm rfl rfl ?_
        refine gY (g := 116) rfl rfl rfl ?_
        refine sc _ Tryz.func26 rfl (by kernel_rfl) rfl rfl ((Done_any w.heap.size gd gk _ (viewM Xm) vk S4 _ hk (by show Xm.done.length ≤ _; omega)).mono ?_)
        rintro e_ w19 ⟨vb, rfl, hRb, hOb, hb⟩
        refine cR ?_
        replace hbw := bthen hbw hb
        replace hB4 := hB4.bel hb
        replace hd := hd.bel hb
        replace hRd := hRd.bel hb
        replace hB11 := hB11.bel hb
        replace hk := hk.bel hb
        replace hm := hm.bel hb
        replace hRa := hRa.bel hb
        have hz_w19 := hb.size
        clear hb
        refine gY (g := 116) rfl rfl rfl ?_
        refine sc _ Tryz.func30 rfl (by kernel_rfl) rfl rfl ((Same16_any _ _ Xm.done Xm.done _ hRa.reads hRb.reads).mono ?_)
        rintro e_ w20 ⟨rfl, hb⟩
        refine cR ?_
        replace hbw := bthen hbw hb
        replace hB4 := hB4.bel hb
        replace hd := hd.bel hb
        replace hRd := hRd.bel hb
        replace hB11 := hB11.bel hb
        replace hk := hk.bel hb
        replace hm := hm.bel hb
        replace hRa := hRa.bel hb
        replace hRb := hRb.bel hb
        have hz_w20 := hb.size
        clear hb
        refine gY (g := 116) rfl rfl rfl ?_
        refine st (X.not rfl) rfl ?_
        refine gY (g := 103) rfl rfl rfl ?_
        refine st (X.pickF rfl rfl) rfl ?_
        refine st (X.pickT rfl rfl) rfl ?_
        refine Wn ?_
        refine tN ?_
        refine W_no rfl (by simp) ?_
        refine W_skip ?_
        refine tN ?_
        refine W_rs ?_
        refine sm rfl rfl ?_
        refine sc _ Tryz.func18 rfl (by kernel_rfl) rfl rfl ((OpenTwo_any w.heap.size gd C2 Xm _ _ _ _ 33654600 _ hJF2 hC2 hd hbw.size hg3 (by omega)).mono ?_)
        rintro e_ w21 ⟨po3, er3, C3, og4, st3, lf3, S5, rfl, hdn, hJF3, hC3, hg4, hst3, hor3, hS5, hX⟩
        refine cR ?_
        obtain ⟨rfl, go, vo, rfl, ho, hgo, hvo⟩ := hor3.resolve_left (fun e => by cases e.2.2)
        have hm' := hm.open_ hdn (hS5) hX
        have hB4' := hB4.chg hX hoff.1
        have hB11' := hB11.chg hX hoff.2.1
        have hRd' := hRd.chg hX hoff.2.2
        have hoffn : Off g4 g11 (Value.slice ad x.done.length cd) _ := hoff.next hB4 hB11 hRd (hS5)
        have hbwn := bchg hbw hX (fun k hk => (hd.lo k hk).1)
        have hz_w21 := hX.size
        clear hd hbw hX hB4 hB11 hRd hoff hlod hm
        have hd := hdn
        have hm := hm'
        have hbw := hbwn
        have hB4 := hB4'
        have hB11 := hB11'
        have hRd := hRd'
        have hoff := hoffn
        clear hdn hbwn hB4' hB11' hRd' hoffn hm'
        have hlod := hd.lo
        refine sm rfl rfl ?_
        refine st (X.ext rfl rfl) rfl ?_
        refine st (X.ext rfl rfl) rfl ?_
        refine sa rfl rfl ?_
        refine sa rfl rfl ?_
        refine Wn ?_
        refine tN ?_
        refine W_rs ?_
        refine sm rfl rfl ?_
        refine st (X.eql rfl rfl) rfl ?_
        refine sbY rfl (rfl) rfl ?_
        refine gY (g := 132) rfl rfl rfl ?_
        refine sm rfl rfl ?_
        refine gY (g := 132) rfl rfl rfl ?_
        refine st (X.jNeG rfl) rfl ?_
        refine st (X.pickT rfl rfl) rfl ?_
        refine sbY rfl (rfl) rfl ?_
        refine gY (g := 136) rfl rfl rfl ?_
        refine st (X.ldBN rfl hB11 Tryz.underlying64 rfl siz64) rfl ?_
        refine gY (g := 136) rfl rfl rfl ?_
        refine sm rfl rfl ?_
        refine gY (g := 136) rfl rfl rfl ?_
        refine sc _ Tryz.func34 rfl (by kernel_rfl) rfl rfl ((holds_any w.heap.size gd go _ (viewM Xm) vo _ S5 x _ ho hRd.reads hH (by show Xm.done.length ≤ _; omega)).mono ?_)
        rintro e_ w22 ⟨rfl, hb⟩
        refine cR ?_
        replace hbw := bthen hbw hb
        replace hB4 := hB4.bel hb
        replace hd := hd.bel hb
        replace hRd := hRd.bel hb
        replace hB11 := hB11.bel hb
        replace hm := hm.bel hb
        replace ho := ho.bel hb
        have hz_w22 := hb.size
        clear hb
        refine st (X.pickT rfl rfl) rfl ?_
        refine sbY rfl (rfl) rfl ?_
        refine gY (g := 141) rfl rfl rfl ?_
        refine sm rfl rfl ?_
        refine gY (g := 141) rfl rfl rfl ?_
        refine sc _ Tryz.func27 rfl (by kernel_rfl) rfl rfl ((Next_j w.heap.size gd go _ (viewM Xm) vo S5 _ ho).mono ?_)
        rintro e_ w_ ⟨rfl, rfl⟩
        refine cR ?_
        refine gY (g := 141) rfl rfl rfl ?_
        refine sm rfl rfl ?_
        refine gY (g := 141) rfl rfl rfl ?_
        refine sc _ Tryz.func27 rfl (by kernel_rfl) rfl rfl ((Next_j w.heap.size gd gm _ (viewM Xm) vm S5 _ hm).mono ?_)
        rintro e_ w_ ⟨rfl, rfl⟩
        refine cR ?_
        refine gY (g := 141) rfl rfl rfl ?_
        refine st (X.eql rfl rfl) rfl ?_
        refine st (X.pickT rfl rfl) rfl ?_
        refine sbY rfl (decide_eq_true rfl) rfl ?_
        refine gY (g := 148) rfl rfl rfl ?_
        refine sc _ Tryz.func17 rfl (by kernel_rfl) rfl rfl ((awake16_any _).mono ?_)
        rintro e_ w23 ⟨rfl, hb⟩
        refine cR ?_
        replace hbw := bthen hbw hb
        replace hB4 := hB4.bel hb
        replace hd := hd.bel hb
        replace hRd := hRd.bel hb
        replace hB11 := hB11.bel hb
        replace hm := hm.bel hb
        replace ho := ho.bel hb
        have hz_w23 := hb.size
        clear hb
        refine st (X.pickT rfl rfl) rfl ?_
        refine sa rfl rfl ?_
        refine Wn ?_
        refine tN ?_
        refine W_ret ?_
        exact (rT rfl rfl ⟨rfl, hbw⟩).1
      · first | replace h66 := of_decide_eq_false h66 | replace h66 := of_decide_eq_true (notF h66) | replace h66 := notF h66 | skip
        obtain ⟨rfl, rfl, hst0⟩ := hor.resolve_right (fun e => h66 e.1)
        refine W_rs ?_
        refine sm rfl rfl ?_
        refine st (X.neq rfl rfl) rfl ?_
        refine sbN rfl (rfl) rfl ?_
        refine gY (g := 77) rfl rfl rfl ?_
        refine sm rfl rfl ?_
        refine gY (g := 77) rfl rfl rfl ?_
        refine st (X.jNeG rfl) rfl ?_
        refine st (X.pickF rfl rfl) rfl ?_
        refine Wn ?_
        refine tN ?_
        refine W_no rfl (rfl) ?_
        refine W_skip ?_
        refine tN ?_
        refine W_rs ?_
        refine sm rfl rfl ?_
        refine sm rfl rfl ?_
        obtain ⟨og2, hcr2⟩ := crash_quiet C1 og1 st1 lf1 ps
        have hgC2 := crash_good hg2 ps
        rw [hcr2] at hgC2
        refine sc _ Tryz.func23 rfl (by kernel_rfl) rfl rfl ((Crash_any gd _ S3 _ ps _ hd.at_ hg2.ok (hg2.bud (by omega)) (by have := two_len ⟨C1, C1, []⟩ og1 st1 lf1; omega) (hP.bel hbw) (fun h0 k hk e => by have := hPlt h0 k hk; have := hlod k e; omega)).mono ?_)
        rintro e_ w24 ⟨rfl, h1, hX⟩
        refine cR ?_
        rw [hcr2] at h1
        have hdn := hd.step h1 hX hbw.size
        have hB4' := hB4.chg hX hoff.1
        have hB11' := hB11.chg hX hoff.2.1
        have hRd' := hRd.chg hX hoff.2.2
        have hoffn : Off g4 g11 (Value.slice ad x.done.length cd) _ := hoff.next hB4 hB11 hRd (Ext.old (w' := w24))
        have hbwn := bchg hbw hX (fun k hk => (hd.lo k hk).1)
        have hz_w24 := hX.size
        clear hd hbw hX hB4 hB11 hRd hoff hlod h1
        have hd := hdn
        have hbw := hbwn
        have hB4 := hB4'
        have hB11 := hB11'
        have hRd := hRd'
        have hoff := hoffn
        clear hdn hbwn hB4' hB11' hRd' hoffn
        have hlod := hd.lo
        refine Wn ?_
        refine tN ?_
        refine W_rs ?_
        refine sm rfl rfl ?_
        refine sc _ Tryz.func18 rfl (by kernel_rfl) rfl rfl ((OpenTwo_any w.heap.size gd C1 Xm _ _ _ _ 16877300 _ hJF1 hC1 hd hbw.size hgC2 (by omega)).mono ?_)
        rintro e_ w25 ⟨po2, er2, C2, og3, st2, lf2, S4, rfl, hdn, hJF2, hC2, hg3, hst2, hor2, hS4, hX⟩
        refine cR ?_
        obtain ⟨rfl, gm, vm, rfl, hm, hgm, hvm⟩ := hor2.resolve_left (fun e => by cases e.2.2)
        obtain rfl := hst2 rfl
        have hB4' := hB4.chg hX hoff.1
        have hB11' := hB11.chg hX hoff.2.1
        have hRd' := hRd.chg hX hoff.2.2
        have hoffn : Off g4 g11 (Value.slice ad x.done.length cd) _ := hoff.next hB4 hB11 hRd (hS4)
        have hbwn := bchg hbw hX (fun k hk => (hd.lo k hk).1)
        have hz_w25 := hX.size
        clear hd hbw hX hB4 hB11 hRd hoff hlod
        have hd := hdn
        have hbw := hbwn
        have hB4 := hB4'
        have hB11 := hB11'
        have hRd := hRd'
        have hoff := hoffn
        clear hdn hbwn hB4' hB11' hRd' hoffn
        have hlod := hd.lo
        refine sm rfl rfl ?_
        refine st (X.ext rfl rfl) rfl ?_
        refine st (X.ext rfl rfl) rfl ?_
        refine sa rfl rfl ?_
        refine sa rfl rfl ?_
        refine Wn ?_
        refine tN ?_
        refine W_seq ?_
        refine W_rs ?_
        refine sm rfl rfl ?_
        refine st (X.neq rfl rfl) rfl ?_
        refine sbN rfl (rfl) rfl ?_
        refine gY (g := 91) rfl rfl rfl ?_
        refine sm rfl rfl ?_
        refine gY (g := 91) rfl rfl rfl ?_
        refine st (X.jEq rfl) rfl ?_
        refine st (X.pickF rfl rfl) rfl ?_
        refine sbN rfl (rfl) rfl ?_
        refine gY (g := 95) rfl rfl rfl ?_
        refine st (X.ldBN rfl hB11 Tryz.underlying64 rfl siz64) rfl ?_
        refine gY (g := 95) rfl rfl rfl ?_
        refine sm rfl rfl ?_
        refine gY (g := 95) rfl rfl rfl ?_
        refine sc _ Tryz.func34 rfl (by kernel_rfl) rfl rfl ((holds_any w.heap.size gd gm _ (viewM Xm) vm _ S4 x _ hm hRd.reads hH (by show Xm.done.length ≤ _; omega)).mono ?_)
        rintro e_ w26 ⟨rfl, hb⟩
        refine cR ?_
        replace hbw := bthen hbw hb
        replace hB4 := hB4.bel hb
        replace hd := hd.bel hb
        replace hRd := hRd.bel hb
        replace hB11 := hB11.bel hb
        replace hm := hm.bel hb
        have hz_w26 := hb.size
        clear hb
        refine gY (g := 95) rfl rfl rfl ?_
        refine st (X.not rfl) rfl ?_
        refine st (X.pickF rfl rfl) rfl ?_
        refine Wn ?_
        refine tN ?_
        refine W_no rfl (rfl) ?_
        refine W_skip ?_
        refine tN ?_
        refine W_seq ?_
        refine W_rs ?_
        refine sm rfl rfl ?_
        refine st (X.eql rfl rfl) rfl ?_
        refine sbN rfl (rfl) rfl ?_
        refine gN (g := 103) rfl rfl rfl rfl ?_
        refine gN (g := 103) rfl rfl rfl rfl ?_
        refine gN (g := 103) rfl rfl rfl rfl ?_
        refine gN (g := 103) rfl rfl rfl rfl ?_
        refine gN (g := 103) rfl rfl rfl rfl ?_
        refine gN (g := 103) rfl rfl rfl rfl ?_
        refine gU (g := 109) rfl rfl rfl rfl ?_
        refine gU (g := 109) rfl rfl rfl rfl ?_
        refine gU (g := 109) rfl rfl rfl rfl ?_
        refine gU (g := 109) rfl rfl rfl rfl ?_
        refine gU (g := 109) rfl rfl rfl rfl ?_
        refine gN (g := 103) rfl rfl rfl rfl ?_
        refine gN (g := 103) rfl rfl rfl rfl ?_
        refine gU (g := 116) rfl rfl rfl rfl ?_
        refine gU (g := 116) rfl rfl rfl rfl ?_
        refine gU (g := 116) rfl rfl rfl rfl ?_
        refine gU (g := 116) rfl rfl rfl rfl ?_
        refine gU (g := 116) rfl rfl rfl rfl ?_
        refine gU (g := 116) rfl rfl rfl rfl ?_
        refine gN (g := 103) rfl rfl rfl rfl ?_
        refine st (X.pickF rfl rfl) rfl ?_
        refine Wn ?_
        refine tN ?_
        refine W_no rfl (rfl) ?_
        refine W_skip ?_
        refine tN ?_
        refine W_rs ?_
        refine sm rfl rfl ?_
        refine sc _ Tryz.func18 rfl (by kernel_rfl) rfl rfl ((OpenTwo_any w.heap.size gd C2 Xm _ _ _ _ 33654600 _ hJF2 hC2 hd hbw.size hg3 (by omega)).mono ?_)
        rintro e_ w27 ⟨po3, er3, C3, og4, st3, lf3, S5, rfl, hdn, hJF3, hC3, hg4, hst3, hor3, hS5, hX⟩
        refine cR ?_
        obtain ⟨rfl, go, vo, rfl, ho, hgo, hvo⟩ := hor3.resolve_left (fun e => by cases e.2.2)
        have hm' := hm.open_ hdn (hS5) hX
        have hB4' := hB4.chg hX hoff.1
        have hB11' := hB11.chg hX hoff.2.1
        have hRd' := hRd.chg hX hoff.2.2
        have hoffn : Off g4 g11 (Value.slice ad x.done.length cd) _ := hoff.next hB4 hB11 hRd (hS5)
        have hbwn := bchg hbw hX (fun k hk => (hd.lo k hk).1)
        have hz_w27 := hX.size
        clear hd hbw hX hB4 hB11 hRd hoff hlod hm
        have hd := hdn
        have hm := hm'
        have hbw := hbwn
        have hB4 := hB4'
        have hB11 := hB11'
        have hRd := hRd'
        have hoff := hoffn
        clear hdn hbwn hB4' hB11' hRd' hoffn hm'
        have hlod := hd.lo
        refine sm rfl rfl ?_
        refine st (X.ext rfl rfl) rfl ?_
        refine st (X.ext rfl rfl) rfl ?_
        refine sa rfl rfl ?_
        refine sa rfl rfl ?_
        refine Wn ?_
        refine tN ?_
        refine W_rs ?_
        refine sm rfl rfl ?_
        refine st (X.eql rfl rfl) rfl ?_
        refine sbY rfl (rfl) rfl ?_
        refine gY (g := 132) rfl rfl rfl ?_
        refine sm rfl rfl ?_
        refine gY (g := 132) rfl rfl rfl ?_
        refine st (X.jNeG rfl) rfl ?_
        refine st (X.pickT rfl rfl) rfl ?_
        refine sbY rfl (rfl) rfl ?_
        refine gY (g := 136) rfl rfl rfl ?_
        refine st (X.ldBN rfl hB11 Tryz.underlying64 rfl siz64) rfl ?_
        refine gY (g := 136) rfl rfl rfl ?_
        refine sm rfl rfl ?_
        refine gY (g := 136) rfl rfl rfl ?_
        refine sc _ Tryz.func34 rfl (by kernel_rfl) rfl rfl ((holds_any w.heap.size gd go _ (viewM Xm) vo _ S5 x _ ho hRd.reads hH (by show Xm.done.length ≤ _; omega)).mono ?_)
        rintro e_ w28 ⟨rfl, hb⟩
        refine cR ?_
        replace hbw := bthen hbw hb
        replace hB4 := hB4.bel hb
        replace hd := hd.bel hb
        replace hRd := hRd.bel hb
        replace hB11 := hB11.bel hb
        replace hm := hm.bel hb
        replace ho := ho.bel hb
        have hz_w28 := hb.size
        clear hb
        refine st (X.pickT rfl rfl) rfl ?_
        refine sbY rfl (rfl) rfl ?_
        refine gY (g := 141) rfl rfl rfl ?_
        refine sm rfl rfl ?_
        refine gY (g := 141) rfl rfl rfl ?_
        refine sc _ Tryz.func27 rfl (by kernel_rfl) rfl rfl ((Next_j w.heap.size gd go _ (viewM Xm) vo S5 _ ho).mono ?_)
        rintro e_ w_ ⟨rfl, rfl⟩
        refine cR ?_
        refine gY (g := 141) rfl rfl rfl ?_
        refine sm rfl rfl ?_
        refine gY (g := 141) rfl rfl rfl ?_
        refine sc _ Tryz.func27 rfl (by kernel_rfl) rfl rfl ((Next_j w.heap.size gd gm _ (viewM Xm) vm S5 _ hm).mono ?_)
        rintro e_ w_ ⟨rfl, rfl⟩
        refine cR ?_
        refine gY (g := 141) rfl rfl rfl ?_
        refine st (X.eql rfl rfl) rfl ?_
        refine st (X.pickT rfl rfl) rfl ?_
        refine sbY rfl (decide_eq_true rfl) rfl ?_
        refine gY (g := 148) rfl rfl rfl ?_
        refine sc _ Tryz.func17 rfl (by kernel_rfl) rfl rfl ((awake16_any _).mono ?_)
        rintro e_ w29 ⟨rfl, hb⟩
        refine cR ?_
        replace hbw := bthen hbw hb
        replace hB4 := hB4.bel hb
        replace hd := hd.bel hb
        replace hRd := hRd.bel hb
        replace hB11 := hB11.bel hb
        replace hm := hm.bel hb
        replace ho := ho.bel hb
        have hz_w29 := hb.size
        clear hb
        refine st (X.pickT rfl rfl) rfl ?_
        refine sa rfl rfl ?_
        refine Wn ?_
        refine tN ?_
        refine W_ret ?_
        exact (rT rfl rfl ⟨rfl, hbw⟩).1
end Go.Proofs.YtnijmegalgoipaaGreatDoor
