/- manifest.parts: what bytes are, with its deferred check. -/
import Derived.Test.YtnagmpnpgekhfaaDoorGen
import Derived.Test.YtnagmpnpgekhfaaDoorColumn
import Derived.Test.YtnagmpnpgekhfaaDoorDefer
namespace Go.Proofs.YtnagmpnpgekhfaaDoor
open Go.RowKit
/-- '!=' against the literal nil -/
theorem X.nilC {P : Program} {l : Env} {o : BinOp} {t t' ty : TypeId} {x : Operand} {w : World} {a r : Value} (hx : ev l x = some a) (ha : a = .nilIface ∨ ∃ u v, a = .iface u v) (hr : (binOp o t a .nilIface).run P w = .ok r w) : X P l (.binOp o t x (.const .nilIface) t') ty w r w := fun ρ hρ => by
  have h2 := hρ (.const .nilIface) _ rfl
  have hg : (eqGuard o t x (.const .nilIface) a .nilIface).run P w = .ok () w := by
    unfold eqGuard
    rcases ha with rfl | ⟨u, v, rfl⟩ <;> cases o <;> simp
  unfold execOp
  simp only [hρ _ _ hx, h2, Sem.run_bind, hg, Result.andThen_ok, hr, Sem.run_pure]
theorem neqNil0 (w : World) : (binOp .neq 20 .nilIface .nilIface).run Tryd.prog w = .ok (.bool false) w := by kernel_rfl
theorem neqNil1 (w : World) : (binOp .neq 20 (.iface 95 (.agg #[])) .nilIface).run Tryd.prog w = .ok (.bool true) w := by kernel_rfl
theorem asserts (w : World) : (Instr.typeAssert (.iface 95 (.agg #[])) 20 95 true).run Tryd.prog w = .ok (.tuple #[.agg #[], .bool true]) w := by kernel_rfl
theorem catch_idle (g : Nat) (w : World) :
    CallsD Tryd.prog 40 #[.pointer (some ⟨g, 0, none⟩)] .returning w fun e u' w' => e = .returned (.tuple #[]) ∧ u' = .returning ∧ w' = w := by
  refine callsD_of_wpS Tryd.func40 rfl fun c₀ cs hu => ?_
  apply wpS_seq
  apply wpS_region
  simp [wpOpsS, go_sem, recoverD, hu, Tryd.ntmps40, Exit.thenS]
  apply wpS_seq
  refine wpS_of_wp ?_
  refine W_out (N := 17) (l := [(1, .nilIface)]) (Q := fun e l w' => e = .normal ∧ l = [(6, .bool false)] ∧ w' = w) ?_ (by simp) rfl ⟨by simp, trivial⟩ ?_
  · refine W_reg ?_
    refine sm rfl rfl ?_
    refine st (X.nilC rfl (.inl rfl) (neqNil0 _)) rfl ?_
    refine WL_sub [(6, .bool false)] ?_ ⟨rfl, trivial⟩
    exact Wn ⟨rfl, rfl, rfl⟩
  · rintro e l a w' hr ⟨rfl, rfl, rfl⟩
    show Exit.thenS _ _ .normal a _ w'
    refine wpS_cond (t := false) (hr.knows (.tmp 6) _ rfl) ?_
    simp only [Bool.false_eq_true, if_false]
    refine wpS_of_wp (wp_skip ?_)
    have hd := hr.defers
    cases c₀
    simp_all [bodyPostS, results, Tryd.results40]
theorem catch_missing (g : Nat) (b : Bool) (w : World) (hB : Blk w g 4 #[.bool b]) :
    CallsD Tryd.prog 40 #[.pointer (some ⟨g, 0, none⟩)] (.panicking missing) w fun e u' w' => e = .returned (.tuple #[]) ∧ settle u' = .returning ∧ Blk w' g 4 #[.bool false] ∧ Chg (fun k => k = g) w w' := by
  refine callsD_of_wpS Tryd.func40 rfl fun c₀ cs hu => ?_
  apply wpS_seq
  apply wpS_region
  simp [wpOpsS, go_sem, recoverD, hu, Tryd.ntmps40, Exit.thenS, missing]
  apply wpS_seq
  refine wpS_of_wp ?_
  refine W_out (N := 17) (l := [(0, .pointer (some ⟨g, 0, none⟩)), (1, .iface 95 (.agg #[]))]) (Q := fun e l w' => e = .normal ∧ l = [(6, .bool true), (0, .pointer (some ⟨g, 0, none⟩)), (1, .iface 95 (.agg #[]))] ∧ w' = w) ?_ (by simp) rfl ⟨by simp, by simp, trivial⟩ ?_
  · refine W_reg ?_
    refine sm rfl rfl ?_
    refine st (X.nilC rfl (.inr ⟨_, _, rfl⟩) (neqNil1 _)) rfl ?_
    refine WL_sub [(6, .bool true), (0, .pointer (some ⟨g, 0, none⟩)), (1, .iface 95 (.agg #[]))] ?_ ⟨rfl, rfl, rfl, trivial⟩
    exact Wn ⟨rfl, rfl, rfl⟩
  · rintro e l a w' hr ⟨rfl, rfl, rfl⟩
    show Exit.thenS _ _ .normal a _ w'
    refine wpS_cond (t := true) (hr.knows (.tmp 6) _ rfl) ?_
    simp only [if_true]
    refine wpS_of_wp ?_
    have hW : ∀ Q : Post, (∀ l w1, Blk w1 g 4 #[.bool false] → Chg (fun k => k = g) w' w1 → Q .normal l w1) → W Tryd.prog 17 [] Q (match Tryd.f40.body with | some (.seq _ (.seq _ (.cond _ c _))) => c | _ => .skip) [(6, .bool true), (0, .pointer (some ⟨g, 0, none⟩)), (1, .iface 95 (.agg #[]))] w' := by
      intro Q hQ
      show W _ _ _ _ (.seq _ _) _ _
      have hgl := hB.lt
      have hcw := Chg.refl (fun k => k = g) w'
      refine W_rs ?_
      refine sm rfl rfl ?_
      refine st (v := .tuple #[.agg #[], .bool true]) (w' := w') (fun ρ hρ => by unfold execOp; simp only [hρ (.tmp 8) _ rfl, Sem.run_bind, asserts, Result.andThen_ok, Sem.run_pure]) rfl ?_
      refine sm rfl rfl ?_
      refine st (X.ext rfl rfl) rfl ?_
      refine st (X.ext rfl rfl) rfl ?_
      refine salA inf95 rfl (fun g2 w2 hB2 hg2 hb hl2 => ?_)
      replace hB := hB.bel hb
      replace hcw := hcw.then_below hb
      refine ssBN rfl rfl hB2 siz95 rfl rfl (fun w3 hB3 hc => ?_)
      replace hB := hB.chg hc (by show ¬ _ = _; omega)
      replace hcw := hcw.next hc (fun i hi => by right; subst hi; omega)
      refine sa rfl rfl ?_
      refine Wn (tN ?_)
      refine W_reg ?_
      refine st (X.ldB rfl hB Tryd.underlying4 rfl rfl) rfl ?_
      refine sb rfl rfl (fun h => ?_) (fun h => ?_)
      · refine gY (g := 13) rfl rfl rfl ?_
        refine sm rfl rfl ?_
        refine gY (g := 13) rfl rfl rfl ?_
        refine st (X.not rfl) rfl ?_
        refine st (X.pickT rfl rfl) rfl ?_
        refine ssB rfl rfl hB siz4 rfl (by simp) (fun w4 hB4 hc4 => ?_)
        exact Wn (hQ _ _ hB4 (hcw.next hc4 (fun i hi => .inl hi)))
      · refine gN (g := 13) rfl rfl rfl rfl ?_
        refine gN (g := 13) rfl rfl rfl rfl ?_
        refine st (X.pickF rfl rfl) rfl ?_
        refine ssB rfl rfl hB siz4 rfl (by simp) (fun w4 hB4 hc4 => ?_)
        exact Wn (hQ _ _ hB4 (hcw.next hc4 (fun i hi => .inl hi)))
    refine Code.wp_mono ?_ (hW (fun e _ w1 => e = .normal ∧ Blk w1 g 4 #[.bool false] ∧ Chg (fun k => k = g) w' w1) (fun _ w1 h1 h2 => ⟨rfl, h1, h2⟩) a hr)
    rintro e a1 w1 ⟨l, hr1, rfl, h1, h2⟩
    have hd := hr1.defers
    refine ⟨hd, .panicking [{ v := .iface 95 (.agg #[]), recovered := true }], rfl, .tuple #[], by simp [results, Tryd.results40], rfl, rfl, h1, h2⟩
/- ---------- parts ---------- -/
def colsP : Nat → List UInt8 → Option (List Col × List (List Chk) × List UInt8)
  | 0, s => some ([], [], s)
  | n + 1, s => match colP s with
    | none => none
    | some (c, l, q) => match colsP n q with
      | none => none
      | some (cs, ls, r) => some (c :: cs, l :: ls, r)
def partsP (s : List UInt8) : Option Man :=
  match colsP (s.getD 8 0).toNat (s.drop 9) with
  | some (cs, ls, []) => some ⟨num s, num (s.drop 4), cs, ls⟩
  | _ => none
theorem colP_length {s : List UInt8} {c : Col} {l : List Chk} {q : List UInt8} (h : colP s = some (c, l, q)) : q.length ≤ s.length ∧ (∀ x ∈ l, x.sum.length = 32) ∧ c.name.length ≤ s.length ∧ l.length ≤ s.length := by
  match s, h with
  | [], h => cases h
  | [_], h => cases h
  | k :: m :: r, h =>
    simp only [colP] at h
    split at h
    · split at h
      · split at h
        · rename_i h1 h2 h3
          simp only [Option.some.injEq, Prod.mk.injEq] at h
          obtain ⟨rfl, rfl, rfl⟩ := h
          refine ⟨by simp; omega, chksOf_sum _ _ (by simp at h3 ⊢; omega), by simp; omega, ?_⟩
          rw [chksOf_length]
          simp at h3 ⊢
          omega
        · cases h
      · cases h
    · cases h
/-- streams that the call itself made -/
def StrsRow (w : World) (us : List Value) (ls : List (List Chk)) : Prop := us.length = ls.length ∧ ∀ (i : Nat) u l, us[i]? = some u → ls[i]? = some l → Row w 55 33 u l.length (l.flatMap Chk.cells) ∧ ∀ c ∈ l, c.sum.length = 32
theorem StrsRow.bel {w w' : World} {us : List Value} {ls : List (List Chk)} (h : StrsRow w us ls) (hb : Below w.heap.size w w') : StrsRow w' us ls :=
  ⟨h.1, fun i u l hu hl => ⟨(h.2 i u l hu hl).1.bel hb, (h.2 i u l hu hl).2⟩⟩
theorem StrsRow.chgB {w w' : World} {us : List Value} {ls : List (List Chk)} {g : Nat} {t : TypeId} {cs : Array Value} (h : StrsRow w us ls) (hc : Chg (fun k => k = g) w w') (hB : Blk w g t cs) (hne : 55 ≠ t) : StrsRow w' us ls :=
  ⟨h.1, fun i u l hu hl => ⟨(h.2 i u l hu hl).1.chg hc (fun k hk e => (h.2 i u l hu hl).1.ne_ hB hne (by rw [← e]; exact hk)), (h.2 i u l hu hl).2⟩⟩
theorem StrsRow.chgR {w w' : World} {us : List Value} {ls : List (List Chk)} {e : TypeId} {size n : Nat} {v : Value} {xs : List Value} (h : StrsRow w us ls) (hc : Chg (fun k => v.ownBlock = some k) w w') (hR : Row w e size v n xs) (hne : 55 ≠ e) : StrsRow w' us ls :=
  ⟨h.1, fun i u l hu hl => ⟨(h.2 i u l hu hl).1.chg hc (fun k hk => (h.2 i u l hu hl).1.apart_ hR hne k hk), (h.2 i u l hu hl).2⟩⟩
theorem StrsRow.snoc {w : World} {us : List Value} {ls : List (List Chk)} {u : Value} {l : List Chk} (h : StrsRow w us ls) (hR : Row w 55 33 u l.length (l.flatMap Chk.cells)) (hs : ∀ c ∈ l, c.sum.length = 32) : StrsRow w (us ++ [u]) (ls ++ [l]) := by
  refine ⟨by simp [h.1], fun i a b ha hb => ?_⟩
  have h1 := h.1
  by_cases hi : i < us.length
  · rw [List.getElem?_append_left hi] at ha
    rw [List.getElem?_append_left (by omega)] at hb
    exact h.2 i a b ha hb
  · rw [List.getElem?_append_right (by omega)] at ha hb
    by_cases h0 : i - us.length = 0
    · rw [h0] at ha
      rw [show i - ls.length = 0 by omega] at hb
      simp at ha hb
      subst ha hb
      exact ⟨hR, hs⟩
    · rw [List.getElem?_eq_none (by simp; omega)] at ha
      cases ha
theorem bcut (s : List UInt8) (w : World) : (Instr.build 99 #[(0, str s)]).run Tryd.prog w = .ok (.agg #[str s]) w := by kernel_rfl
/-- what is still to be read -/
def Rest (n : Nat) (s0 : List UInt8) (j : Nat) (cs : List Col) (ls : List (List Chk)) (q : List UInt8) : Prop :=
  colsP n s0 = (match colsP (n - j) q with | none => none | some (a, b, r) => some (cs ++ a, ls ++ b, r))
theorem Rest.next {n j : Nat} {s0 q q' : List UInt8} {cs : List Col} {ls : List (List Chk)} {c : Col} {l : List Chk} (h : Rest n s0 j cs ls q) (hj : j < n) (hc : colP q = some (c, l, q')) : Rest n s0 (j + 1) (cs ++ [c]) (ls ++ [l]) q' := by
  unfold Rest at h ⊢
  rw [h, show n - j = (n - (j + 1)) + 1 by omega]
  simp only [colsP, hc]
  cases colsP (n - (j + 1)) q' with
  | none => rfl
  | some x => obtain ⟨a, b, r⟩ := x; simp
theorem Rest.none {n j : Nat} {s0 q : List UInt8} {cs : List Col} {ls : List (List Chk)} (h : Rest n s0 j cs ls q) (hj : j < n) (hc : colP q = none) : colsP n s0 = none := by
  unfold Rest at h
  rw [h, show n - j = (n - (j + 1)) + 1 by omega]
  simp only [colsP, hc]
theorem Rest.done {n : Nat} {s0 q : List UInt8} {cs : List Col} {ls : List (List Chk)} (h : Rest n s0 n cs ls q) : colsP n s0 = some (cs, ls, q) := by
  unfold Rest at h
  rw [h, Nat.sub_self]
  simp [colsP]
/-- a manifest that the call itself made -/
def ManRow (w : World) (vc vs : Value) (m : Man) : Prop :=
  Row w 60 3 vc m.cols.length (m.cols.flatMap Col.cells) ∧ (∀ c ∈ m.cols, c.name.length ≤ 9223372036854775807) ∧ ∃ us, Row w 51 1 vs m.strs.length us ∧ StrsRow w us m.strs
theorem ManRow.bel {w w' : World} {vc vs : Value} {m : Man} (h : ManRow w vc vs m) (hb : Below w.heap.size w w') : ManRow w' vc vs m := by
  obtain ⟨h1, h2, us, h3, h4⟩ := h
  exact ⟨h1.bel hb, h2, us, h3.bel hb, h4.bel hb⟩
theorem ManRow.chgB {w w' : World} {vc vs : Value} {m : Man} {g : Nat} {t : TypeId} {cs : Array Value} (h : ManRow w vc vs m) (hc : Chg (fun k => k = g) w w') (hB : Blk w g t cs) (n1 : 60 ≠ t) (n2 : 51 ≠ t) (n3 : 55 ≠ t) : ManRow w' vc vs m := by
  obtain ⟨h1, h2, us, h3, h4⟩ := h
  exact ⟨h1.chg hc (fun k hk e => h1.ne_ hB n1 (by rw [← e]; exact hk)), h2, us, h3.chg hc (fun k hk e => h3.ne_ hB n2 (by rw [← e]; exact hk)), h4.chgB hc hB n3⟩
theorem ManRow.cols {w : World} {vc vs : Value} {m : Man} (h : ManRow w vc vs m) : ColsAt w vc m.cols := ⟨h.1.reads, h.2.1⟩
theorem ManRow.strs {w : World} {vc vs : Value} {m : Man} (h : ManRow w vc vs m) : StrsAt w vs m.strs := by
  obtain ⟨_, _, us, hRs, hSt⟩ := h
  refine ⟨us, hRs.reads, fun i l hl => ?_⟩
  have hi := (List.getElem?_eq_some_iff.1 hl).1
  have hul := hSt.1
  obtain ⟨u, hu⟩ : ∃ u, us[i]? = some u := ⟨_, List.getElem?_eq_getElem (by omega)⟩
  obtain ⟨h1, h2⟩ := hSt.2 i u l hu hl
  exact ⟨u, hu, h1.reads, h2⟩
theorem ManRow.one {w : World} {vc vs : Value} {m : Man} (h : ManRow w vc vs m) : vc.oneCell' = true ∧ vs.oneCell' = true := by
  obtain ⟨h1, _, us, h3, _⟩ := h
  obtain ⟨a, c, rfl, _, _⟩ := h1.shape
  obtain ⟨a, c, rfl, _, _⟩ := h3.shape
  exact ⟨rfl, rfl⟩
/-- what parts answers -/
def PartsPost (w : World) (o : Option Man) (e : Ending) (w' : World) : Prop :=
  Below w.heap.size w w' ∧ match o with
  | some m => ∃ vc vs, e = .returned (.tuple #[manV m vc vs, .bool true]) ∧ ManRow w' vc vs m
  | none => ∃ a b vc vs, e = .returned (.tuple #[.agg #[.int .i64 a, .int .i64 b, vc, vs], .bool false]) ∧ vc.oneCell' = true ∧ vs.oneCell' = true
theorem colCells_one (cs : List Col) : ∀ u ∈ cs.flatMap Col.cells, u.oneCell' = true := by
  intro u hu
  obtain ⟨c, _, h⟩ := List.mem_flatMap.1 hu
  simp only [Col.cells, List.mem_cons, List.not_mem_nil, or_false] at h
  rcases h with rfl | rfl | rfl <;> rfl
theorem man_one {a b : Int} {vc vs : Value} (hc : vc.oneCell' = true) (hs : vs.oneCell' = true) : (#[.int .i64 a, .int .i64 b, vc, vs] : Array Value).toList.all (·.oneCell') = true := by
  show (true && (true && (vc.oneCell' && (vs.oneCell' && true)))) = true
  rw [hc, hs]
  rfl
set_option maxHeartbeats 1000000 in
theorem parts_any (s : List UInt8) (w : World) (h9 : 9 ≤ s.length) (hs : s.length < 1000000) :
    Calls Tryd.prog 22 #[str s] w (PartsPost w (partsP s)) := by
  have hl1 : (s.drop 4).length = s.length - 4 := List.length_drop
  have hl2 : ((s.drop 4).drop 4).length = s.length - 4 - 4 := by rw [List.length_drop, hl1]
  obtain ⟨b8, r8, h8⟩ : ∃ b r, (s.drop 4).drop 4 = b :: r := by
    cases h : (s.drop 4).drop 4 with
    | nil => rw [h] at hl2; simp at hl2; omega
    | cons b r => exact ⟨b, r, rfl⟩
  have hb8 : s.getD 8 0 = b8 := by
    have := congrArg (·[0]?) h8
    simp at this
    simp [List.getD, this]
  have hr8 : s.drop 9 = r8 := by
    have := congrArg (List.drop 1) h8
    simpa [List.drop_drop] using this
  have hlt := lt_u8 b8
  have hrl : r8.length < 1000000 := by rw [← hr8]; simp; omega
  refine W_enterD (args := [str s]) 45 Tryd.func22 rfl rfl rfl rfl Tryd.func40 rfl (by kernel_rfl) ?_
  refine W_sub [(0, str s)] ?_ ⟨rfl, trivial⟩
  have hbw := Below.refl w.heap.size w
  refine W_reg ?_
  refine salA inf26 rfl (fun g2 w1 hB2 hg2 hb hl2 => ?_)
  replace hbw := bthen hbw hb
  have hz_w1 := hb.size
  clear hb
  refine sal1 inf4 rfl rfl (fun g3 w2 hB3 hg3 hb hl3 => ?_)
  replace hbw := bthen hbw hb
  replace hB2 := hB2.bel hb
  have hz_w2 := hb.size
  clear hb
  refine Wn ?_
  refine tN ⟨_, rfl, ?_⟩
  refine W_rs ?_
  refine sm rfl rfl ?_
  refine st (X.bld rfl (bcut _ _)) rfl ?_
  refine sboxA rfl rfl (fun g10 w3 hB10 hg10 hb hl10 => ?_)
  replace hbw := bthen hbw hb
  replace hB2 := hB2.bel hb
  replace hB3 := hB3.bel hb
  have hz_w3 := hb.size
  clear hb
  refine sa rfl rfl ?_
  refine Wn ?_
  refine tN ?_
  refine W_rs ?_
  refine sm rfl rfl ?_
  refine sc _ Tryd.func41 rfl (by kernel_rfl) rfl rfl ((number_any g10 s _ hB10 (by omega)).mono ?_)
  clear hB10
  rintro e_ w4 ⟨rfl, hB10, hC⟩
  refine cR ?_
  replace hB2 := hB2.chg hC (by first | (show ¬ _ = _; omega) | (intro k_ hk_; simp [Value.ownBlock] at hk_; subst hk_; show ¬ _ = _; omega))
  replace hB3 := hB3.chg hC (by first | (show ¬ _ = _; omega) | (intro k_ hk_; simp [Value.ownBlock] at hk_; subst hk_; show ¬ _ = _; omega))
  replace hbw := bset hbw hC (by omega)
  have hz_w4 := hC.size
  clear hC
  refine sm rfl rfl ?_
  refine sc _ Tryd.func41 rfl (by kernel_rfl) rfl rfl ((number_any g10 (s.drop 4) _ hB10 (by omega)).mono ?_)
  clear hB10
  rintro e_ w5 ⟨rfl, hB10, hC⟩
  refine cR ?_
  replace hB2 := hB2.chg hC (by first | (show ¬ _ = _; omega) | (intro k_ hk_; simp [Value.ownBlock] at hk_; subst hk_; show ¬ _ = _; omega))
  replace hB3 := hB3.chg hC (by first | (show ¬ _ = _; omega) | (intro k_ hk_; simp [Value.ownBlock] at hk_; subst hk_; show ¬ _ = _; omega))
  replace hbw := bset hbw hC (by omega)
  have hz_w5 := hC.size
  clear hC
  refine st (X.fa fa26_0 rfl) rfl ?_
  refine ssB rfl rfl hB2 siz3 rfl (by first | decide | simp) (fun w6 hB_ hc_ => ?_)
  replace hB2 := hB_
  clear hB_
  replace hB3 := hB3.chg hc_ (by first | (show ¬ _ = _; omega) | (intro k_ hk_; simp [Value.ownBlock] at hk_; subst hk_; show ¬ _ = _; omega))
  replace hB10 := hB10.chg hc_ (by first | (show ¬ _ = _; omega) | (intro k_ hk_; simp [Value.ownBlock] at hk_; subst hk_; show ¬ _ = _; omega))
  replace hbw := bset hbw hc_ (by omega)
  have hz_w6 := hc_.size
  clear hc_
  refine st (X.fa fa26_1 rfl) rfl ?_
  refine ssB rfl rfl hB2 siz3 rfl (by first | decide | simp) (fun w7 hB_ hc_ => ?_)
  replace hB2 := hB_
  clear hB_
  replace hB3 := hB3.chg hc_ (by first | (show ¬ _ = _; omega) | (intro k_ hk_; simp [Value.ownBlock] at hk_; subst hk_; show ¬ _ = _; omega))
  replace hB10 := hB10.chg hc_ (by first | (show ¬ _ = _; omega) | (intro k_ hk_; simp [Value.ownBlock] at hk_; subst hk_; show ¬ _ = _; omega))
  replace hbw := bset hbw hc_ (by omega)
  have hz_w7 := hc_.size
  clear hc_
  refine Wn ?_
  refine tN ?_
  refine W_seq ?_
  refine W_rs ?_
  refine sm rfl rfl ?_
  rw [h8] at hB10
  refine sc _ Tryd.func42 rfl (by kernel_rfl) rfl rfl ((one_ok g10 b8 r8 _ hB10).mono ?_)
  clear hB10
  rintro e_ w8 ⟨rfl, hB10, hC⟩
  refine cR ?_
  replace hB2 := hB2.chg hC (by first | (show ¬ _ = _; omega) | (intro k_ hk_; simp [Value.ownBlock] at hk_; subst hk_; show ¬ _ = _; omega))
  replace hB3 := hB3.chg hC (by first | (show ¬ _ = _; omega) | (intro k_ hk_; simp [Value.ownBlock] at hk_; subst hk_; show ¬ _ = _; omega))
  replace hbw := bset hbw hC (by omega)
  have hz_w8 := hC.size
  clear hC
  refine sm rfl rfl ?_
  refine Wn ?_
  refine tN ?_
  refine W_block ?_
  refine W_lp (fun nw9_ lw9_ w9 => ∃ j : Nat, ∃ q : List UInt8, ∃ cs : List Col, ∃ ls : List (List Chk), ∃ vc : Value, ∃ vs : Value, ∃ us : List Value, nw9_ = b8.toNat - j ∧ lw9_ = ([(2, .pointer (some ⟨g2, 0, none⟩)), (3, .pointer (some ⟨g3, 0, none⟩)), (4, .pointer (some ⟨g10, 0, none⟩)), (18, .int .i64 b8.toNat), (19, .int .i64 j)] : Env) ∧ (j ≤ b8.toNat) ∧ (q.length < 1000000) ∧ (Rest b8.toNat r8 j cs ls q) ∧ (Blk w9 g10 99 #[str q]) ∧ (Blk w9 g2 26 #[.int .i64 (num s : Nat), .int .i64 (num (s.drop 4) : Nat), vc, vs]) ∧ (Blk w9 g3 4 #[.bool false]) ∧ (Row w9 60 3 vc cs.length (cs.flatMap Col.cells)) ∧ (Row w9 51 1 vs ls.length us) ∧ (StrsRow w9 us ls) ∧ (∀ k, vc.ownBlock = some k → w.heap.size ≤ k) ∧ (∀ k, vs.ownBlock = some k → w.heap.size ≤ k) ∧ (∀ c ∈ cs, c.name.length ≤ 9223372036854775807) ∧ (cs.length = j ∧ ls.length = j) ∧ (Below w.heap.size w w9)) _ ⟨_, ⟨0, r8, [], [], .slice none 0 0, .slice none 0 0, [], rfl, rfl, by omega, hrl, by unfold Rest; cases h : colsP b8.toNat r8 with | none => simp | some x => simp, hB10, hB2, hB3, Row.nil _ _ _, Row.nil _ _ _, ⟨rfl, fun i u l h => by simp at h⟩, (fun k hk => by simp [Value.ownBlock] at hk), (fun k hk => by simp [Value.ownBlock] at hk), by simp, ⟨rfl, rfl⟩, hbw⟩, ⟨rfl, rfl, rfl, rfl, rfl, trivial⟩⟩ ?_
  clear hB10 hB2 hB3 hbw
  rintro nw9_ lw9_ w9 ⟨j, q, cs, ls, vc, vs, us, rfl, rfl, hj, hq, hre, hB10, hB2, hB3, hRc, hRs, hSt, hOc, hOs, hnm, hlc, hbw⟩
  have hz_w9 := hbw.size
  have hlt_hB2_w9 := hB2.lt
  have hlt_hB3_w9 := hB3.lt
  have hlt_hB10_w9 := hB10.lt
  refine W_rs ?_
  refine st (X.lss rfl rfl) rfl ?_
  refine Wn ?_
  refine tN ?_
  refine W_seq ?_
  refine W_if rfl (fun h20 => ?_) (fun h20 => ?_)
  · first | replace h20 := of_decide_eq_true h20 | replace h20 := of_decide_eq_false (notT h20) | replace h20 := notT h20 | skip
    refine W_skip ?_
    refine tN ?_
    refine W_seq ?_
    refine W_block ?_
    refine W_rs ?_
    refine sm rfl rfl ?_
    refine sc _ Tryd.func43 rfl (by kernel_rfl) rfl rfl ((column_any g10 q _ hB10 hq).mono ?_)
    rintro e_ w10 ⟨hC, hp⟩
    rcases hcp : colP q with _ | ⟨c, l, q'⟩
    · rw [hcp] at hp
      obtain rfl := hp
      replace hB2 := hB2.chg hC (by show ¬ _ = _; omega)
      replace hB3 := hB3.chg hC (by show ¬ _ = _; omega)
      replace hbw := bset hbw hC (by omega)
      refine cP (tP (bP (tP (tP (bP (tP ?_))))))
      refine dPan ((catch_missing g3 false _ hB3).mono ?_)
      rintro e_ u_ w_ ⟨rfl, hu_, hB3', hC3⟩
      refine ⟨_, rfl, hu_, _, resCC rfl (resCell rfl (hB2.chg hC3 (by show ¬ _ = _; omega)) Tryd.underlying26 rfl siz26) (resCell1 rfl hB3' Tryd.underlying4 rfl), bset hbw hC3 (by omega), ?_⟩
      have hno : partsP s = none := by unfold partsP; rw [hb8, hr8, hre.none (by omega) hcp]
      rw [hno]
      exact ⟨_, _, _, _, rfl, hRc.one, hRs.one⟩
    rw [hcp] at hp
    obtain ⟨u, rfl, hRu, hOu, hB10'⟩ := hp
    obtain ⟨hcl1, hcl2, hcl3, hcl4⟩ := colP_length hcp
    refine cR ?_
    have hz_col := hC.size
    replace hRc := hRc.chg hC (fun k hk e => hRc.ne_ hB10 (by decide) (by rw [← e]; exact hk))
    replace hRs := hRs.chg hC (fun k hk e => hRs.ne_ hB10 (by decide) (by rw [← e]; exact hk))
    replace hSt := hSt.chgB hC hB10 (by decide)
    replace hB2 := hB2.chg hC (by show ¬ _ = _; omega)
    replace hB3 := hB3.chg hC (by show ¬ _ = _; omega)
    replace hbw := bset hbw hC (by omega)
    replace hB10 := hB10'
    clear hB10' hC
    refine sm rfl rfl ?_
    refine st (X.ext rfl rfl) rfl ?_
    refine st (X.ext rfl rfl) rfl ?_
    refine salA inf60 rfl (fun g5 w11 hB5 hg5 hb hl5 => ?_)
    have hpend := hb
    replace hbw := bthen hbw hb
    replace hB10 := hB10.bel hb
    replace hB2 := hB2.bel hb
    replace hB3 := hB3.bel hb
    have hz_w11 := hb.size
    clear hb
    refine ssBN rfl rfl hB5 siz60 rfl rfl (fun w12 hB_ hc_ => ?_)
    replace hB5 := hB_
    clear hB_
    replace hpend := bset hpend hc_ (by omega)
    replace hB10 := hB10.chg hc_ (by first | (show ¬ _ = _; omega) | (intro k_ hk_; simp [Value.ownBlock] at hk_; subst hk_; show ¬ _ = _; omega))
    replace hB2 := hB2.chg hc_ (by first | (show ¬ _ = _; omega) | (intro k_ hk_; simp [Value.ownBlock] at hk_; subst hk_; show ¬ _ = _; omega))
    replace hB3 := hB3.chg hc_ (by first | (show ¬ _ = _; omega) | (intro k_ hk_; simp [Value.ownBlock] at hk_; subst hk_; show ¬ _ = _; omega))
    replace hbw := bset hbw hc_ (by omega)
    have hz_w12 := hc_.size
    clear hc_
    refine sa rfl rfl ?_
    refine Wn ?_
    refine tN ?_
    refine W_rs ?_
    refine st (X.fa fa26_2 rfl) rfl ?_
    refine st (X.ldL rfl hB2 Tryd.underlying23 rfl rfl) rfl ?_
    refine st (X.ldBN rfl hB5 Tryd.underlying60 rfl siz60) rfl ?_
    replace hRc := hRc.bel hpend
    replace hRs := hRs.bel hpend
    replace hSt := hSt.bel hpend
    replace hRu := hRu.bel hpend
    clear hpend
    refine sbs1 rfl Tryd.underlying23 inf60 rfl rfl (by decide) (by decide) rfl (fun g29 w13 hR29 hg29 hb => ?_)
    replace hRc := hRc.bel hb
    replace hRs := hRs.bel hb
    replace hSt := hSt.bel hb
    replace hRu := hRu.bel hb
    replace hB2 := hB2.bel hb
    replace hB3 := hB3.bel hb
    replace hB10 := hB10.bel hb
    replace hbw := bthen hbw hb
    have hz_29 := hb.size
    clear hb
    refine sapp rfl rfl Tryd.underlying23 inf60 rfl (by decide) hRc (hR29.src Tryd.underlying23 (by rw [show (Value.agg c.cells.toArray).cells.toList = [c].flatMap Col.cells by simp [Value.cells]]; exact colCells_one _)) (by simp only [maxLen]; omega) (by omega) rfl (fun vc' w14 hRc' hC hv' => ?_)
    replace hRs := hRs.chg hC (fun k hk => hRs.apart_ hRc (by decide) k hk)
    replace hSt := hSt.chgR hC hRc (by decide)
    replace hRu := hRu.chg hC (fun k hk => hRu.apart_ hRc (by decide) k hk)
    replace hB2 := hB2.chg hC (hRc.ne_ hB2 (by decide))
    replace hB3 := hB3.chg hC (hRc.ne_ hB3 (by decide))
    replace hB10 := hB10.chg hC (hRc.ne_ hB10 (by decide))
    replace hbw := bapp hbw hC hOc
    replace hOc := own_next hv' hOc (by omega)
    have hz_30 := hC.size
    replace hRc := hRc'
    clear hC hRc' hv'
    refine st (X.fa fa26_2 rfl) rfl ?_
    refine ssB rfl rfl hB2 siz23 hRc.one (by simp) (fun w15 hB_ hC => ?_)
    replace hRs := hRs.chg hC (fun k hk e => hRs.ne_ hB2 (by decide) (by rw [← e]; exact hk))
    replace hRc := hRc.chg hC (fun k hk e => hRc.ne_ hB2 (by decide) (by rw [← e]; exact hk))
    replace hRu := hRu.chg hC (fun k hk e => hRu.ne_ hB2 (by decide) (by rw [← e]; exact hk))
    replace hSt := hSt.chgB hC hB2 (by decide)
    replace hB3 := hB3.chg hC (by show ¬ _ = _; omega)
    replace hB10 := hB10.chg hC (by show ¬ _ = _; omega)
    replace hbw := bset hbw hC (by omega)
    have hz_31 := hC.size
    replace hB2 := hB_
    clear hC hB_
    refine Wn ?_
    refine tN ?_
    refine W_reg ?_
    refine st (X.fa fa26_3 rfl) rfl ?_
    refine st (X.ldL rfl hB2 Tryd.underlying24 rfl rfl) rfl ?_
    refine sm rfl rfl ?_
    refine sbs1 rfl Tryd.underlying24 inf51 (by obtain ⟨a_, c_, rfl, _, _⟩ := hRu.shape; rfl) rfl (by decide) (by decide) rfl (fun g35 w16 hR35 hg35 hb => ?_)
    replace hRc := hRc.bel hb
    replace hRs := hRs.bel hb
    replace hSt := hSt.bel hb
    replace hRu := hRu.bel hb
    replace hB2 := hB2.bel hb
    replace hB3 := hB3.bel hb
    replace hB10 := hB10.bel hb
    replace hbw := bthen hbw hb
    have hz_35 := hb.size
    clear hb
    have hu1 : u.cells.toList = [u] := by obtain ⟨a_, c_, rfl, _, _⟩ := hRu.shape; rfl
    rw [hu1] at hR35
    refine sapp rfl rfl Tryd.underlying24 inf51 rfl (by decide) hRs (hR35.src Tryd.underlying24 (by intro z hz; simp at hz; subst hz; exact hRu.one)) (by simp only [maxLen]; omega) (by omega) rfl (fun vs' w17 hRs' hC hv' => ?_)
    replace hRc := hRc.chg hC (fun k hk => hRc.apart_ hRs (by decide) k hk)
    replace hSt := hSt.chgR hC hRs (by decide)
    replace hRu := hRu.chg hC (fun k hk => hRu.apart_ hRs (by decide) k hk)
    replace hB2 := hB2.chg hC (hRs.ne_ hB2 (by decide))
    replace hB3 := hB3.chg hC (hRs.ne_ hB3 (by decide))
    replace hB10 := hB10.chg hC (hRs.ne_ hB10 (by decide))
    replace hbw := bapp hbw hC hOs
    replace hOs := own_next hv' hOs (by omega)
    have hz_36 := hC.size
    replace hRs := hRs'
    clear hC hRs' hv'
    refine st (X.fa fa26_3 rfl) rfl ?_
    refine ssB rfl rfl hB2 siz24 hRs.one (by simp) (fun w18 hB_ hC => ?_)
    replace hRs := hRs.chg hC (fun k hk e => hRs.ne_ hB2 (by decide) (by rw [← e]; exact hk))
    replace hRc := hRc.chg hC (fun k hk e => hRc.ne_ hB2 (by decide) (by rw [← e]; exact hk))
    replace hRu := hRu.chg hC (fun k hk e => hRu.ne_ hB2 (by decide) (by rw [← e]; exact hk))
    replace hSt := hSt.chgB hC hB2 (by decide)
    replace hB3 := hB3.chg hC (by show ¬ _ = _; omega)
    replace hB10 := hB10.chg hC (by show ¬ _ = _; omega)
    replace hbw := bset hbw hC (by omega)
    have hz_37 := hC.size
    replace hB2 := hB_
    clear hC hB_
    replace hSt := hSt.snoc hRu hcl2
    have hnm' : ∀ d ∈ cs ++ [c], d.name.length ≤ 9223372036854775807 := by
      intro d hd
      rw [List.mem_append] at hd
      rcases hd with hd | hd
      · exact hnm d hd
      · simp at hd; subst hd; omega
    rw [show (Value.agg c.cells.toArray).cells.toList = [c].flatMap Col.cells by simp [Value.cells], ← List.flatMap_append, show cs.length + 1 = (cs ++ [c]).length by simp] at hRc
    rw [show ls.length + 1 = (ls ++ [l]).length by simp] at hRs
    refine Wn ?_
    refine bN ?_
    refine tN ?_
    refine W_reg ?_
    refine st (X.add64 rfl rfl (by omega)) rfl ?_
    refine sm rfl rfl ?_
    refine Wn ?_
    refine tN ⟨_, _, ?_, ⟨j + 1, q', cs ++ [c], ls ++ [l], vc', vs', us ++ [u], rfl, rfl, by omega, by have := (colP_length hcp).1; omega, hre.next (by omega) hcp, hB10, hB2, hB3, hRc, hRs, hSt, hOc, hOs, hnm', by simp [hlc], hbw⟩, ⟨rfl, rfl, rfl, rfl, rfl, trivial⟩⟩
    omega
  · first | replace h20 := of_decide_eq_false h20 | replace h20 := of_decide_eq_true (notF h20) | replace h20 := notF h20 | skip
    refine W_exit (tE (tE (bH ?_)))
    refine tN ?_
    refine W_drsN (fun W_ => Blk W_ g2 26 #[.int .i64 (num s : Nat), .int .i64 (num (s.drop 4) : Nat), vc, vs] ∧ Blk W_ g10 99 #[str q]) [0, 1, 2, 3, 4, 5, 6, 7] [true, true, true, true, true, true, false, false] (by kernel_rfl) (by kernel_rfl) (⟨hB2.drew, hB10.drew⟩) ?_
    obtain ⟨w19, hw_⟩ : ∃ w19 : World, w19 = World.drew w9 := ⟨_, rfl⟩
    rw [← hw_]
    have hb : Below w9.heap.size w9 w19 := by rw [hw_]; exact bdrew (Below.refl _ _)
    clear hw_
    have hS := hb
    have hpend := hb
    replace hbw := bthen hbw hb
    replace hB10 := hB10.bel hb
    replace hB2 := hB2.bel hb
    replace hB3 := hB3.bel hb
    have hz_w19 := hb.size
    clear hb
    refine oY rfl (fun W_ hW_ => (X.ldBN rfl hW_.1 Tryd.underlying26 rfl siz26)) rfl ?_
    refine oY rfl (fun W_ hW_ => (X.move rfl)) rfl ?_
    refine oY rfl (fun W_ hW_ => (X.nilChk rfl)) rfl ?_
    refine oY rfl (fun W_ hW_ => (X.fa fa99_0 rfl)) rfl ?_
    refine oY rfl (fun W_ hW_ => (X.ldB rfl hW_.2 Tryd.underlying9 rfl rfl)) rfl ?_
    refine oY rfl (fun W_ hW_ => (X.eqS rfl rfl)) rfl ?_
    refine oL rfl (fun Q_ hQ_ hP_ => ?_)
    replace hRc := hRc.bel hpend
    replace hRs := hRs.bel hpend
    replace hSt := hSt.bel hpend
    clear hpend
    refine ssBN rfl rfl hB2 siz26 rfl (man_one hRc.one hRs.one) (fun w20 hB_ hC => ?_)
    replace hRs := hRs.chg hC (fun k hk e => hRs.ne_ hB2 (by decide) (by rw [← e]; exact hk))
    replace hRc := hRc.chg hC (fun k hk e => hRc.ne_ hB2 (by decide) (by rw [← e]; exact hk))
    replace hSt := hSt.chgB hC hB2 (by decide)
    replace hB3 := hB3.chg hC (by show ¬ _ = _; omega)
    replace hB10 := hB10.chg hC (by show ¬ _ = _; omega)
    replace hbw := bset hbw hC (by omega)
    replace hB2 := hB_
    have hS := And.intro hB2 hB10
    clear hC hB_
    refine Wn (hQ_ _ _ hS ?_)
    clear hQ_ hP_ Q_
    refine oL rfl (fun Q_ hQ_ hP_ => ?_)
    refine ssB rfl rfl hB3 siz4 rfl (by simp) (fun w21 hB_ hC => ?_)
    replace hRs := hRs.chg hC (fun k hk e => hRs.ne_ hB3 (by decide) (by rw [← e]; exact hk))
    replace hRc := hRc.chg hC (fun k hk e => hRc.ne_ hB3 (by decide) (by rw [← e]; exact hk))
    replace hSt := hSt.chgB hC hB3 (by decide)
    replace hB2 := hB2.chg hC (by show ¬ _ = _; omega)
    replace hB10 := hB10.chg hC (by show ¬ _ = _; omega)
    replace hbw := bset hbw hC (by omega)
    replace hB3 := hB_
    have hS := And.intro hB2 hB10
    clear hC hB_
    refine Wn (hQ_ _ _ hS ?_)
    clear hQ_ hP_ Q_
    refine oN ?_
    refine nN ?_
    refine W_ret ?_
    refine dRet ((catch_idle g3 _).mono ?_)
    rintro e_ u_ w_ ⟨rfl, rfl, rfl⟩
    refine ⟨_, rfl, rfl, _, resCC rfl (resCell rfl hB2 Tryd.underlying26 rfl siz26) (resCell1 rfl hB3 Tryd.underlying4 rfl), hbw, ?_⟩
    obtain rfl : j = b8.toNat := by omega
    have hd := hre.done
    by_cases hq0 : q = []
    · subst hq0
      have hyes : partsP s = some ⟨num s, num (s.drop 4), cs, ls⟩ := by unfold partsP; rw [hb8, hr8, hd]
      rw [hyes]
      exact ⟨vc, vs, rfl, hRc, hnm, us, hRs, hSt⟩
    · have hno : partsP s = none := by
        unfold partsP; rw [hb8, hr8, hd]
        cases q with
        | nil => exact absurd rfl hq0
        | cons a r => rfl
      rw [hno, show (decide (q = [])) = false from decide_eq_false hq0]
      exact ⟨_, _, _, _, rfl, hRc.one, hRs.one⟩
end Go.Proofs.YtnagmpnpgekhfaaDoor
