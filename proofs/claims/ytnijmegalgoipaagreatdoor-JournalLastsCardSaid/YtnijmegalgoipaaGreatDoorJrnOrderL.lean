/- The law JournalOrder. -/
import Derived.Test.YtnijmegalgoipaaGreatDoorJrnQ
import Derived.Test.YtnijmegalgoipaaGreatDoorJrnW
namespace Go.Proofs.YtnijmegalgoipaaGreatDoor
open Go.RowKit
theorem jd_good {F : List UInt8} (h : F.length ≤ 1048576) : Good 1 (jd F) := by
  have hg : ∀ n f, mget (jd F).files n = some f → f = ⟨F, F, []⟩ := fun n f hf => by
    simp only [jd, mget] at hf
    split at hf
    · injection hf with hf
      exact hf.symm
    · cases hf
  refine ⟨⟨List.pairwise_singleton _ _, by simp [jd], ?_, ?_, by simp [jd], (fun h => by cases h), fun n f hf => ?_⟩, fun n f hf => ?_, by simp [jd], by simp [jd]⟩
  · simp [jd, usedM]
  · show (F.length : Int) ≤ 1048576
    omega
  · rw [hg n f hf]
    exact ⟨rfl, trivial⟩
  · rw [hg n f hf]
    simp [pendLen]
/-- another call's disk -/
theorem JAll.open_ {B gd gj : Nat} {w w' : World} {D D' : DiskD} {J : JrM} {v : Value} {S S' : Nat → Prop} (h : JAll B w gd gj D J v S) (hO : Own B w' gd D' S') (hS' : ∀ k, S' k → S k ∨ w.heap.size ≤ k) (hX : Chg S w w') : JAll B w' gd gj D' J v S' := by
  have hlt := h.blk.lt
  refine ⟨h.blk.chg hX h.jf.g, h.row.chg hX (fun k hk => (h.jf.v k hk).1), hO, fun e => ?_, fun k hk => ⟨fun e => ?_, (h.jf.v k hk).2⟩, h.jf.gB⟩
  · rcases hS' _ e with e | e
    · exact h.jf.g e
    · omega
  · rcases hS' _ e with e | e
    · exact (h.jf.v k hk).1 e
    · have := h.row.lt k hk
      omega
theorem JPost.apart {B gd gj : Nat} {w w' : World} {D' : DiskD} {J' : JrM} {v u : Value} {S : Nat → Prop} {e : TypeId} {n : Nat} {xs : List Value} (h : JPost B w gd gj D' J' v S w') (hR : Row w e 1 u n xs) (hu : ∀ k, u.ownBlock = some k → B ≤ k ∧ ¬ S k ∧ ¬ k = gj ∧ ¬ v.ownBlock = some k) :
    ∃ v' S', JAll B w' gd gj D' J' v' S' ∧ Row w' e 1 u n xs ∧ (∀ k, u.ownBlock = some k → B ≤ k ∧ ¬ S' k ∧ ¬ k = gj ∧ ¬ v'.ownBlock = some k) ∧ Chg (fun k => S k ∨ k = gj ∨ v.ownBlock = some k) w w' := by
  obtain ⟨v', S', hj, hS, hv, hX⟩ := h
  refine ⟨v', S', hj, hR.chg hX (fun k hk e => ?_), fun k hk => ?_, hX⟩
  · obtain ⟨_, h1, h2, h3⟩ := hu k hk
    rcases e with e | e | e
    · exact h1 e
    · exact h2 e
    · exact h3 e
  · obtain ⟨h0, h1, h2, h3⟩ := hu k hk
    have := hR.lt k hk
    refine ⟨h0, fun e => ?_, h2, fun e => ?_⟩
    · rcases hS k e with e | e
      · exact h1 e
      · omega
    · rcases hv k e with e | e
      · exact h3 e
      · omega
theorem JAll.other {B gd gj : Nat} {w w' : World} {D : DiskD} {J : JrM} {v : Value} {S T : Nat → Prop} (h : JAll B w gd gj D J v S) (hX : Chg T w w') (h1 : ∀ k, T k → ¬ S k ∧ ¬ k = gj ∧ ¬ v.ownBlock = some k) : JAll B w' gd gj D J v S :=
  ⟨h.blk.chg hX (fun e => (h1 _ e).2.1 rfl), h.row.chg hX (fun k hk e => (h1 k e).2.2 hk), ⟨h.jf.own.other hX (fun k hk => (h1 k hk).1), h.jf.g, h.jf.v, h.jf.gB⟩⟩
theorem jcrash {B gd gj : Nat} {w w' : World} {D D' : DiskD} {J : JrM} {v u : Value} {S : Nat → Prop} {e : TypeId} {n : Nat} {xs : List Value} (h : JAll B w gd gj D J v S) (hB : B ≤ w.heap.size) (h1 : DiskAt w' gd D' (Ext S w w')) (hX : Chg S w w') (hR : Row w e 1 u n xs) (hu : ∀ k, u.ownBlock = some k → B ≤ k ∧ ¬ S k ∧ ¬ k = gj ∧ ¬ v.ownBlock = some k) :
    ∃ S', JAll B w' gd gj D' J v S' ∧ Row w' e 1 u n xs ∧ (∀ k, u.ownBlock = some k → B ≤ k ∧ ¬ S' k ∧ ¬ k = gj ∧ ¬ v.ownBlock = some k) := by
  refine ⟨_, h.open_ (h.jf.own.step h1 hX hB) (fun k hk => hk.imp (fun e => e) (fun e => e.1)) hX, hR.chg hX (fun k hk => (hu k hk).2.1), fun k hk => ?_⟩
  obtain ⟨a, b, c, d⟩ := hu k hk
  have := hR.lt k hk
  refine ⟨a, fun e => ?_, c, d⟩
  rcases e with e | e
  · exact b e
  · omega
theorem jrNeP (w : World) (a : Addr) : (binOp .neq 43 (.pointer (some a)) (.pointer none)).run Tryz.prog w = .ok (.bool true) w := by kernel_rfl
theorem X.jNe {l : Env} {x : Operand} {t' ty : TypeId} {w : World} {a : Addr} (hx : ev l x = some (.pointer (some a))) : X Tryz.prog l (.binOp .neq 43 x (.const (.pointer none)) t') ty w (.bool true) w :=
  X.bin hx rfl guard_ptr (jrNeP w a)
section
variable {F x y : List UInt8} {d : List (List UInt8)} {n : Nat} {D : DiskD}
abbrev jo (d : List (List UInt8)) (n o : Nat) (x : List UInt8) : JrM := ⟨⟨[], d, n, 0, o, x⟩, false⟩
theorem jo_int (h : FitJ F (jo d n 0 [])) (hx : x.length ≤ 300) (hF : F.length ≤ 10000) (hn : n ≤ 1000) : intentJ (jd F) (jo d n 0 []) x = (((n : Int), 0), jd (F ++ sealM 4 (four n ++ x)), jo d (n + 1) n x) := (intent_jd h rfl rfl (by omega) (by omega) (by show n < _; omega)).1
theorem jo_intF (h : FitJ F (jo d n 0 [])) (hx : x.length ≤ 300) (hF : F.length ≤ 10000) (hn : n ≤ 1000) : FitJ (F ++ sealM 4 (four n ++ x)) (jo d (n + 1) n x) := (intent_jd h rfl rfl (by omega) (by omega) (by show n < _; omega)).2
theorem jo_int2 (hn : 0 < n) : intentJ D (jo d (n + 1) n x) y = ((0, 18), D, jo d (n + 1) n x) := if_pos (.inr hn)
theorem jo_chk (hn : 0 < n) : checkJ D (jo d (n + 1) n x) y = (18, D, jo d (n + 1) n x) := if_pos (.inr hn)
theorem jo_com1 : commitJ D (jo d (n + 1) n x) ((n : Int) + 1) = (1, D, jo d (n + 1) n x) := by
  have hm : mayJ (jo d (n + 1) n x) ((n : Int) + 1) = 1 := by
    unfold mayJ
    rw [if_neg (by simp), if_pos (.inr (by show (n : Int) + 1 ≠ (n : Int); omega))]
  unfold commitJ
  rw [hm, if_pos (by decide)]
theorem jo_com (h : FitJ F (jo d (n + 1) n x)) (hn : 0 < n) (hF : F.length ≤ 20000) (hn2 : n ≤ 1000) : commitJ (jd F) (jo d (n + 1) n x) n = (0, jd (F ++ sealM 5 (four n)), jo (d ++ [x]) (n + 1) 0 []) := (commit_jd h rfl hn rfl (by omega) (by show n < _; omega)).1
theorem jo_comF (h : FitJ F (jo d (n + 1) n x)) (hn : 0 < n) (hF : F.length ≤ 20000) (hn2 : n ≤ 1000) : FitJ (F ++ sealM 5 (four n)) (jo (d ++ [x]) (n + 1) 0 []) := (commit_jd (id := n) h rfl hn rfl (by omega) (by show n < _; omega)).2
theorem jo_ab (hn : 0 < n) : abortJ (jo d (n + 1) n x) n = (0, jo d (n + 1) 0 []) := by
  have hm : mayJ (jo d (n + 1) n x) n = 0 := by
    unfold mayJ
    rw [if_neg (by simp), if_neg (by show ¬ ((n : Int) < 1 ∨ (n : Int) ≠ (n : Int)); omega)]
  unfold abortJ
  rw [hm, if_neg (by decide)]
theorem jo_may0 {m : Nat} (hn : 0 < n) : mayJ (jo d m 0 []) n = 1 := by
  unfold mayJ
  rw [if_neg (by simp), if_pos (.inr (by show (n : Int) ≠ ((0 : Nat) : Int); omega))]
theorem jo_com0 {m : Nat} (hn : 0 < n) : commitJ D (jo d m 0 []) n = (1, D, jo d m 0 []) := by
  unfold commitJ
  rw [jo_may0 hn, if_pos (by decide)]
theorem jo_ab0 {m : Nat} (hn : 0 < n) : abortJ (jo d m 0 []) n = (1, jo d m 0 []) := by
  unfold abortJ
  rw [jo_may0 hn, if_pos (by decide)]
end
set_option maxRecDepth 10000 in
theorem JournalOrder_walk (w : World) (vl : Value) (l : List (List UInt8)) (hL : Reads w 1 vl l.length (l.map str)) (vc : Value) (cs : List Bool) (hC_ : Reads w 1 vc cs.length (cs.map Value.bool)) (vp : Value) (ps : List Int) (hP_0 : Reads w 1 vp ps.length (ps.map fun k => .int .i64 k)) :
    Calls Tryz.prog 6 #[vl, vc, vp] w fun e w' => e = .returned (.bool true) ∧ Below w.heap.size w w' := by
  obtain ⟨al, cl, rfl, hl1, hl2⟩ := hL.shape
  obtain ⟨ac, cc, rfl, hc1, hc2⟩ := hC_.shape
  obtain ⟨ap, cp, rfl, hp1, hp2⟩ := hP_0.shape
  refine W_enter (args := [.slice al l.length cl, .slice ac cs.length cc, .slice ap ps.length cp]) 166 Tryz.func6 rfl rfl rfl ?_
  refine W_sub [(0, .slice al l.length cl), (1, .slice ac cs.length cc), (2, .slice ap ps.length cp)] ?_ ⟨rfl, rfl, rfl, trivial⟩
  have hbw := Below.refl w.heap.size w
  refine W_rs ?_
  refine sa rfl rfl ?_
  refine Wn ?_
  refine tN ?_
  refine W_seq ?_
  refine W_rs ?_
  refine sm rfl rfl ?_
  refine st (X.lenL rfl rfl Tryz.underlying42) rfl ?_
  refine st (X.gtr rfl rfl) rfl ?_
  refine sb rfl rfl (fun h22 => ?_) (fun h22 => ?_)
  · first | replace h22 := of_decide_eq_true h22 | replace h22 := of_decide_eq_false (notT h22) | replace h22 := notT h22 | skip
    refine gN (g := 22) rfl rfl rfl rfl ?_
    refine gN (g := 22) rfl rfl rfl rfl ?_
    refine gN (g := 22) rfl rfl rfl rfl ?_
    refine st (X.pickT rfl rfl) rfl ?_
    refine Wn ?_
    refine tN ?_
    refine W_yes rfl (rfl) ?_
    refine W_rs ?_
    refine sc _ Tryz.func17 rfl (by kernel_rfl) rfl rfl ((awake16_any _).mono ?_)
    rintro e_ w1 ⟨rfl, hb⟩
    refine cR ?_
    replace hbw := bthen hbw hb
    have hz_w1 := hb.size
    clear hb
    refine sa rfl rfl ?_
    refine Wn ?_
    refine tN ?_
    refine W_ret (tR ?_)
    exact (rT rfl rfl ⟨rfl, hbw⟩).1
  · first | replace h22 := of_decide_eq_false h22 | replace h22 := of_decide_eq_true (notF h22) | replace h22 := notF h22 | skip
    refine gY (g := 22) rfl rfl rfl ?_
    refine sm rfl rfl ?_
    refine gY (g := 22) rfl rfl rfl ?_
    refine st (X.lenL rfl rfl Tryz.underlying34) rfl ?_
    refine gY (g := 22) rfl rfl rfl ?_
    refine st (X.gtr rfl rfl) rfl ?_
    refine st (X.pickF rfl rfl) rfl ?_
    refine Wn ?_
    refine tN ?_
    refine W_if rfl (fun h26 => ?_) (fun h26 => ?_)
    · first | replace h26 := of_decide_eq_true h26 | replace h26 := of_decide_eq_false (notT h26) | replace h26 := notT h26 | skip
      refine W_rs ?_
      refine sc _ Tryz.func17 rfl (by kernel_rfl) rfl rfl ((awake16_any _).mono ?_)
      rintro e_ w2 ⟨rfl, hb⟩
      refine cR ?_
      replace hbw := bthen hbw hb
      have hz_w2 := hb.size
      clear hb
      refine sa rfl rfl ?_
      refine Wn ?_
      refine tN ?_
      refine W_ret (tR ?_)
      exact (rT rfl rfl ⟨rfl, hbw⟩).1
    · first | replace h26 := of_decide_eq_false h26 | replace h26 := of_decide_eq_true (notF h26) | replace h26 := notF h26 | skip
      refine W_skip ?_
      refine tN ?_
      refine W_rs ?_
      refine sc _ Tryz.func9 rfl (by kernel_rfl) rfl rfl ((New_ok 1048576 _ (by omega)).mono ?_)
      rintro e_ w3 ⟨gd, S0, rfl, h0, hS0, hb⟩
      refine cR ?_
      replace hbw := bthen hbw hb
      have hz_w3 := hb.size
      clear hb
      have hd : Own w.heap.size w3 gd (newM 1048576) S0 := ⟨h0, fun k hk => by have := hS0 k hk; have := hbw.size; omega⟩
      clear h0 hS0
      refine sm rfl rfl ?_
      refine st (X.ext rfl rfl) rfl ?_
      refine st (X.ext rfl rfl) rfl ?_
      refine sa rfl rfl ?_
      refine sa rfl rfl ?_
      refine Wn ?_
      refine tN ?_
      refine W_rs ?_
      refine sm rfl rfl ?_
      have hO := Open_any w.heap.size gd (newM 1048576) S0 0 w3 hd hbw.size (Good.new (by omega)) (by omega)
      rw [open_new] at hO
      refine sc _ Tryz.func18 rfl (by kernel_rfl) rfl rfl ((hO).mono ?_)
      rintro e_ w4 ⟨S1, hd1, hS1, hX, gj, v1, rfl, hj, hgj, hv1⟩
      refine cR ?_
      replace hbw := bchg hbw hX (fun k hk => (hd.lo k hk).1)
      have hz_w4 := hX.size
      clear hd hd1 hX hO
      refine sm rfl rfl ?_
      refine st (X.ext rfl rfl) rfl ?_
      refine st (X.ext rfl rfl) rfl ?_
      refine sa rfl rfl ?_
      refine sa rfl rfl ?_
      refine Wn ?_
      refine tN ?_
      refine W_seq ?_
      refine W_rs ?_
      refine sm rfl rfl ?_
      refine st (X.neq rfl rfl) rfl ?_
      refine sbN rfl (rfl) rfl ?_
      refine gY (g := 39) rfl rfl rfl ?_
      refine sm rfl rfl ?_
      refine gY (g := 39) rfl rfl rfl ?_
      refine st (X.jEq rfl) rfl ?_
      refine st (X.pickF rfl rfl) rfl ?_
      refine Wn ?_
      refine tN ?_
      refine W_no rfl (rfl) ?_
      refine W_skip ?_
      refine tN ?_
      refine W_rs ?_
      refine sa rfl rfl ?_
      refine Wn ?_
      refine tN ?_
      refine W_seq ?_
      refine W_rs ?_
      refine sa rfl rfl ?_
      refine Wn ?_
      refine tN ?_
      refine W_block ?_
      refine W_lp (fun nw5_ lw5_ w5 => ∃ i : Nat, ∃ F : List UInt8, ∃ d : List (List UInt8), ∃ v : Value, ∃ S : Nat → Prop, ∃ vw : Value, nw5_ = l.length - i ∧ lw5_ = ([(0, .slice al l.length cl), (1, .slice ac cs.length cc), (2, .slice ap ps.length cp), (7, .pointer (some ⟨gd, 0, none⟩)), (9, .pointer (some ⟨gj, 0, none⟩)), (11, vw), (12, .int .i64 i)] : Env) ∧ (JAll w.heap.size w5 gd gj (jd F) (jo d (i + 1) 0 []) v S) ∧ (FitJ F (jo d (i + 1) 0 [])) ∧ (i ≤ l.length) ∧ (F.length ≤ i * 400) ∧ (Row w5 9 1 vw d.length (d.map str)) ∧ (∀ k, vw.ownBlock = some k → w.heap.size ≤ k ∧ ¬ S k ∧ ¬ k = gj ∧ ¬ v.ownBlock = some k) ∧ (d.length ≤ i) ∧ (Below w.heap.size w w5)) _ ⟨_, ⟨0, [], [], v1, S1, .slice none 0 0, rfl, rfl, hj, FitJ.new, by omega, by simp, Row.nil _ _ _, (fun k hk => by simp [Value.ownBlock] at hk), by simp, hbw⟩, ⟨rfl, rfl, rfl, rfl, rfl, rfl, rfl, trivial⟩⟩ ?_
      clear hj hbw
      rintro nw5_ lw5_ w5 ⟨i, F, d, v, S, vw, rfl, rfl, hj, hfit, hi, hF, hW, hWS, hdl, hbw⟩
      have hz_w5 := hbw.size
      refine W_seq ?_
      refine W_rs ?_
      refine sm rfl rfl ?_
      refine sm rfl rfl ?_
      refine st (X.lenL rfl rfl Tryz.underlying42) rfl ?_
      refine st (X.lss rfl rfl) rfl ?_
      refine Wn ?_
      refine tN ?_
      refine W_if rfl (fun h46 => ?_) (fun h46 => ?_)
      · first | replace h46 := of_decide_eq_true h46 | replace h46 := of_decide_eq_false (notT h46) | replace h46 := notT h46 | skip
        obtain ⟨x, hx⟩ : ∃ x, l[i]? = some x := ⟨_, List.getElem?_eq_getElem (by omega)⟩
        have hux : (l.map str)[i]? = some (str x) := by rw [List.getElem?_map, hx]; rfl
        obtain ⟨g1, o1, c', hv, hg1⟩ := hL.some_ (by omega)
        injection hv with e1 _ e3
        subst e1 e3
        refine W_skip ?_
        refine tN ?_
        refine W_seq ?_
        refine W_block ?_
        refine W_seq ?_
        refine W_rs ?_
        refine sm rfl rfl ?_
        refine sm rfl rfl ?_
        refine st (X.idxA rfl rfl Tryz.underlying42 siz9 rfl (by omega)) rfl ?_
        refine st (X.ld rfl Tryz.underlying9 rfl (by rw [Nat.mul_one]; exact (hL.bel hbw).cellAt (by omega) hux)) rfl ?_
        refine st (X.lenS rfl rfl Tryz.underlying9) rfl ?_
        refine st (X.gtr rfl rfl) rfl ?_
        refine Wn ?_
        refine tN ?_
        refine W_if rfl (fun h54 => ?_) (fun h54 => ?_)
        · first | replace h54 := of_decide_eq_true h54 | replace h54 := of_decide_eq_false (notT h54) | replace h54 := notT h54 | skip
          refine W_rs ?_
          refine sc _ Tryz.func17 rfl (by kernel_rfl) rfl rfl ((awake16_any _).mono ?_)
          rintro e_ w6 ⟨rfl, hb⟩
          refine cR ?_
          replace hbw := bthen hbw hb
          replace hj := hj.bel hb
          replace hW := hW.bel hb
          have hz_w6 := hb.size
          clear hb
          refine sa rfl rfl ?_
          refine Wn ?_
          refine tN ?_
          refine W_ret (tR (bR (tR (tR (bR (tR ?_))))))
          exact (rT rfl rfl ⟨rfl, hbw⟩).1
        · first | replace h54 := of_decide_eq_false h54 | replace h54 := of_decide_eq_true (notF h54) | replace h54 := notF h54 | skip
          have hfit1 := jo_intF hfit (x := x) (by omega) (by omega) (by omega)
          have hsl := sealM_length 4 (four ((i + 1 : Nat) : Int) ++ x)
          rw [List.length_append, four_length] at hsl
          have hsl5 := sealM_length 5 (four ((i + 1 : Nat) : Int))
          rw [four_length] at hsl5
          obtain ⟨F1, hF1⟩ : ∃ F1, F ++ sealM 4 (four ((i + 1 : Nat) : Int) ++ x) = F1 := ⟨_, rfl⟩
          have hF1l : F1.length ≤ i * 400 + 320 := by rw [← hF1, List.length_append]; omega
          rw [hF1] at hfit1
          refine W_skip ?_
          refine tN ?_
          refine W_rs ?_
          refine sm rfl rfl ?_
          refine sm rfl rfl ?_
          refine sm rfl rfl ?_
          refine st (X.idxA rfl rfl Tryz.underlying42 siz9 rfl (by omega)) rfl ?_
          refine st (X.ld rfl Tryz.underlying9 rfl (by rw [Nat.mul_one]; exact (hL.bel hbw).cellAt (by omega) hux)) rfl ?_
          have hI := Intent_any w.heap.size gd gj (jd F) (jo d (i + 1) 0 []) v S w5 hj x 1 (jd_good (by omega)) (by omega) (by omega) (by show i + 1 ≤ _; omega)
          rw [jo_int hfit (by omega) (by omega) (by omega), hF1] at hI
          simp only at hI
          refine sc _ Tryz.func19 rfl (by kernel_rfl) rfl rfl ((hI).mono ?_)
          rintro e_ w7 ⟨rfl, hP1⟩
          refine cR ?_
          obtain ⟨v, S, hj', hW', hWS', hX⟩ := JPost.apart hP1 hW hWS
          have hbw' := hj.below hbw hX
          have hz_w7 := hX.size
          clear hj hW hWS hX hI hbw hP1
          have hj := hj'
          have hW := hW'
          have hWS := hWS'
          have hbw := hbw'
          clear hj' hW' hWS' hbw'
          refine sm rfl rfl ?_
          refine st (X.ext rfl rfl) rfl ?_
          refine st (X.ext rfl rfl) rfl ?_
          refine sa rfl rfl ?_
          refine sa rfl rfl ?_
          refine Wn ?_
          refine tN ?_
          refine W_rs ?_
          refine sm rfl rfl ?_
          have hI := Intent_any w.heap.size gd gj (jd F1) (jo d (i + 1 + 1) (i + 1) x) v S w7 hj [120] 1 (jd_good (by omega)) (by omega) (by decide) (by show i + 1 + 1 ≤ _; omega)
          rw [jo_int2 (by omega)] at hI
          simp only at hI
          refine sc _ Tryz.func19 rfl (by kernel_rfl) rfl rfl ((hI).mono ?_)
          rintro e_ w8 ⟨rfl, hP1⟩
          refine cR ?_
          obtain ⟨v, S, hj', hW', hWS', hX⟩ := JPost.apart hP1 hW hWS
          have hbw' := hj.below hbw hX
          have hz_w8 := hX.size
          clear hj hW hWS hX hI hbw hP1
          have hj := hj'
          have hW := hW'
          have hWS := hWS'
          have hbw := hbw'
          clear hj' hW' hWS' hbw'
          refine sm rfl rfl ?_
          refine st (X.ext rfl rfl) rfl ?_
          refine st (X.ext rfl rfl) rfl ?_
          refine sa rfl rfl ?_
          refine sa rfl rfl ?_
          refine Wn ?_
          refine tN ?_
          refine W_seq ?_
          refine W_rs ?_
          refine sm rfl rfl ?_
          refine st (X.neq rfl rfl) rfl ?_
          refine sbN rfl (rfl) rfl ?_
          refine gY (g := 72) rfl rfl rfl ?_
          refine sm rfl rfl ?_
          refine gY (g := 72) rfl rfl rfl ?_
          refine sm rfl rfl ?_
          refine gY (g := 72) rfl rfl rfl ?_
          refine st (X.add64 rfl rfl (by omega)) rfl ?_
          refine gY (g := 72) rfl rfl rfl ?_
          refine st (X.neq rfl rfl) rfl ?_
          refine st (X.pickF rfl rfl) rfl ?_
          refine sbN rfl (decide_eq_false (by omega)) rfl ?_
          refine gY (g := 78) rfl rfl rfl ?_
          refine sm rfl rfl ?_
          refine gY (g := 78) rfl rfl rfl ?_
          refine st (X.neq rfl rfl) rfl ?_
          refine st (X.pickF rfl rfl) rfl ?_
          refine sbN rfl (rfl) rfl ?_
          refine gY (g := 82) rfl rfl rfl ?_
          refine sm rfl rfl ?_
          have hI := Checkpoint_any w.heap.size gd gj (jd F1) (jo d (i + 1 + 1) (i + 1) x) v S w8 hj [120] 1 (jd_good (by omega)) (by omega) (by decide)
          rw [jo_chk (by omega)] at hI
          simp only at hI
          refine gY (g := 82) rfl rfl rfl ?_
          refine sc _ Tryz.func21 rfl (by kernel_rfl) rfl rfl ((hI).mono ?_)
          rintro e_ w9 ⟨rfl, hP1⟩
          refine cR ?_
          obtain ⟨v, S, hj', hW', hWS', hX⟩ := JPost.apart hP1 hW hWS
          have hbw' := hj.below hbw hX
          have hz_w9 := hX.size
          clear hj hW hWS hX hI hbw hP1
          have hj := hj'
          have hW := hW'
          have hWS := hWS'
          have hbw := hbw'
          clear hj' hW' hWS' hbw'
          refine gY (g := 82) rfl rfl rfl ?_
          refine st (X.neq rfl rfl) rfl ?_
          refine st (X.pickF rfl rfl) rfl ?_
          refine sbN rfl (rfl) rfl ?_
          refine gY (g := 87) rfl rfl rfl ?_
          refine sm rfl rfl ?_
          refine gY (g := 87) rfl rfl rfl ?_
          refine sm rfl rfl ?_
          refine gY (g := 87) rfl rfl rfl ?_
          refine st (X.add64 rfl rfl (by omega)) rfl ?_
          have hI := Commit_any w.heap.size gd gj (jd F1) (jo d (i + 1 + 1) (i + 1) x) v S w9 hj (((i + 1 : Nat) : Int) + 1) 1 (jd_good (by omega)) (by omega) (by show d.length ≤ _; omega)
          rw [jo_com1] at hI
          simp only at hI
          refine gY (g := 87) rfl rfl rfl ?_
          refine sc _ Tryz.func20 rfl (by kernel_rfl) rfl rfl ((hI).mono ?_)
          rintro e_ w10 ⟨rfl, hP1⟩
          refine cR ?_
          obtain ⟨v, S, hj', hW', hWS', hX⟩ := JPost.apart hP1 hW hWS
          have hbw' := hj.below hbw hX
          have hz_w10 := hX.size
          clear hj hW hWS hX hI hbw hP1
          have hj := hj'
          have hW := hW'
          have hWS := hWS'
          have hbw := hbw'
          clear hj' hW' hWS' hbw'
          refine gY (g := 87) rfl rfl rfl ?_
          refine st (X.neq rfl rfl) rfl ?_
          refine st (X.pickF rfl rfl) rfl ?_
          refine Wn ?_
          refine tN ?_
          refine W_no rfl (rfl) ?_
          refine W_skip ?_
          refine tN ?_
          refine W_seq ?_
          refine W_rs ?_
          refine sm rfl rfl ?_
          refine sm rfl rfl ?_
          refine st (X.lenL rfl rfl Tryz.underlying56) rfl ?_
          refine st (X.lss rfl rfl) rfl ?_
          refine sb rfl rfl (fun h98 => ?_) (fun h98 => ?_)
          · first | replace h98 := of_decide_eq_true h98 | replace h98 := of_decide_eq_false (notT h98) | replace h98 := notT h98 | skip
            obtain ⟨c, hc⟩ : ∃ c, cs[i]? = some c := ⟨_, List.getElem?_eq_getElem (by omega)⟩
            have huc : (cs.map Value.bool)[i]? = some (.bool c) := by rw [List.getElem?_map, hc]; rfl
            obtain ⟨g2, o2, c', hv, hg2⟩ := hC_.some_ (by omega)
            injection hv with e1 _ e3
            subst e1 e3
            refine gY (g := 98) rfl rfl rfl ?_
            refine sm rfl rfl ?_
            refine gY (g := 98) rfl rfl rfl ?_
            refine sm rfl rfl ?_
            refine gY (g := 98) rfl rfl rfl ?_
            refine st (X.idxA rfl rfl Tryz.underlying56 siz4 rfl (by omega)) rfl ?_
            refine gY (g := 98) rfl rfl rfl ?_
            refine st (X.ld rfl Tryz.underlying4 rfl (by rw [Nat.mul_one]; exact (hC_.bel hbw).cellAt (by omega) huc)) rfl ?_
            refine st (X.pickT rfl rfl) rfl ?_
            refine Wn ?_
            refine tN ?_
            refine W_if rfl (fun h103 => ?_) (fun h103 => ?_)
            · first | replace h103 := of_decide_eq_true h103 | replace h103 := of_decide_eq_false (notT h103) | replace h103 := notT h103 | skip
              refine W_seq ?_
              refine W_rs ?_
              have hfit2 := jo_comF hfit1 (by omega) (by omega) (by omega)
              obtain ⟨F2, hFq⟩ : ∃ F2, F1 ++ sealM 5 (four ((i + 1 : Nat) : Int)) = F2 := ⟨_, rfl⟩
              have hF2 : F2.length ≤ (i + 1) * 400 := by rw [← hFq, List.length_append]; omega
              have hF2m : F2.length ≤ 1048576 := by omega
              have hdl2 : (d ++ [x]).length ≤ i + 1 := by rw [List.length_append]; simp; omega
              have hdm : (d ++ [x]).length ≤ 1000000000 := by omega
              rw [hFq] at hfit2
              refine sm rfl rfl ?_
              refine sm rfl rfl ?_
              have hI := Commit_any w.heap.size gd gj (jd F1) (jo d (i + 1 + 1) (i + 1) x) v S w10 hj ((i + 1 : Nat) : Int) 1 (jd_good (by omega)) (by omega) (by show d.length ≤ _; omega)
              rw [jo_com hfit1 (by omega) (by omega) (by omega), hFq] at hI
              simp only at hI
              refine sc _ Tryz.func20 rfl (by kernel_rfl) rfl rfl ((hI).mono ?_)
              rintro e_ w11 ⟨rfl, hP1⟩
              refine cR ?_
              obtain ⟨v, S, hj', hW', hWS', hX⟩ := JPost.apart hP1 hW hWS
              have hbw' := hj.below hbw hX
              have hz_w11 := hX.size
              clear hj hW hWS hX hI hbw hP1
              have hj := hj'
              have hW := hW'
              have hWS := hWS'
              have hbw := hbw'
              clear hj' hW' hWS' hbw'
              refine st (X.neq rfl rfl) rfl ?_
              refine Wn ?_
              refine tN ?_
              refine W_no rfl (rfl) ?_
              refine W_skip ?_
              refine tN ?_
              refine W_reg ?_
              refine sm rfl rfl ?_
              refine sm rfl rfl ?_
              refine sm rfl rfl ?_
              refine st (X.idxA rfl rfl Tryz.underlying42 siz9 rfl (by omega)) rfl ?_
              refine st (X.ld rfl Tryz.underlying9 rfl (by rw [Nat.mul_one]; exact (hL.bel hbw).cellAt (by omega) hux)) rfl ?_
              refine sbs1 rfl Tryz.underlying42 inf9 rfl rfl (by decide) (by decide) rfl (fun g113 w12 hR113 hg113 hb => ?_)
              replace hbw := bthen hbw hb
              replace hj := hj.bel hb
              replace hW := hW.bel hb
              have hz_w12 := hb.size
              clear hb
              have hl113 := hR113.blt (by decide)
              refine sapp rfl rfl Tryz.underlying42 inf9 rfl (by decide) hW (hR113.src Tryz.underlying42 (by intro u hu; rw [show u = str x by simpa [Value.cells, str] using hu]; rfl)) (by simp only [maxLen]; omega) (by omega) rfl (fun v' w13 hR2 hC2 hv => ?_)
              have hz_w13 := hC2.size
              have hj' := hj.other hC2 (fun k hk => (hWS k hk).2)
              have hWS' : ∀ k, v'.ownBlock = some k → w.heap.size ≤ k ∧ ¬ S k ∧ ¬ k = gj ∧ ¬ v.ownBlock = some k := fun k hk => by
                rcases hv with hv | hv
                · exact hWS k (hv ▸ hk)
                · rw [hv] at hk
                  injection hk with hk
                  subst hk
                  have h2 := hj.blk.lt
                  refine ⟨by omega, fun e => ?_, by omega, fun e => ?_⟩
                  · have := (hj.jf.own.lo _ e).2; omega
                  · have := hj.row.lt _ e; omega
              have hbw' := bchg hbw hC2 (fun k hk => (hWS k hk).1)
              have hW' : Row w13 9 1 v' (d ++ [x]).length ((d ++ [x]).map str) := by simpa [str, Value.cells] using hR2
              clear hj hW hWS hbw hC2 hR2
              have hj := hj'
              have hW := hW'
              have hWS := hWS'
              have hbw := hbw'
              clear hj' hW' hWS' hbw'
              refine sa rfl rfl ?_
              refine Wn ?_
              refine tN ?_
              refine W_rs ?_
              refine sm rfl rfl ?_
              refine sm rfl rfl ?_
              have hI := Commit_any w.heap.size gd gj _ _ v S w13 hj ((i + 1 : Nat) : Int) 1 (jd_good hF2m) (by omega) hdm
              rw [jo_com0 (by omega)] at hI
              simp only at hI
              refine sc _ Tryz.func20 rfl (by kernel_rfl) rfl rfl ((hI).mono ?_)
              rintro e_ w14 ⟨rfl, hP1⟩
              refine cR ?_
              obtain ⟨v, S, hj', hW', hWS', hX⟩ := JPost.apart hP1 hW hWS
              have hbw' := hj.below hbw hX
              have hz_w14 := hX.size
              clear hj hW hWS hX hI hbw hP1
              have hj := hj'
              have hW := hW'
              have hWS := hWS'
              have hbw := hbw'
              clear hj' hW' hWS' hbw'
              refine st (X.neq rfl rfl) rfl ?_
              refine sbN rfl (rfl) rfl ?_
              refine gY (g := 123) rfl rfl rfl ?_
              refine sm rfl rfl ?_
              refine gY (g := 123) rfl rfl rfl ?_
              refine sm rfl rfl ?_
              have hI := jabort_any w.heap.size gd gj _ _ v S w14 ((i + 1 : Nat) : Int) hj
              rw [jo_ab0 (by omega)] at hI
              simp only at hI
              refine gY (g := 123) rfl rfl rfl ?_
              refine sc _ Tryz.func29 rfl (by kernel_rfl) rfl rfl ((hI).mono ?_)
              rintro e_ w15 ⟨rfl, hP1⟩
              refine cR ?_
              obtain ⟨v, S, hj', hW', hWS', hX⟩ := JPost.apart hP1 hW hWS
              have hbw' := hj.below hbw hX
              have hz_w15 := hX.size
              clear hj hW hWS hX hI hbw hP1
              have hj := hj'
              have hW := hW'
              have hWS := hWS'
              have hbw := hbw'
              clear hj' hW' hWS' hbw'
              refine gY (g := 123) rfl rfl rfl ?_
              refine st (X.neq rfl rfl) rfl ?_
              refine st (X.pickF rfl rfl) rfl ?_
              refine Wn ?_
              refine tN ?_
              refine W_no rfl (rfl) ?_
              refine W_skip ?_
              refine bN ?_
              refine tN ?_
              refine W_reg ?_
              refine sm rfl rfl ?_
              refine st (X.add64 rfl rfl (by omega)) rfl ?_
              refine sa rfl rfl ?_
              refine Wn ?_
              refine tN ⟨_, _, ?_, ⟨i + 1, _, _, _, _, _, rfl, rfl, hj, hfit2, by omega, hF2, hW, hWS, hdl2, hbw⟩, ⟨rfl, rfl, rfl, rfl, rfl, rfl, rfl, trivial⟩⟩
              omega
            · first | replace h103 := of_decide_eq_false h103 | replace h103 := of_decide_eq_true (notF h103) | replace h103 := notF h103 | skip
              refine W_rs ?_
              have hfit2 : FitJ F1 (jo d (i + 1 + 1) 0 []) := hfit1.abort
              have hF2 : F1.length ≤ (i + 1) * 400 := by omega
              have hF2m : F1.length ≤ 1048576 := by omega
              have hdl2 : d.length ≤ i + 1 := by omega
              have hdm : d.length ≤ 1000000000 := by omega
              refine sm rfl rfl ?_
              refine sm rfl rfl ?_
              have hI := jabort_any w.heap.size gd gj (jd F1) (jo d (i + 1 + 1) (i + 1) x) v S w10 ((i + 1 : Nat) : Int) hj
              rw [jo_ab (by omega)] at hI
              simp only at hI
              refine sc _ Tryz.func29 rfl (by kernel_rfl) rfl rfl ((hI).mono ?_)
              rintro e_ w16 ⟨rfl, hP1⟩
              refine cR ?_
              obtain ⟨v, S, hj', hW', hWS', hX⟩ := JPost.apart hP1 hW hWS
              have hbw' := hj.below hbw hX
              have hz_w16 := hX.size
              clear hj hW hWS hX hI hbw hP1
              have hj := hj'
              have hW := hW'
              have hWS := hWS'
              have hbw := hbw'
              clear hj' hW' hWS' hbw'
              refine st (X.neq rfl rfl) rfl ?_
              refine Wn ?_
              refine tN ?_
              refine W_no rfl (rfl) ?_
              refine W_skip ?_
              refine tN ?_
              refine W_rs ?_
              refine sm rfl rfl ?_
              refine sm rfl rfl ?_
              have hI := Commit_any w.heap.size gd gj _ _ v S w16 hj ((i + 1 : Nat) : Int) 1 (jd_good hF2m) (by omega) hdm
              rw [jo_com0 (by omega)] at hI
              simp only at hI
              refine sc _ Tryz.func20 rfl (by kernel_rfl) rfl rfl ((hI).mono ?_)
              rintro e_ w17 ⟨rfl, hP1⟩
              refine cR ?_
              obtain ⟨v, S, hj', hW', hWS', hX⟩ := JPost.apart hP1 hW hWS
              have hbw' := hj.below hbw hX
              have hz_w17 := hX.size
              clear hj hW hWS hX hI hbw hP1
              have hj := hj'
              have hW := hW'
              have hWS := hWS'
              have hbw := hbw'
              clear hj' hW' hWS' hbw'
              refine st (X.neq rfl rfl) rfl ?_
              refine sbN rfl (rfl) rfl ?_
              refine gY (g := 123) rfl rfl rfl ?_
              refine sm rfl rfl ?_
              refine gY (g := 123) rfl rfl rfl ?_
              refine sm rfl rfl ?_
              have hI := jabort_any w.heap.size gd gj _ _ v S w17 ((i + 1 : Nat) : Int) hj
              rw [jo_ab0 (by omega)] at hI
              simp only at hI
              refine gY (g := 123) rfl rfl rfl ?_
              refine sc _ Tryz.func29 rfl (by kernel_rfl) rfl rfl ((hI).mono ?_)
              rintro e_ w18 ⟨rfl, hP1⟩
              refine cR ?_
              obtain ⟨v, S, hj', hW', hWS', hX⟩ := JPost.apart hP1 hW hWS
              have hbw' := hj.below hbw hX
              have hz_w18 := hX.size
              clear hj hW hWS hX hI hbw hP1
              have hj := hj'
              have hW := hW'
              have hWS := hWS'
              have hbw := hbw'
              clear hj' hW' hWS' hbw'
              refine gY (g := 123) rfl rfl rfl ?_
              refine st (X.neq rfl rfl) rfl ?_
              refine st (X.pickF rfl rfl) rfl ?_
              refine Wn ?_
              refine tN ?_
              refine W_no rfl (rfl) ?_
              refine W_skip ?_
              refine bN ?_
              refine tN ?_
              refine W_reg ?_
              refine sm rfl rfl ?_
              refine st (X.add64 rfl rfl (by omega)) rfl ?_
              refine sa rfl rfl ?_
              refine Wn ?_
              refine tN ⟨_, _, ?_, ⟨i + 1, _, _, _, _, _, rfl, rfl, hj, hfit2, by omega, hF2, hW, hWS, hdl2, hbw⟩, ⟨rfl, rfl, rfl, rfl, rfl, rfl, rfl, trivial⟩⟩
              omega
          · first | replace h98 := of_decide_eq_false h98 | replace h98 := of_decide_eq_true (notF h98) | replace h98 := notF h98 | skip
            refine gN (g := 98) rfl rfl rfl rfl ?_
            refine gN (g := 98) rfl rfl rfl rfl ?_
            refine gN (g := 98) rfl rfl rfl rfl ?_
            refine gN (g := 98) rfl rfl rfl rfl ?_
            refine st (X.pickF rfl rfl) rfl ?_
            refine Wn ?_
            refine tN ?_
            refine W_no rfl (rfl) ?_
            refine W_rs ?_
            have hfit2 : FitJ F1 (jo d (i + 1 + 1) 0 []) := hfit1.abort
            have hF2 : F1.length ≤ (i + 1) * 400 := by omega
            have hF2m : F1.length ≤ 1048576 := by omega
            have hdl2 : d.length ≤ i + 1 := by omega
            have hdm : d.length ≤ 1000000000 := by omega
            refine sm rfl rfl ?_
            refine sm rfl rfl ?_
            have hI := jabort_any w.heap.size gd gj (jd F1) (jo d (i + 1 + 1) (i + 1) x) v S w10 ((i + 1 : Nat) : Int) hj
            rw [jo_ab (by omega)] at hI
            simp only at hI
            refine sc _ Tryz.func29 rfl (by kernel_rfl) rfl rfl ((hI).mono ?_)
            rintro e_ w19 ⟨rfl, hP1⟩
            refine cR ?_
            obtain ⟨v, S, hj', hW', hWS', hX⟩ := JPost.apart hP1 hW hWS
            have hbw' := hj.below hbw hX
            have hz_w19 := hX.size
            clear hj hW hWS hX hI hbw hP1
            have hj := hj'
            have hW := hW'
            have hWS := hWS'
            have hbw := hbw'
            clear hj' hW' hWS' hbw'
            refine st (X.neq rfl rfl) rfl ?_
            refine Wn ?_
            refine tN ?_
            refine W_no rfl (rfl) ?_
            refine W_skip ?_
            refine tN ?_
            refine W_rs ?_
            refine sm rfl rfl ?_
            refine sm rfl rfl ?_
            have hI := Commit_any w.heap.size gd gj _ _ v S w19 hj ((i + 1 : Nat) : Int) 1 (jd_good hF2m) (by omega) hdm
            rw [jo_com0 (by omega)] at hI
            simp only at hI
            refine sc _ Tryz.func20 rfl (by kernel_rfl) rfl rfl ((hI).mono ?_)
            rintro e_ w20 ⟨rfl, hP1⟩
            refine cR ?_
            obtain ⟨v, S, hj', hW', hWS', hX⟩ := JPost.apart hP1 hW hWS
            have hbw' := hj.below hbw hX
            have hz_w20 := hX.size
            clear hj hW hWS hX hI hbw hP1
            have hj := hj'
            have hW := hW'
            have hWS := hWS'
            have hbw := hbw'
            clear hj' hW' hWS' hbw'
            refine st (X.neq rfl rfl) rfl ?_
            refine sbN rfl (rfl) rfl ?_
            refine gY (g := 123) rfl rfl rfl ?_
            refine sm rfl rfl ?_
            refine gY (g := 123) rfl rfl rfl ?_
            refine sm rfl rfl ?_
            have hI := jabort_any w.heap.size gd gj _ _ v S w20 ((i + 1 : Nat) : Int) hj
            rw [jo_ab0 (by omega)] at hI
            simp only at hI
            refine gY (g := 123) rfl rfl rfl ?_
            refine sc _ Tryz.func29 rfl (by kernel_rfl) rfl rfl ((hI).mono ?_)
            rintro e_ w21 ⟨rfl, hP1⟩
            refine cR ?_
            obtain ⟨v, S, hj', hW', hWS', hX⟩ := JPost.apart hP1 hW hWS
            have hbw' := hj.below hbw hX
            have hz_w21 := hX.size
            clear hj hW hWS hX hI hbw hP1
            have hj := hj'
            have hW := hW'
            have hWS := hWS'
            have hbw := hbw'
            clear hj' hW' hWS' hbw'
            refine gY (g := 123) rfl rfl rfl ?_
            refine st (X.neq rfl rfl) rfl ?_
            refine st (X.pickF rfl rfl) rfl ?_
            refine Wn ?_
            refine tN ?_
            refine W_no rfl (rfl) ?_
            refine W_skip ?_
            refine bN ?_
            refine tN ?_
            refine W_reg ?_
            refine sm rfl rfl ?_
            refine st (X.add64 rfl rfl (by omega)) rfl ?_
            refine sa rfl rfl ?_
            refine Wn ?_
            refine tN ⟨_, _, ?_, ⟨i + 1, _, _, _, _, _, rfl, rfl, hj, hfit2, by omega, hF2, hW, hWS, hdl2, hbw⟩, ⟨rfl, rfl, rfl, rfl, rfl, rfl, rfl, trivial⟩⟩
            omega
      · first | replace h46 := of_decide_eq_false h46 | replace h46 := of_decide_eq_true (notF h46) | replace h46 := notF h46 | skip
        refine W_exit (tE (tE (bH ?_)))
        refine tN ?_
        refine W_rs ?_
        refine sm rfl rfl ?_
        refine sm rfl rfl ?_
        have hg0 := jd_good (F := F) (by omega)
        have hcr := Crash_any gd (jd F) S _ ps w5 hj.jf.own.at_ hg0.ok (hg0.bud (by omega)) (by have := hg0.few; omega) (hP_0.bel hbw) (fun h0 k hk hs => by have := hP_0.ownLt h0 hk; have := (hj.jf.own.lo k hs).1; omega)
        rw [crash_jd] at hcr
        refine sc _ Tryz.func23 rfl (by kernel_rfl) rfl rfl ((hcr).mono ?_)
        rintro e_ w22 ⟨rfl, h1, hX⟩
        refine cR ?_
        obtain ⟨S, hj', hW', hWS'⟩ := jcrash hj hbw.size h1 hX hW hWS
        have hbw' := bchg hbw hX (fun k hk => (hj.jf.own.lo k hk).1)
        have hz_w22 := hX.size
        clear hj hW hWS hX hcr hbw h1
        have hj := hj'
        have hW := hW'
        have hWS := hWS'
        have hbw := hbw'
        clear hj' hW' hWS' hbw'
        refine Wn ?_
        refine tN ?_
        refine W_rs ?_
        refine sm rfl rfl ?_
        have hO := Open_any w.heap.size gd (jd F) S 1 w22 hj.jf.own hbw.size hg0 (by omega)
        rw [open_jd hfit] at hO
        refine sc _ Tryz.func18 rfl (by kernel_rfl) rfl rfl ((hO).mono ?_)
        rintro e_ w23 ⟨S3, hd3, hS3, hX, gk, vk, rfl, hk, hgk, hvk⟩
        refine cR ?_
        have hj' := hj.open_ hd3 hS3 hX
        have hW' := hW.chg hX (fun k hk => (hWS k hk).2.1)
        have hbw' := bchg hbw hX (fun k hk => (hj.jf.own.lo k hk).1)
        have hz_w23 := hX.size
        clear hj hW hWS hX hO hbw
        have hj := hj'
        have hW := hW'
        have hbw := hbw'
        clear hj' hW' hbw'
        refine sm rfl rfl ?_
        refine st (X.ext rfl rfl) rfl ?_
        refine st (X.ext rfl rfl) rfl ?_
        refine sa rfl rfl ?_
        refine sa rfl rfl ?_
        refine Wn ?_
        refine tN ?_
        refine W_rs ?_
        refine sm rfl rfl ?_
        refine st (X.eql rfl rfl) rfl ?_
        refine sbY rfl (rfl) rfl ?_
        refine gY (g := 139) rfl rfl rfl ?_
        refine sm rfl rfl ?_
        refine gY (g := 139) rfl rfl rfl ?_
        refine st (X.jNe rfl) rfl ?_
        refine st (X.pickT rfl rfl) rfl ?_
        refine sbY rfl (rfl) rfl ?_
        refine gY (g := 143) rfl rfl rfl ?_
        refine sm rfl rfl ?_
        refine gY (g := 143) rfl rfl rfl ?_
        refine sc _ Tryz.func26 rfl (by kernel_rfl) rfl rfl ((Done_any w.heap.size gd gj _ _ v S3 _ hj (by show d.length ≤ _; omega)).mono ?_)
        rintro e_ w24 ⟨va, rfl, hRa, hOa, hb⟩
        refine cR ?_
        replace hbw := bthen hbw hb
        replace hj := hj.bel hb
        replace hW := hW.bel hb
        replace hk := hk.bel hb
        have hz_w24 := hb.size
        clear hb
        refine gY (g := 143) rfl rfl rfl ?_
        refine sm rfl rfl ?_
        refine gY (g := 143) rfl rfl rfl ?_
        refine sc _ Tryz.func30 rfl (by kernel_rfl) rfl rfl ((Same16_any va vw d d _ hRa.reads hW.reads).mono ?_)
        rintro e_ w25 ⟨rfl, hb⟩
        refine cR ?_
        replace hbw := bthen hbw hb
        replace hj := hj.bel hb
        replace hW := hW.bel hb
        replace hk := hk.bel hb
        replace hRa := hRa.bel hb
        have hz_w25 := hb.size
        clear hb
        refine st (X.pickT rfl rfl) rfl ?_
        refine sbY rfl (decide_eq_true rfl) rfl ?_
        refine gY (g := 149) rfl rfl rfl ?_
        refine sm rfl rfl ?_
        refine gY (g := 149) rfl rfl rfl ?_
        refine sc _ Tryz.func26 rfl (by kernel_rfl) rfl rfl ((Done_any w.heap.size gd gk _ _ vk S3 _ hk (by show d.length ≤ _; omega)).mono ?_)
        rintro e_ w26 ⟨vb, rfl, hRb, hOb, hb⟩
        refine cR ?_
        replace hbw := bthen hbw hb
        replace hj := hj.bel hb
        replace hW := hW.bel hb
        replace hk := hk.bel hb
        replace hRa := hRa.bel hb
        have hz_w26 := hb.size
        clear hb
        refine gY (g := 149) rfl rfl rfl ?_
        refine sm rfl rfl ?_
        refine gY (g := 149) rfl rfl rfl ?_
        refine sc _ Tryz.func30 rfl (by kernel_rfl) rfl rfl ((Same16_any vb vw d d _ hRb.reads hW.reads).mono ?_)
        rintro e_ w27 ⟨rfl, hb⟩
        refine cR ?_
        replace hbw := bthen hbw hb
        replace hj := hj.bel hb
        replace hW := hW.bel hb
        replace hk := hk.bel hb
        replace hRa := hRa.bel hb
        replace hRb := hRb.bel hb
        have hz_w27 := hb.size
        clear hb
        refine st (X.pickT rfl rfl) rfl ?_
        refine sbY rfl (decide_eq_true rfl) rfl ?_
        refine gY (g := 155) rfl rfl rfl ?_
        refine sm rfl rfl ?_
        refine gY (g := 155) rfl rfl rfl ?_
        refine sc _ Tryz.func27 rfl (by kernel_rfl) rfl rfl ((Next_j w.heap.size gd gk _ _ vk S3 _ hk).mono ?_)
        rintro e_ w_ ⟨rfl, rfl⟩
        refine cR ?_
        refine gY (g := 155) rfl rfl rfl ?_
        refine sm rfl rfl ?_
        refine gY (g := 155) rfl rfl rfl ?_
        refine st (X.lenL rfl rfl Tryz.underlying42) rfl ?_
        refine gY (g := 155) rfl rfl rfl ?_
        refine st (X.add64 rfl rfl (by omega)) rfl ?_
        refine gY (g := 155) rfl rfl rfl ?_
        refine st (X.eql rfl rfl) rfl ?_
        refine st (X.pickT rfl rfl) rfl ?_
        refine sbY rfl (decide_eq_true (by show ((i + 1 : Nat) : Int) = _; omega)) rfl ?_
        refine gY (g := 163) rfl rfl rfl ?_
        refine sc _ Tryz.func17 rfl (by kernel_rfl) rfl rfl ((awake16_any _).mono ?_)
        rintro e_ w28 ⟨rfl, hb⟩
        refine cR ?_
        replace hbw := bthen hbw hb
        replace hj := hj.bel hb
        replace hW := hW.bel hb
        replace hk := hk.bel hb
        replace hRa := hRa.bel hb
        replace hRb := hRb.bel hb
        have hz_w28 := hb.size
        clear hb
        refine st (X.pickT rfl rfl) rfl ?_
        refine sa rfl rfl ?_
        refine Wn ?_
        refine tN ?_
        refine W_ret ?_
        exact (rT rfl rfl ⟨rfl, hbw⟩).1
end Go.Proofs.YtnijmegalgoipaaGreatDoor
