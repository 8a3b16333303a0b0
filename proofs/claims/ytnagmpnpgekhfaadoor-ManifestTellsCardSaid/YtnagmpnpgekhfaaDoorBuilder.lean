/- strings.Builder: a builder of the call's own, by my own words. -/
import Derived.Test.YtnagmpnpgekhfaaDoorAppend0
import Derived.Test.YtnagmpnpgekhfaaDoorTypes
import Derived.Lib.Builder
import Derived.Lib.UnsafeStr
namespace Go.Proofs.YtnagmpnpgekhfaaDoor
open Go.RowKit
/- ---------- a frame by the blocks' types ---------- -/
def KeepsT (ts : List TypeId) (w w' : World) : Prop := ∀ (k : Nat) (cs : Array Value) (t : TypeId) (fz : Nat × Nat), w.heap[k]? = some (.cells cs t fz) → t ∉ ts → w'.heap[k]? = w.heap[k]?
section
variable {ts : List TypeId} {w w' w'' : World}
theorem KeepsT.refl (ts : List TypeId) (w : World) : KeepsT ts w w := fun _ _ _ _ _ _ => rfl
theorem KeepsT.trans (h : KeepsT ts w w') (h' : KeepsT ts w' w'') : KeepsT ts w w'' := fun k cs t fz hk ht => by
  have h1 := h k cs t fz hk ht
  rw [← h1]
  exact h' k cs t fz (h1.trans hk) ht
theorem KeepsT.of_below (h : Below w.heap.size w w') : KeepsT ts w w' := fun k _ _ _ hk _ => h.block k (Array.getElem?_eq_some_iff.1 hk).1
theorem KeepsT.below (h : KeepsT ts w w') (hb : Below w'.heap.size w' w'') : KeepsT ts w w'' := h.trans (KeepsT.of_below hb)
theorem KeepsT.blk (h : KeepsT ts w w') {g : Nat} {t : TypeId} {cs : Array Value} (hB : Blk w g t cs) (ht : t ∉ ts) : Blk w' g t cs := (h g cs t (0, 0) hB ht).trans hB
theorem KeepsT.row (h : KeepsT ts w w') {e : TypeId} {size n : Nat} {v : Value} {xs : List Value} (hR : Row w e size v n xs) (ht : e ∉ ts) : Row w' e size v n xs := hR.keep fun k hk => by
  rcases hR.2 with ⟨rfl, _⟩ | ⟨g, off, cap, cur, fz, rfl, hg, _⟩
  · simp [Value.ownBlock] at hk
  · simp [Value.ownBlock] at hk
    subst hk
    exact h g cur e fz hg ht
theorem KeepsT.of_chgB {g : Nat} {t : TypeId} {cs : Array Value} (hc : Chg (fun k => k = g) w w') (hB : Blk w g t cs) (ht : t ∈ ts) : KeepsT ts w w' := fun k cs' t' fz hk hn => by
  refine hc.block k (Array.getElem?_eq_some_iff.1 hk).1 (fun e => ?_)
  subst e
  unfold Blk at hB
  rw [hB] at hk
  injection hk with hk
  injection hk with _ ht'
  subst ht'
  exact hn ht
theorem KeepsT.of_chgR {e : TypeId} {size n : Nat} {v : Value} {xs : List Value} (hc : Chg (fun k => v.ownBlock = some k) w w') (hR : Row w e size v n xs) (ht : e ∈ ts) : KeepsT ts w w' := fun k cs' t' fz hk hn => by
  refine hc.block k (Array.getElem?_eq_some_iff.1 hk).1 (fun he => ?_)
  rcases hR.2 with ⟨rfl, _⟩ | ⟨g, off, cap, cur, fz', rfl, hg, _⟩
  · simp [Value.ownBlock] at he
  · simp [Value.ownBlock] at he
    subst he
    rw [hg] at hk
    injection hk with hk
    injection hk with _ ht'
    subst ht'
    exact hn ht
end
/- ---------- the builder ---------- -/
/-- a builder at block b that holds the bytes l; all its blocks are from B on -/
def BldAt (w : World) (b B : Nat) (l : List UInt8) : Prop :=
  ∃ p v, Blk w b 74 #[.pointer p, v] ∧ (p = none ∨ p = some ⟨b, 0, none⟩) ∧ Row w 5 1 v l.length (l.map bv) ∧ B ≤ b ∧ (∀ k, v.ownBlock = some k → B ≤ k) ∧ Off0 v
theorem BldAt.bel {w w' : World} {b B : Nat} {l : List UInt8} (h : BldAt w b B l) (hb : Below w.heap.size w w') : BldAt w' b B l := by
  obtain ⟨p, v, h1, h2, h3, h4, h5, h6⟩ := h
  exact ⟨p, v, h1.bel hb, h2, h3.bel hb, h4, h5, h6⟩
theorem BldAt.lt {w : World} {b B : Nat} {l : List UInt8} (h : BldAt w b B l) : b < w.heap.size := by
  obtain ⟨p, v, h1, _⟩ := h
  exact h1.lt
/-- a block of another type is turned -/
theorem BldAt.chgB {w w' : World} {b B g : Nat} {l : List UInt8} {t : TypeId} {cs : Array Value} (h : BldAt w b B l) (hc : Chg (fun k => k = g) w w') (hB : Blk w g t cs) (n1 : 74 ≠ t) (n2 : 5 ≠ t) : BldAt w' b B l := by
  obtain ⟨p, v, h1, h2, h3, h4, h5, h6⟩ := h
  exact ⟨p, v, h1.chg hc (h1.ne_ hB n1), h2, h3.chg hc (fun k hk e => h3.ne_ hB n2 (by rw [← e]; exact hk)), h4, h5, h6⟩
theorem BldAt.new {w : World} {b B : Nat} (h : Blk w b 74 #[.pointer none, .slice none 0 0]) (hb : B ≤ b) : BldAt w b B [] :=
  ⟨none, .slice none 0 0, h, .inl rfl, Row.nil _ _ _, hb, fun k hk => by simp [Value.ownBlock] at hk, Off0.nil _ _⟩
theorem noEscape_run (a : Option Addr) (w : World) : (callFunc 53 #[.pointer a]).run Tryd.prog w = .ok (.value (.pointer a)) w := by kernel_rfl
theorem eqNilPtr0 (w : World) : (binOp .eql 72 (.pointer none) (.pointer none)).run Tryd.prog w = .ok (.bool true) w := by kernel_rfl
theorem eqNilPtr1 (a : Addr) (w : World) : (binOp .eql 72 (.pointer (some a)) (.pointer none)).run Tryd.prog w = .ok (.bool false) w := by kernel_rfl
theorem Row.one_ {w : World} {e : TypeId} {size n : Nat} {v : Value} {xs : List Value} (h : Row w e size v n xs) : v.oneCell' = true := by
  obtain ⟨a, c, rfl, _, _⟩ := h.shape
  rfl
theorem Reads.chgN {w w' : World} {size n g : Nat} {v : Value} {xs : List Value} (h : Reads w size v n xs) (hc : Chg (fun k => k = g) w w') (hn : ∀ k, v.ownBlock = some k → k ≠ g) : Reads w' size v n xs := by
  obtain ⟨h1, a, cap, rfl, h3, h4, h5⟩ := h
  refine ⟨h1, a, cap, rfl, h3, h4, fun h0 => ?_⟩
  obtain ⟨g', off, rfl, hg, hcl⟩ := h5 h0
  have := hc.size
  exact ⟨g', off, rfl, by omega, fun j u hu => (hc.cell (p := ⟨g', off + j, none⟩) hg (hn g' (by simp [Value.ownBlock]))).trans (hcl j u hu)⟩
theorem X.convR {P : Program} {l : Env} {x : Operand} {src dst ty : TypeId} {w : World} {a v : Value} (hx : ev l x = some a) (hr : (convert src dst a).run P w = .ok v w) : X P l (.convert src dst x) ty w v w := fun ρ hρ => by
  unfold execOp
  simp only [hρ _ _ hx, Sem.run_bind, hr, Result.andThen_ok, Sem.run_pure]
theorem guard_ptr {P : Program} {t : TypeId} {w : World} {o : BinOp} {a b : Option Addr} (c d : Operand) : (eqGuard o t c d (.pointer a) (.pointer b)).run P w = .ok () w := by
  unfold eqGuard
  cases o <;> simp
theorem Blk.shape_ {w : World} {g : Nat} {t : TypeId} {cs : Array Value} (h : Blk w g t cs) : w.shape? g = some (t, cs.size) := by
  unfold Blk at h
  simp [World.shape?, h]
theorem bld_lies : liesAt Tryd.prog Tryd.prog.depth 74 (2 / Tryd.prog.cellsOf 74) 0 74 1 = true := by kernel_rfl
theorem to_unsafe {w : World} {b : Nat} {cs : Array Value} (hB : Blk w b 74 cs) (hs : 0 < cs.size) : (convert 72 112 (.pointer (some ⟨b, 0, none⟩))).run Tryd.prog w = .ok (.pointer (some ⟨b, 0, none⟩)) w := by
  obtain ⟨j, hj, hz, hsz, _⟩ := info_of inf74
  exact Lib.run_to_unsafe w ⟨b, 0, none⟩ Tryd.underlying72 Tryd.underlying112 hj (by omega) hB.shape_ hs
theorem from_unsafe {w : World} {b : Nat} {x y : Value} (hB : Blk w b 74 #[x, y]) : (convert 112 72 (.pointer (some ⟨b, 0, none⟩))).run Tryd.prog w = .ok (.pointer (some ⟨b, 0, none⟩)) w := by
  obtain ⟨j, hj, hz, hsz, _⟩ := info_of inf74
  exact Lib.run_from_unsafe w ⟨b, 0, none⟩ Tryd.underlying112 Tryd.underlying72 hj hB.shape_ bld_lies
theorem copyCheck0 (b : Nat) (v : Value) (w : World) (hB : Blk w b 74 #[.pointer none, v]) :
    Calls Tryd.prog 45 #[.pointer (some ⟨b, 0, none⟩)] w fun e w' => e = .returned (.tuple #[]) ∧ Blk w' b 74 #[.pointer (some ⟨b, 0, none⟩), v] ∧ Chg (fun k => k = b) w w' := by
  refine W_enter (args := [.pointer (some ⟨b, 0, none⟩)]) 20 Tryd.func45 rfl rfl rfl ?_
  refine W_sub [(0, .pointer (some ⟨b, 0, none⟩))] ?_ ⟨rfl, trivial⟩
  refine W_rs ?_
  refine sm rfl rfl ?_
  refine st (X.nilChk rfl) rfl ?_
  refine st (X.fa fa74_0 rfl) rfl ?_
  refine st (X.ldL rfl hB Tryd.underlying72 rfl rfl) rfl ?_
  refine st (X.bin rfl rfl guard_ptr (eqNilPtr0 _)) rfl ?_
  refine Wn ?_
  refine tN ?_
  refine W_yes rfl (rfl) ?_
  refine W_reg ?_
  refine sm rfl rfl ?_
  refine sm rfl rfl ?_
  refine st (X.convR rfl (to_unsafe hB (by simp))) rfl ?_
  refine st (scx _ rfl (noEscape_run _ _)) rfl ?_
  refine st (X.convR rfl (from_unsafe hB)) rfl ?_
  refine st (X.nilChk rfl) rfl ?_
  refine st (X.fa fa74_0 rfl) rfl ?_
  refine ssB rfl rfl hB siz72 rfl (by simp) (fun w1 hB_ hC => ?_)
  refine Wn ?_
  exact (r0 rfl ⟨rfl, hB_, hC⟩).2
theorem copyCheck1 (b : Nat) (v : Value) (w : World) (hB : Blk w b 74 #[.pointer (some ⟨b, 0, none⟩), v]) :
    Calls Tryd.prog 45 #[.pointer (some ⟨b, 0, none⟩)] w fun e w' => e = .returned (.tuple #[]) ∧ Blk w' b 74 #[.pointer (some ⟨b, 0, none⟩), v] ∧ Chg (fun k => k = b) w w' := by
  obtain ⟨j, hj, _⟩ := info_of inf74
  have hne := fun w => Lib.run_neq_ptr_same (P := Tryd.prog) w (tp := 72) ⟨b, 0, none⟩ Tryd.underlying72 hj
  refine W_enter (args := [.pointer (some ⟨b, 0, none⟩)]) 20 Tryd.func45 rfl rfl rfl ?_
  refine W_sub [(0, .pointer (some ⟨b, 0, none⟩))] ?_ ⟨rfl, trivial⟩
  refine W_rs ?_
  refine sm rfl rfl ?_
  refine st (X.nilChk rfl) rfl ?_
  refine st (X.fa fa74_0 rfl) rfl ?_
  refine st (X.ldL rfl hB Tryd.underlying72 rfl rfl) rfl ?_
  refine st (X.bin rfl rfl guard_ptr (eqNilPtr1 _ _)) rfl ?_
  refine Wn ?_
  refine tN ?_
  refine W_no rfl (rfl) ?_
  refine W_rs ?_
  refine sm rfl rfl ?_
  refine st (X.nilChk rfl) rfl ?_
  refine st (X.fa fa74_0 rfl) rfl ?_
  refine st (X.ldL rfl hB Tryd.underlying72 rfl rfl) rfl ?_
  refine sm rfl rfl ?_
  refine st (X.bin rfl rfl guard_ptr (hne _)) rfl ?_
  refine Wn ?_
  refine tN ?_
  refine W_no rfl (rfl) ?_
  refine W_skip ?_
  exact (r0 rfl ⟨rfl, hB, Chg.refl _ _⟩).2
theorem copyCheck_any (b : Nat) (p : Option Addr) (v : Value) (w : World) (hp : p = none ∨ p = some ⟨b, 0, none⟩) (hB : Blk w b 74 #[.pointer p, v]) :
    Calls Tryd.prog 45 #[.pointer (some ⟨b, 0, none⟩)] w fun e w' => e = .returned (.tuple #[]) ∧ Blk w' b 74 #[.pointer (some ⟨b, 0, none⟩), v] ∧ Chg (fun k => k = b) w w' := by
  rcases hp with rfl | rfl
  · exact copyCheck0 b v w hB
  · exact copyCheck1 b v w hB
/-- what a write leaves -/
def Wrote (w : World) (b B : Nat) (l : List UInt8) (w' : World) : Prop := BldAt w' b B l ∧ Below B w w' ∧ KeepsT [74, 5] w w' ∧ w.heap.size ≤ w'.heap.size
/-- the three steps of a write: the check, the append, the store -/
theorem wrote {w w1 w2 w3 : World} {b B : Nat} {l m : List UInt8} {p : Option Addr} {v v' : Value} {n : Nat} {y z : Value} (hBw : B ≤ w.heap.size) (hB : Blk w b 74 #[.pointer p, v]) (hb : B ≤ b) (ho : ∀ k, v.ownBlock = some k → B ≤ k) (h0 : Off0 v)
    (hC1 : Chg (fun k => k = b) w w1) (hR1 : Row w1 5 1 v n (l.map bv)) (hC2 : Chg (fun k => v.ownBlock = some k) w1 w2) (hn : n + m.length = (l ++ m).length) (hR2 : Row w2 5 1 v' (n + m.length) (l.map bv ++ m.map bv)) (hv : v'.ownBlock = v.ownBlock ∨ v'.ownBlock = some w1.heap.size) (h00 : Off0 v → Off0 v')
    (hB2 : Blk w2 b 74 #[y, z]) (hC3 : Chg (fun k => k = b) w2 w3) (hB3 : Blk w3 b 74 #[.pointer (some ⟨b, 0, none⟩), v']) : Wrote w b B (l ++ m) w3 := by
  have z1 := hC1.size
  have z2 := hC2.size
  have z3 := hC3.size
  refine ⟨⟨_, v', hB3, .inr rfl, ?_, hb, own_next hv ho (by omega), h00 h0⟩, ?_, ?_, by omega⟩
  · rw [hn, ← List.map_append] at hR2
    exact hR2.chg hC3 (fun k hk e => hR2.ne_ hB2 (by decide) (by rw [← e]; exact hk))
  · exact ⟨hC3.os.trans (hC2.os.trans hC1.os), hC3.tape.trans (hC2.tape.trans hC1.tape), hC3.output.trans (hC2.output.trans hC1.output), by omega, fun k hk =>
      (hC3.block k (by omega) (by show ¬ _ = _; omega)).trans ((hC2.block k (by omega) (fun e => by have := ho k e; omega)).trans (hC1.block k (by omega) (by show ¬ _ = _; omega)))⟩
  · exact ((KeepsT.of_chgB hC1 hB (by decide)).trans (KeepsT.of_chgR hC2 hR1 (by decide))).trans (KeepsT.of_chgB hC3 hB2 (by decide))
theorem byteCells_list (m : List UInt8) : byteCells ⟨m.toArray⟩ = m.map bv := rfl
theorem strSrc {w : World} (m : List UInt8) : Src Tryd.prog 1 9 (str m) m.length (m.map bv) w := Src.ofString w Tryd.underlying9 ⟨m.toArray⟩
theorem WriteString_any (b B : Nat) (l m : List UInt8) (w : World) (h : BldAt w b B l) (hBw : B ≤ w.heap.size) (hlen : l.length + m.length ≤ 140737488355328) :
    Calls Tryd.prog 27 #[.pointer (some ⟨b, 0, none⟩), str m] w fun e w' => e = .returned (.tuple #[.int .i64 m.length, .nilIface]) ∧ Wrote w b B (l ++ m) w' := by
  obtain ⟨p, v, hB, hp, hR, hb, ho, h0⟩ := h
  have hB' := hB
  refine W_enter (args := [.pointer (some ⟨b, 0, none⟩), str m]) 19 Tryd.func27 rfl rfl rfl ?_
  refine W_sub [(0, .pointer (some ⟨b, 0, none⟩)), (1, str m)] ?_ ⟨rfl, rfl, trivial⟩
  refine W_rs ?_
  refine sa rfl rfl ?_
  refine sa rfl rfl ?_
  refine Wn ?_
  refine tN ?_
  refine W_rs ?_
  refine sm rfl rfl ?_
  refine sc _ Tryd.func45 rfl (by kernel_rfl) rfl rfl ((copyCheck_any b p v _ hp hB).mono ?_)
  clear hB
  rintro e_ w1 ⟨rfl, hB, hC1⟩
  refine cR ?_
  replace hR := hR.chg hC1 (fun k hk e => hR.ne_ hB' (by decide) (by rw [← e]; exact hk))
  refine Wn ?_
  refine tN ?_
  refine W_rs ?_
  refine sm rfl rfl ?_
  refine sm rfl rfl ?_
  refine st (X.nilChk rfl) rfl ?_
  refine st (X.fa fa74_1 rfl) rfl ?_
  refine st (X.ldL rfl hB Tryd.underlying58 rfl rfl) rfl ?_
  refine sm rfl rfl ?_
  refine sapp0 rfl rfl Tryd.underlying58 inf5 rfl (by decide) hR (strSrc m) (by simp only [maxLen]; omega) (by omega) rfl (fun v' w2 hR2 hC2 hv h00 => ?_)
  replace hB := hB.chg hC2 (hR.ne_ hB (by decide))
  refine st (X.nilChk rfl) rfl ?_
  refine st (X.fa fa74_1 rfl) rfl ?_
  refine ssB rfl rfl hB siz58 hR2.one_ (by simp) (fun w3 hB3 hC3 => ?_)
  refine Wn ?_
  refine tN ?_
  refine W_rs ?_
  refine sm rfl rfl ?_
  refine st (X.lenS rfl rfl Tryd.underlying9) rfl ?_
  refine sa rfl rfl ?_
  refine sa rfl rfl ?_
  refine Wn ?_
  refine tN ?_
  refine W_ret ?_
  exact (rTT rfl rfl rfl ⟨rfl, wrote hBw hB' hb ho h0 hC1 hR hC2 (by simp) hR2 hv h00 hB hC3 hB3⟩).1
theorem WriteByte_any (b B : Nat) (l : List UInt8) (c : UInt8) (w : World) (h : BldAt w b B l) (hBw : B ≤ w.heap.size) (hlen : l.length + 1 ≤ 140737488355328) :
    Calls Tryd.prog 28 #[.pointer (some ⟨b, 0, none⟩), .int .u8 c.toNat] w fun e w' => e = .returned .nilIface ∧ Wrote w b B (l ++ [c]) w' := by
  obtain ⟨p, v, hB, hp, hR, hb, ho, h0⟩ := h
  have hB' := hB
  refine W_enter (args := [.pointer (some ⟨b, 0, none⟩), .int .u8 c.toNat]) 17 Tryd.func28 rfl rfl rfl ?_
  refine W_sub [(0, .pointer (some ⟨b, 0, none⟩)), (1, .int .u8 c.toNat)] ?_ ⟨rfl, rfl, trivial⟩
  refine W_rs ?_
  refine sa rfl rfl ?_
  refine Wn ?_
  refine tN ?_
  refine W_rs ?_
  refine sm rfl rfl ?_
  refine sc _ Tryd.func45 rfl (by kernel_rfl) rfl rfl ((copyCheck_any b p v _ hp hB).mono ?_)
  clear hB
  rintro e_ w1 ⟨rfl, hB, hC1⟩
  refine cR ?_
  replace hR := hR.chg hC1 (fun k hk e => hR.ne_ hB' (by decide) (by rw [← e]; exact hk))
  refine Wn ?_
  refine tN ?_
  refine W_rs ?_
  refine sm rfl rfl ?_
  refine sm rfl rfl ?_
  refine st (X.nilChk rfl) rfl ?_
  refine st (X.fa fa74_1 rfl) rfl ?_
  refine st (X.ldL rfl hB Tryd.underlying58 rfl rfl) rfl ?_
  refine sm rfl rfl ?_
  refine sbs1 rfl Tryd.underlying58 inf5 rfl rfl (by decide) (by decide) rfl (fun g13 w2 hR13 hg13 hb13 => ?_)
  replace hB := hB.bel hb13
  replace hR := hR.bel hb13
  replace hC1 := hC1.then_below hb13
  refine sapp0 rfl rfl Tryd.underlying58 inf5 rfl (by decide) hR (hR13.src Tryd.underlying58 (bv_one [c])) (by simp only [maxLen]; omega) (by omega) rfl (fun v' w3 hR2 hC2 hv h00 => ?_)
  replace hB := hB.chg hC2 (hR.ne_ hB (by decide))
  refine st (X.nilChk rfl) rfl ?_
  refine st (X.fa fa74_1 rfl) rfl ?_
  refine ssB rfl rfl hB siz58 hR2.one_ (by simp) (fun w4 hB3 hC3 => ?_)
  refine Wn ?_
  refine tN ?_
  refine W_rs ?_
  refine sa rfl rfl ?_
  refine Wn ?_
  refine tN ?_
  refine W_ret ?_
  exact (rT rfl rfl ⟨rfl, wrote hBw hB' hb ho h0 hC1 hR hC2 (m := [c]) (by simp) hR2 hv h00 hB hC3 hB3⟩).1
theorem Write_any_ (b B : Nat) (l m : List UInt8) (u : Value) (w : World) (h : BldAt w b B l) (hu : Reads w 1 u m.length (m.map bv)) (hu2 : ∀ k, u.ownBlock = some k → k ≠ b) (hBw : B ≤ w.heap.size) (hlen : l.length + m.length ≤ 140737488355328) :
    Calls Tryd.prog 29 #[.pointer (some ⟨b, 0, none⟩), u] w fun e w' => e = .returned (.tuple #[.int .i64 m.length, .nilIface]) ∧ Wrote w b B (l ++ m) w' := by
  obtain ⟨p, v, hB, hp, hR, hb, ho, h0⟩ := h
  have hB' := hB
  obtain ⟨au, cu, rfl, hcu, hcu2⟩ := hu.shape
  refine W_enter (args := [.pointer (some ⟨b, 0, none⟩), .slice au m.length cu]) 19 Tryd.func29 rfl rfl rfl ?_
  refine W_sub [(0, .pointer (some ⟨b, 0, none⟩)), (1, .slice au m.length cu)] ?_ ⟨rfl, rfl, trivial⟩
  refine W_rs ?_
  refine sa rfl rfl ?_
  refine sa rfl rfl ?_
  refine Wn ?_
  refine tN ?_
  refine W_rs ?_
  refine sm rfl rfl ?_
  refine sc _ Tryd.func45 rfl (by kernel_rfl) rfl rfl ((copyCheck_any b p v _ hp hB).mono ?_)
  clear hB
  rintro e_ w1 ⟨rfl, hB, hC1⟩
  refine cR ?_
  replace hR := hR.chg hC1 (fun k hk e => hR.ne_ hB' (by decide) (by rw [← e]; exact hk))
  replace hu := hu.chgN hC1 hu2
  refine Wn ?_
  refine tN ?_
  refine W_rs ?_
  refine sm rfl rfl ?_
  refine sm rfl rfl ?_
  refine st (X.nilChk rfl) rfl ?_
  refine st (X.fa fa74_1 rfl) rfl ?_
  refine st (X.ldL rfl hB Tryd.underlying58 rfl rfl) rfl ?_
  refine sm rfl rfl ?_
  refine sapp0 rfl rfl Tryd.underlying58 inf5 rfl (by decide) hR (hu.src Tryd.underlying58 (bv_one m)) (by simp only [maxLen]; omega) (by omega) rfl (fun v' w2 hR2 hC2 hv h00 => ?_)
  replace hB := hB.chg hC2 (hR.ne_ hB (by decide))
  refine st (X.nilChk rfl) rfl ?_
  refine st (X.fa fa74_1 rfl) rfl ?_
  refine ssB rfl rfl hB siz58 hR2.one_ (by simp) (fun w3 hB3 hC3 => ?_)
  refine Wn ?_
  refine tN ?_
  refine W_rs ?_
  refine sm rfl rfl ?_
  refine st (X.lenL rfl rfl Tryd.underlying58) rfl ?_
  refine sa rfl rfl ?_
  refine sa rfl rfl ?_
  refine Wn ?_
  refine tN ?_
  refine W_ret ?_
  exact (rTT rfl rfl rfl ⟨rfl, wrote hBw hB' hb ho h0 hC1 hR hC2 (by simp) hR2 hv h00 hB hC3 hB3⟩).1
theorem chgFreeze (w : World) (g n : Nat) : Chg (fun k => k = g) w (w.freeze ⟨g, 0, none⟩ n) := by
  unfold World.freeze
  split
  · exact Chg.refl _ _
  · exact ⟨rfl, rfl, rfl, by simp, fun k hk hn => by
      show (w.heap.modify g _)[k]? = _
      rw [Array.getElem?_modify, if_neg (fun e => hn e.symm)]⟩
theorem X.usd {P : Program} {l : Env} {x : Operand} {ats : Array TypeId} {ty : TypeId} {w : World} {a : Addr} {n c : Nat} (hx : ev l x = some (.slice (some a) n c)) (hc : c ≠ 0) : X P l (.call { callee := .builtin .unsafeSliceData, args := #[x], argTypes := ats }) ty w (.pointer (some a)) w := fun ρ hρ => by
  unfold execOp
  simp only [resolve, invoke, builtin, Sem.run_bind, Sem.run_pure, Result.andThen_ok, List.map_toArray, List.map_cons, List.map_nil, hρ _ _ hx, Lib.run_unsafeSliceData_row w _ _ a n c hc]
theorem cells_u8_ : Tryd.prog.cellsOf 5 = 1 := by kernel_rfl
theorem String_any (b B : Nat) (l : List UInt8) (w : World) (h : BldAt w b B l) (hl : 0 < l.length) (hBw : B ≤ w.heap.size) :
    Calls Tryd.prog 30 #[.pointer (some ⟨b, 0, none⟩)] w fun e w' => e = .returned (str l) ∧ Below B w w' ∧ KeepsT [74, 5] w w' ∧ w.heap.size ≤ w'.heap.size := by
  obtain ⟨p, v, hB, hp, hR, hb, ho, h0⟩ := h
  rcases hR.2 with ⟨_, hz⟩ | ⟨g, off, cap, cur, fz, rfl, hg, h1, h2, h3, h4, h5⟩
  · omega
  obtain rfl : off = 0 := h0 _ _ _ rfl
  have hgB := ho g (by simp [Value.ownBlock])
  have hgl := (Array.getElem?_eq_some_iff.1 hg).1
  have hcell : ∀ j x, l[j]? = some x → w.cell? ⟨g, j, none⟩ = some (.int .u8 x.toNat) := fun j x hx => by
    rw [cell_of_row w g j cur 5 fz hg]
    have : (l.map bv)[j]? = some (bv x) := by rw [List.getElem?_map, hx]; rfl
    rw [← h4, List.getElem?_take] at this
    split at this
    · rw [List.getElem?_drop] at this; simpa [bv] using this
    · cases this
  have hsh : w.shape? g = some (5, cur.size) := by simp [World.shape?, hg]
  have hn : l.length ≤ 9223372036854775807 := by simp only [maxLen] at h2; omega
  refine W_enter (args := [.pointer (some ⟨b, 0, none⟩)]) 14 Tryd.func30 rfl rfl rfl ?_
  refine W_sub [(0, .pointer (some ⟨b, 0, none⟩))] ?_ ⟨rfl, trivial⟩
  refine W_rs ?_
  refine sa rfl rfl ?_
  refine Wn ?_
  refine tN ?_
  refine W_drsN (fun W_ => Blk W_ b 74 #[.pointer p, .slice (some ⟨g, 0, none⟩) l.length cap]) [0, 1, 2, 3, 4, 5, 6, 7, 8, 9, 10, 11] [true, true, true, true, true, true, true, true, true, true, false, true] (by kernel_rfl) (by kernel_rfl) (hB.drew) ?_
  obtain ⟨w1, hw_⟩ : ∃ w1 : World, w1 = World.drew w := ⟨_, rfl⟩
  rw [← hw_]
  have hb : Below w.heap.size w w1 := by rw [hw_]; exact bdrew (Below.refl _ _)
  clear hw_
  have hS := hb
  have hz_w1 := hb.size
  clear hb
  refine oY rfl (fun W_ hW_ => (X.move rfl)) rfl ?_
  refine oY rfl (fun W_ hW_ => (X.nilChk rfl)) rfl ?_
  refine oY rfl (fun W_ hW_ => (X.fa fa74_1 rfl)) rfl ?_
  refine oY rfl (fun W_ hW_ => (X.ldL rfl hW_ Tryd.underlying58 rfl rfl)) rfl ?_
  refine oY rfl (fun W_ hW_ => (X.usd rfl (by omega))) rfl ?_
  refine oY rfl (fun W_ hW_ => (X.move rfl)) rfl ?_
  refine oY rfl (fun W_ hW_ => (X.nilChk rfl)) rfl ?_
  refine oY rfl (fun W_ hW_ => (X.fa fa74_1 rfl)) rfl ?_
  refine oY rfl (fun W_ hW_ => (X.ldL rfl hW_ Tryd.underlying58 rfl rfl)) rfl ?_
  refine oY rfl (fun W_ hW_ => (X.lenL rfl rfl Tryd.underlying58)) rfl ?_
  refine oL rfl (fun Q_ hQ_ hP_ => ?_)
  have hus := Lib.run_unsafeString_row (P := Tryd.prog) w1 104 3 9 5 Tryd.underlying104 cells_u8_ g cur.size (by unfold World.shape? at hsh ⊢; rw [hS.block g hgl]; exact hsh) l (by rintro rfl; simp at hl) (by omega) hn (fun j x hx => by rw [Addr.add_mid, Nat.zero_add, hS.cell (p := ⟨g, j, none⟩) hgl]; exact hcell j x hx)
  refine st (v := str l) (w' := World.freeze w1 ⟨g, 0, none⟩ l.length) (fun ρ hρ => by unfold execOp; simp only [resolve, invoke, builtin, Sem.run_bind, Sem.run_pure, Result.andThen_ok, List.map_toArray, List.map_cons, List.map_nil, hρ (.tmp 7) _ rfl, hρ (.tmp 12) _ rfl, hus]; rfl) rfl ?_
  have hb1 := hS
  have hC := chgFreeze w1 g l.length
  have hS := (hB.bel hS).chg hC (hR.ne_ hB (by decide) ∘ fun e => by rw [e]; simp [Value.ownBlock])
  refine Wn (hQ_ _ _ hS ?_)
  clear hQ_ hP_ Q_
  refine oY rfl (fun W_ hW_ => (X.assign rfl)) rfl ?_
  refine oN ?_
  refine nN ?_
  refine W_ret ?_
  refine (rT rfl rfl ⟨rfl, ?_, ?_, ?_⟩).1
  · exact (hb1.mono hBw).trans (hC.below (Nat.le_trans hBw hb1.size) (fun k hk => by rw [hk]; exact hgB))
  · refine (KeepsT.of_below hb1).trans (fun k cs t fz' hk hn => hC.block k (Array.getElem?_eq_some_iff.1 hk).1 (fun e => ?_))
    subst e
    rw [hb1.block k hgl, hg] at hk
    injection hk with hk
    injection hk with _ ht
    exact hn (by rw [← ht]; decide)
  · exact Nat.le_trans hb1.size hC.size
end Go.Proofs.YtnagmpnpgekhfaaDoor
