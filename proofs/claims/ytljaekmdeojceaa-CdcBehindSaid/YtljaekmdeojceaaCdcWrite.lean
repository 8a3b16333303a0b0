/- The chunk cutter: the walk of Write. -/
import Derived.Test.YtljaekmdeojceaaCdcTake
import Derived.ScopeJumps
import Derived.WalkMore
namespace Go.Proofs.Ytljaekmdeojceaa
open Go.RowKit Cdc
/-- a chunk as a cell -/
def strv (l : List UInt8) : Value := .string ⟨l.toArray⟩
theorem strv_one (l : List (List UInt8)) : ∀ u ∈ l.map strv, u.oneCell' = true := by
  intro u hu
  obtain ⟨_, _, rfl⟩ := List.mem_map.1 hu
  rfl
def CutAt (w : World) (S : Nat → Prop) (b : Nat) (left : List UInt8) : Prop :=
  ∃ (cs : Array Value) (v : Value), Blk w b 45 cs ∧ cs.size = 259 ∧ Geared cs (roll left) left.length ∧ cs[258]? = some v ∧ Row w 5 1 v left.length (left.map bv) ∧ S b ∧ ∀ k, v.ownBlock = some k → S k
/-- below B no block has changed but bytes and cutters -/
def KeepsIn (B : Nat) (w w' : World) : Prop := ∀ k, k < B → ∀ cs t fz, w.heap[k]? = some (.cells cs t fz) → t ≠ 5 → t ≠ 45 → w'.heap[k]? = w.heap[k]?
theorem KeepsIn.refl (B : Nat) (w : World) : KeepsIn B w w := fun _ _ _ _ _ _ _ _ => rfl
theorem KeepsIn.trans {B : Nat} {w w1 w2 : World} (h : KeepsIn B w w1) (k : KeepsIn B w1 w2) : KeepsIn B w w2 := fun i hi cs t fz hc h1 h2 => by
  have e := h i hi cs t fz hc h1 h2
  exact (k i hi cs t fz (e.trans hc) h1 h2).trans e
theorem Chg.keeps {S : Nat → Prop} {B : Nat} {w w' : World} (h : Chg S w w') (hB : B ≤ w.heap.size) (hS : ∀ k, k < B → S k → ∃ cs t fz, w.heap[k]? = some (.cells cs t fz) ∧ (t = 5 ∨ t = 45)) : KeepsIn B w w' := fun i hi cs t fz hc h1 h2 => by
  refine h.block i (by omega) (fun s => ?_)
  obtain ⟨cs', t', fz', e, ht⟩ := hS i hi s
  rw [hc] at e
  injection e with e
  injection e with _ e2
  subst e2
  rcases ht with ht | ht
  · exact h1 ht
  · exact h2 ht
theorem Row.typed {w : World} {e : TypeId} {size n : Nat} {v : Value} {xs : List Value} (h : Row w e size v n xs) (k : Nat) (hk : v.ownBlock = some k) : ∃ cs fz, w.heap[k]? = some (.cells cs e fz) := by
  rcases h.2 with ⟨rfl, _⟩ | ⟨g, off, cap, cur, fz, rfl, hg, _⟩
  · simp [Value.ownBlock] at hk
  · simp [Value.ownBlock] at hk
    subst hk
    exact ⟨_, _, hg⟩
theorem Row.keeps {w w' : World} {e : TypeId} {size n : Nat} {v : Value} {xs : List Value} (h : Row w e size v n xs) (hk : KeepsIn w.heap.size w w') (h1 : e ≠ 5) (h2 : e ≠ 45) : Row w' e size v n xs :=
  h.keep fun k hb => by
    obtain ⟨cs, fz, hc⟩ := h.typed k hb
    exact hk k (h.lt k hb) cs e fz hc h1 h2
def WInv (w : World) (S : Nat → Prop) (b : Nat) (left : List UInt8) (s : ByteArray) (j : Nat) (vo : Value) (w' : World) : Prop :=
  Row w' 9 1 vo (feed left (s.data.toList.take j)).1.length ((feed left (s.data.toList.take j)).1.map strv) ∧ (∀ k, vo.ownBlock = some k → w.heap.size ≤ k) ∧
    CutAt w' (More S w) b (feed left (s.data.toList.take j)).2 ∧ Chg S w w' ∧ KeepsIn w.heap.size w w'
def WriteIs (w : World) (S : Nat → Prop) (b : Nat) (left : List UInt8) (s : ByteArray) (e : Ending) (w' : World) : Prop :=
  ∃ vo, e = .returned vo ∧ Row w' 9 1 vo (feed left s.data.toList).1.length ((feed left s.data.toList).1.map strv) ∧ (∀ k, vo.ownBlock = some k → w.heap.size ≤ k) ∧
    CutAt w' (More S w) b (feed left s.data.toList).2 ∧ Chg S w w' ∧ KeepsIn w.heap.size w w'
def WriteJ (w : World) (S : Nat → Prop) (b : Nat) (left : List UInt8) (s : ByteArray) (a' : Act) (w' : World) : Prop :=
  ∃ (j : Nat) (vo : Value), j ≤ s.size ∧ WInv w S b left s j vo w' ∧ ∃ u7 u8 u9 u10 u11 u12 u13 u14 u15 u16 u17 u18 u19 u20 u21 u22 u23 u24 u25 u26 u27 u28 u29 u30 u31 u32 u33 u34 u35 u36 u37 u38 u39 u40 u41 u42 u43 u44 u45 u46 u47 u48 u49 u50 u51 u52 u53 u54 u55 : Value, a' = { tmps := #[.pointer (some ⟨b, 0, none⟩), .string s, undef, undef, .slice none 0 0, vo, .int .i64 j, u7, u8, u9, u10, u11, u12, u13, u14, u15, u16, u17, u18, u19, u20, u21, u22, u23, u24, u25, u26, u27, u28, u29, u30, u31, u32, u33, u34, u35, u36, u37, u38, u39, u40, u41, u42, u43, u44, u45, u46, u47, u48, u49, u50, u51, u52, u53, u54, u55], defers := [] }

theorem Geared.left {cs : Array Value} {num : UInt64} {n : Nat} (h : Geared cs num n) (v : Value) : Geared (cs.setIfInBounds 258 v) num n := by
  obtain ⟨h1, h2, h3⟩ := h
  refine ⟨fun j hj => ?_, ?_, ?_⟩
  · rw [Array.getElem?_setIfInBounds_ne (by omega), h1 j hj]
  · rw [Array.getElem?_setIfInBounds_ne (by omega), h2]
  · rw [Array.getElem?_setIfInBounds_ne (by omega), h3]
theorem taken_size (cs : Array Value) (num : UInt64) (n : Nat) : (takenCells cs num n).size = cs.size := by simp [takenCells]
theorem taken_258 (cs : Array Value) (num : UInt64) (n : Nat) : (takenCells cs num n)[258]? = cs[258]? := by
  unfold takenCells
  rw [Array.getElem?_setIfInBounds_ne (by omega), Array.getElem?_setIfInBounds_ne (by omega)]
theorem info_u8 : (Try.prog.info? 5).map (fun i => (i.zero, i.size, i.bytes)) = some (some (.int .u8 0), 1, 1) := by kernel_rfl
theorem info_str : (Try.prog.info? 9).map (fun i => (i.zero, i.size, i.bytes)) = some (some (.string ⟨#[]⟩), 1, 16) := by kernel_rfl

/-- a scope with a label to which the run jumps back: what stands behind the label is walked once -/
theorem wp_scope_jumps_once {P : Program} {a : Act} {w : World} {Q : Exit → Act → World → Prop} {c rest : Code} (l : Nat) (J : Act → World → Prop) (μ : Act → World → Nat) (hf : findLabel c l = some (.seq .skip rest))
    (pass : ∀ a w, J a w → rest.wp P (Exit.jump l (fun a' w' => J a' w' ∧ μ a' w' < μ a w) Q) a w)
    (first : (∀ a w, J a w → rest.wp P (Exit.jump l J Q) a w) → c.wp P (Exit.jump l J Q) a w) : (Code.scope c).wp P Q a w :=
  wp_scope_jumps l J μ hf (first fun a w hJ => wp_mono (pass a w hJ) (fun e a' w' h => by
    cases e with
    | goto l' => exact ⟨h.1, h.2.1⟩
    | _ => exact h)) fun a w hJ => wp_seq (wp_skip (pass a w hJ))
/-- the byte is laid into the cutter -/
theorem phaseA {wr w1 : World} {b : Nat} {cs : Array Value} {v v1 : Value} {lf : List UInt8} {x : UInt8} {num : UInt64} (hR1 : Row w1 5 1 v1 (lf.length + 1) (lf.map bv ++ [bv x]))
    (hC1 : Chg (fun k => v.ownBlock = some k) (wr.alloc (.cells #[bv x] 5)) w1) (hv1 : v1.ownBlock = v.ownBlock ∨ v1.ownBlock = some (wr.alloc (.cells #[bv x] 5)).heap.size)
    (HB : Hid (Blk wr b 45 cs)) (HG : Hid (Geared cs num lf.length)) (Hne : Hid (v.ownBlock ≠ some b)) (Hc8 : Hid (cs[258]? = some v)) :
    Hid (Row w1 5 1 v1 (lf ++ [x]).length ((lf ++ [x]).map bv)) ∧ Hid (Chg (fun k => v.ownBlock = some k) wr w1) ∧ Hid (v1.ownBlock = v.ownBlock ∨ ∀ k, v1.ownBlock = some k → wr.heap.size ≤ k) ∧
      w1.cell? ⟨b, 258, none⟩ = some v ∧ w1.frozen? ⟨b, 258, none⟩ = false ∧ Hid (Blk (w1.setCell ⟨b, 258, none⟩ v1) b 45 (cs.setIfInBounds 258 v1)) ∧ Hid (Geared (cs.setIfInBounds 258 v1) num lf.length) := by
  have hB1 := (HB.out.alloc (.cells #[bv x] 5)).chg hC1 Hne.out
  refine ⟨?_, ?_, ?_, ?_, hB1.frozen 258, hB1.set_ 258 v1, HG.out.left v1⟩
  · show Row _ _ _ _ _ _
    rw [List.map_append, List.length_append]
    exact hR1
  · exact ((Chg.refl (fun k => v.ownBlock = some k) wr).alloc _).next hC1 (fun i h => .inl h)
  · show _ ∨ _
    rcases hv1 with h | h
    · exact .inl h
    · refine .inr (fun k hk => ?_)
      rw [h] at hk
      simp at hk
      omega
  · rw [hB1.cell, Hc8.out]
theorem Row.apart {w : World} {e e' : TypeId} {size size' n n' : Nat} {v v' : Value} {xs xs' : List Value} (h : Row w e size v n xs) (h' : Row w e' size' v' n' xs') (hne : e ≠ e') (k : Nat) (hk : v.ownBlock = some k) : v'.ownBlock ≠ some k := by
  intro hk'
  rcases h.2 with ⟨rfl, _⟩ | ⟨g, off, cap, cur, fz, rfl, hg, _⟩
  · simp [Value.ownBlock] at hk
  · rcases h'.2 with ⟨rfl, _⟩ | ⟨g', off', cap', cur', fz', rfl, hg', _⟩
    · simp [Value.ownBlock] at hk'
    · simp [Value.ownBlock] at hk hk'
      subst hk
      subst hk'
      rw [hg] at hg'
      injection hg' with hg'
      injection hg' with _ ht
      exact hne ht
/-- the byte is taken -/
theorem phaseB {w wr w1 w2 : World} {S : Nat → Prop} {b : Nat} {cs : Array Value} {v v1 vo : Value} {lf : List UInt8} {x : UInt8} {num num' : UInt64} {m : Nat} {ss : List Value}
    (HR1 : Hid (Row w1 5 1 v1 (lf ++ [x]).length ((lf ++ [x]).map bv))) (HC1 : Hid (Chg (fun k => v.ownBlock = some k) wr w1)) (Hv1 : Hid (v1.ownBlock = v.ownBlock ∨ ∀ k, v1.ownBlock = some k → wr.heap.size ≤ k))
    (HG2 : Hid (Geared (cs.setIfInBounds 258 v1) num lf.length))
    (HR : Hid (Row wr 5 1 v lf.length (lf.map bv))) (HB : Hid (Blk wr b 45 cs)) (HO : Hid (Row wr 9 1 vo m ss)) (Hcs : Hid (cs.size = 259)) (HSb : Hid (More S w b)) (HSr : Hid (∀ k, v.ownBlock = some k → More S w k)) (HCh : Hid (Chg S w wr))
    (hnum : num' = roll (lf ++ [x])) (hB3 : Blk w2 b 45 (takenCells (cs.setIfInBounds 258 v1) num' (lf ++ [x]).length)) (hC3 : Chg (fun k => k = b) (w1.setCell ⟨b, 258, none⟩ v1) w2) :
    Hid (Row w2 5 1 v1 (lf ++ [x]).length ((lf ++ [x]).map bv)) ∧ Hid (Row w2 9 1 vo m ss) ∧ Hid (Chg S w w2) ∧ Hid (Geared (takenCells (cs.setIfInBounds 258 v1) num' (lf ++ [x]).length) (roll (lf ++ [x])) (lf ++ [x]).length) ∧
      Hid ((takenCells (cs.setIfInBounds 258 v1) num' (lf ++ [x]).length)[258]? = some v1) ∧ Hid ((takenCells (cs.setIfInBounds 258 v1) num' (lf ++ [x]).length).size = 259) ∧ Hid (∀ k, v1.ownBlock = some k → More S w k) ∧ Hid (v1.ownBlock ≠ some b) ∧ Hid (KeepsIn w.heap.size wr w2) := by
  subst hnum
  have ne1 : v1.ownBlock ≠ some b := by
    have hB2 : Blk w1 b 45 cs := HB.out.chg HC1.out (HR.out.ne_ HB.out (by decide))
    exact HR1.out.ne_ hB2 (by decide)
  have nev : vo.ownBlock ≠ some b := HO.out.ne_ HB.out (by decide)
  have hS1 : ∀ k, v1.ownBlock = some k → More S w k := fun k hk => by
    rcases Hv1.out with h | h
    · exact HSr.out k (h.symm.trans hk)
    · exact .inr (Nat.le_trans HCh.out.size (h k hk))
  refine ⟨?_, ?_, ?_, HG2.out.taken _ _, ?_, ?_, hS1, ne1, ?_⟩
  · exact (HR1.out.far (p := ⟨b, 258, none⟩) ne1 v1).chg hC3 (fun k hk e => ne1 (by rw [hk, e]))
  · refine ((HO.out.chg HC1.out (fun k hk => HO.out.apart HR.out (by decide) k hk)).far (p := ⟨b, 258, none⟩) nev v1).chg hC3 (fun k hk e => nev (by rw [hk, e]))
  · refine HCh.out.more ?_
    refine Chg.trans (Chg.setCell (HC1.out.mono (fun k _ hk => HSr.out k hk)) (p := ⟨b, 258, none⟩) (.inl HSb.out) v1) hC3 (fun i _ h => by rw [h]; exact HSb.out)
  · show _ = _
    rw [taken_258, Array.getElem?_setIfInBounds_self_of_lt (by rw [Hcs.out]; omega)]
  · show _ = _
    rw [taken_size, Array.size_setIfInBounds, Hcs.out]
  · have h1 : Chg (fun k => v.ownBlock = some k ∨ k = b) wr w2 := Chg.trans (Chg.setCell (HC1.out.mono (fun k _ hk => .inl hk)) (p := ⟨b, 258, none⟩) (.inl (.inr rfl)) v1) hC3 (fun i _ h => .inr h)
    refine h1.keeps HCh.out.size (fun k _ hk => ?_)
    rcases hk with hk | hk
    · obtain ⟨c, f, hc⟩ := HR.out.typed k hk
      exact ⟨c, _, f, hc, .inl rfl⟩
    · subst hk
      exact ⟨_, _, _, HB.out, .inr rfl⟩
/-- the chunk is laid into the answer -/
theorem phaseC {w w2 w5 : World} {b : Nat} {cs : Array Value} {v1 vo v5 : Value} {c : List UInt8} {outs : List (List UInt8)}
    (hR5 : Row w5 9 1 v5 (outs.length + 1) (outs.map strv ++ [strv c])) (hC5 : Chg (fun k => vo.ownBlock = some k) (w2.alloc (.cells #[strv c] 9)) w5) (hv5 : v5.ownBlock = vo.ownBlock ∨ v5.ownBlock = some (w2.alloc (.cells #[strv c] 9)).heap.size)
    (HB4 : Hid (Blk w2 b 45 cs)) (HR4 : Hid (Row w2 5 1 v1 c.length (c.map bv))) (HO4 : Hid (Row w2 9 1 vo outs.length (outs.map strv))) (H84 : Hid (cs[258]? = some v1)) (HOn : Hid (∀ k, vo.ownBlock = some k → w.heap.size ≤ k)) (hsz : Hid (w.heap.size ≤ w2.heap.size)) :
    Hid (Row w5 9 1 v5 (outs ++ [c]).length ((outs ++ [c]).map strv)) ∧ w5.cell? ⟨b, 258, none⟩ = some v1 ∧ w5.frozen? ⟨b, 258, none⟩ = false ∧ Hid (Blk w5 b 45 cs) ∧ Hid (Row w5 5 1 v1 c.length (c.map bv)) ∧
      Hid (Chg (fun k => vo.ownBlock = some k) w2 w5) ∧ Hid (∀ k, v5.ownBlock = some k → w.heap.size ≤ k) := by
  have nev : vo.ownBlock ≠ some b := HO4.out.ne_ HB4.out (by decide)
  have hB5 := (HB4.out.alloc (.cells #[strv c] 9)).chg hC5 nev
  refine ⟨?_, ?_, hB5.frozen 258, hB5, ?_, ?_, ?_⟩
  · show Row _ _ _ _ _ _
    rw [List.map_append, List.length_append]
    exact hR5
  · rw [hB5.cell, H84.out]
  · exact (HR4.out.alloc _).chg hC5 (fun k hk => HR4.out.apart HO4.out (by decide) k hk)
  · exact ((Chg.refl (fun k => vo.ownBlock = some k) w2).alloc _).next hC5 (fun i h => .inl h)
  · show ∀ k, _
    intro k hk
    rcases hv5 with h | h
    · exact HOn.out k (h.symm.trans hk)
    · rw [h] at hk
      have := hsz.out
      simp at hk
      omega
theorem Row.zero {w : World} {e : TypeId} {size n g o cap : Nat} {xs : List Value} (h : Row w e size (.slice (some ⟨g, o, none⟩) n cap) n xs) : Row w e size (.slice (some ⟨g, o, none⟩) 0 cap) 0 [] := by
  refine ⟨by simp, ?_⟩
  rcases h.2 with ⟨h0, _⟩ | ⟨g', off, cap', cur, fz, hv, hg, h1, h2, h3, h4, h5⟩
  · cases h0
  · injection hv with ha _ hc
    subst hc
    injection ha with ha
    injection ha with hg' ho
    subst hg'
    subst ho
    exact .inr ⟨g, o, cap, cur, fz, rfl, hg, Nat.zero_le _, h2, h3, by simp, h5⟩
/-- the cutter stands anew -/
theorem phaseD {w w2 w5 w7 : World} {S : Nat → Prop} {b : Nat} {cs csx : Array Value} (HB2 : Hid (Blk w2 b 45 csx)) {vo v5 : Value} {g1 o1 cap1 n : Nat} {xs ss : List Value} {num : UInt64} {m l : Nat}
    (hB7 : Blk w7 b 45 (takenCells (cs.setIfInBounds 258 (.slice (some ⟨g1, o1, none⟩) 0 cap1)) 0 0)) (hC7 : Chg (fun k => k = b) (w5.setCell ⟨b, 258, none⟩ (.slice (some ⟨g1, o1, none⟩) 0 cap1)) w7)
    (HR5 : Hid (Row w5 9 1 v5 m ss)) (HB5 : Hid (Blk w5 b 45 cs)) (HL5 : Hid (Row w5 5 1 (.slice (some ⟨g1, o1, none⟩) n cap1) n xs)) (HC5 : Hid (Chg (fun k => vo.ownBlock = some k) w2 w5)) (HOn : Hid (∀ k, vo.ownBlock = some k → w.heap.size ≤ k))
    (HC4 : Hid (Chg S w w2)) (HG6 : Hid (Geared (cs.setIfInBounds 258 (.slice (some ⟨g1, o1, none⟩) 0 cap1)) num l)) (Hs4 : Hid (cs.size = 259)) (HSb : Hid (More S w b)) (HS4 : Hid (∀ k, (Value.slice (some ⟨g1, o1, none⟩) n cap1).ownBlock = some k → More S w k)) :
    Row w7 9 1 v5 m ss ∧ CutAt w7 (More S w) b [] ∧ Chg S w w7 ∧ KeepsIn w.heap.size w2 w7 := by
  have nev : v5.ownBlock ≠ some b := HR5.out.ne_ HB5.out (by decide)
  have nel : (Value.slice (some ⟨g1, o1, none⟩) 0 cap1).ownBlock ≠ some b := HL5.out.zero.ne_ HB5.out (by decide)
  refine ⟨?_, ⟨_, .slice (some ⟨g1, o1, none⟩) 0 cap1, hB7, ?_, HG6.out.taken 0 0, ?_, ?_, HSb.out, fun k hk => HS4.out k (by simpa [Value.ownBlock] using hk)⟩, ?_, ?_⟩
  · exact (HR5.out.far (p := ⟨b, 258, none⟩) nev _).chg hC7 (fun k hk e => nev (by rw [hk, e]))
  · rw [taken_size, Array.size_setIfInBounds, Hs4.out]
  · rw [taken_258, Array.getElem?_setIfInBounds_self_of_lt (by rw [Hs4.out]; omega)]
  · exact (HL5.out.zero.far (p := ⟨b, 258, none⟩) nel _).chg hC7 (fun k hk e => nel (by rw [hk, e]))
  · refine HC4.out.more ?_
    refine Chg.trans (Chg.setCell (HC5.out.mono (fun k _ hk => .inr (HOn.out k hk))) (p := ⟨b, 258, none⟩) (.inl HSb.out) _) hC7 (fun i _ h => by rw [h]; exact HSb.out)
  · have h1 : Chg (fun k => vo.ownBlock = some k ∨ k = b) w2 w7 := Chg.trans (Chg.setCell (HC5.out.mono (fun k _ hk => .inl hk)) (p := ⟨b, 258, none⟩) (.inl (.inr rfl)) _) hC7 (fun i _ h => .inr h)
    refine h1.keeps HC4.out.size (fun k hlt hk => ?_)
    rcases hk with hk | hk
    · have := HOn.out k hk
      omega
    · subst hk
      exact ⟨_, _, _, HB2.out, .inr rfl⟩
set_option maxHeartbeats 1000000 in
set_option maxRecDepth 100000 in
theorem Write_any (b : Nat) (S : Nat → Prop) (left : List UInt8) (s : ByteArray) (w : World) (hs : s.size ≤ 1000000) (hl : left.length < 1024) (hC : CutAt w S b left) :
    Calls Try.prog 16 #[.pointer (some ⟨b, 0, none⟩), .string s] w (WriteIs w S b left s) := by
  obtain ⟨i0, hi, hz0, hz1, hz2⟩ := info_parts info_u8
  obtain ⟨i1, hi1, hz3, hz4, hz5⟩ := info_parts info_str
  have HC := Lib.hid hC; clear hC
  go_enter Try.func16, Try.ntmps16
  go_wp2
  refine wp_scope_jumps_once 0 (WriteJ w S b left s) (fun a _ => s.size - (intOf (a.tmps.getD 6 undef)).toNat) rfl ?pass ?first
  case first =>
    intro hbody
    go_wp2
    go_step3
    rename_i hK
    refine hK _ _ (hbody _ _ ?_)
    refine ⟨0, .slice none 0 0, by omega, ⟨Row.nil _ _ _, fun k hk => (by simp [Value.ownBlock] at hk), ?_, Chg.refl _ _, KeepsIn.refl _ _⟩, ⟨_, _, _, _, _, _, _, _, _, _, _, _, _, _, _, _, _, _, _, _, _, _, _, _, _, _, _, _, _, _, _, _, _, _, _, _, _, _, _, _, _, _, _, _, _, _, _, _, _, rfl⟩⟩
    obtain ⟨cs, v, h1, h2, h3, h4, h5, h6, h7⟩ := HC.out
    exact ⟨cs, v, h1, h2, h3, h4, h5, .inl h6, fun k hk => .inl (h7 k hk)⟩
  case pass =>
    clear HC
    rintro a wr ⟨j, vo, hj, ⟨hO, hOn, ⟨cs, v, hB, hcs, hG, hc8, hR, hSb, hSr⟩, hCh, hKe⟩, u7, u8, u9, u10, u11, u12, u13, u14, u15, u16, u17, u18, u19, u20, u21, u22, u23, u24, u25, u26, u27, u28, u29, u30, u31, u32, u33, u34, u35, u36, u37, u38, u39, u40, u41, u42, u43, u44, u45, u46, u47, u48, u49, u50, u51, u52, u53, u54, u55, rfl⟩
    by_cases hlt : j < s.size
    · obtain ⟨x, hx⟩ : ∃ x, s.data.toList.getD j 0 = x := ⟨_, rfl⟩
      have hxs : s[j] = x := by rw [← hx, getD_str s j hlt]
      have hst : feed left (s.data.toList.take (j + 1)) = if ends ((feed left (s.data.toList.take j)).2 ++ [x]) then ((feed left (s.data.toList.take j)).1 ++ [(feed left (s.data.toList.take j)).2 ++ [x]], []) else ((feed left (s.data.toList.take j)).1, (feed left (s.data.toList.take j)).2 ++ [x]) := by
        rw [← feed_snoc, ← hx]
        congr 1
        have hl' : j < s.data.toList.length := hlt
        rw [List.take_succ_eq_append_getElem hl']
        simp [List.getD, List.getElem?_eq_getElem hl']
      have Hst := Lib.hid hst; clear hst
      have hcnt : (feed left (s.data.toList.take j)).1.length ≤ 1000000 := by
        have h1 := feed_count left (s.data.toList.take j)
        have h2 : (s.data.toList.take j).length ≤ j := List.length_take_le _ _
        omega
      have hlf : (feed left (s.data.toList.take j)).2.length < 1024 := (feed_sizes left (s.data.toList.take j) hl).2
      generalize (feed left (s.data.toList.take j)).1 = outs at *
      generalize (feed left (s.data.toList.take j)).2 = lf at *
      clear hx
      have hdec : ((j : Int) == (s.size : Int)) = false := by simp; omega
      have HB := Lib.hid hB; clear hB
      have HG := Lib.hid hG; clear hG
      have HR := Lib.hid hR; clear hR
      have HO := Lib.hid hO; clear hO
      have Hcs := Lib.hid hcs; clear hcs
      have Hc8 := Lib.hid hc8; clear hc8
      have hc : wr.cell? ⟨b, 258, none⟩ = some v := by rw [HB.out.cell, Hc8.out]
      have hf := HB.out.frozen 258
      have hne := HR.out.ne_ HB.out (by decide)
      have Hne := Lib.hid hne; clear hne
      have HSr := Lib.hid hSr; clear hSr
      have HSb := Lib.hid hSb; clear hSb
      have HCh := Lib.hid hCh; clear hCh
      have HOn := Lib.hid hOn; clear hOn
      have HKe := Lib.hid hKe; clear hKe
      by_cases hend : ends (lf ++ [x]) = true
      · have Hst2 : Hid (feed left (s.data.toList.take (j + 1)) = (outs ++ [lf ++ [x]], [])) := by
          show _ = _
          rw [Hst.out, if_pos hend]
        clear Hst
        have Hend : Hid (endsAt (lf ++ [x]).length (roll (lf ++ [x])) = true) := hend
        clear hend
        have Hrl : Hid (roll1 (roll lf) x = roll (lf ++ [x])) := (roll_snoc lf x).symm
        have Hlen : Hid (lf.length + 1 = (lf ++ [x]).length) := by
          show _ = _
          simp
        have hln : lf.length < 4611686018427387904 := by omega
        go_wp2_with (first
          | (at_builtin; (refine wpList_append_row _ rfl (.tmp 24) (.tmp 26) 43 43 rfl 5 i0 _ 1 1 Try.underlying43 hi hz0 hz1 hz2 rfl (by omega) v lf.length (lf.map bv) rfl (HR.out.alloc _) (.slice (some ⟨wr.heap.size, 0, none⟩) 1 1) 1 [bv x] rfl (Row.src (Row.new wr 5 1 1 #[bv x] (by simp [maxLen]) rfl) Try.underlying43 (bv_one [x])) (by simp only [maxLen]; omega) (by omega) ?_); intro v1 w1 hR1 hC1 hv1; obtain ⟨g1, o1, cap1, rfl, hob1, hcap1, hcap2, hcl1, hfr1⟩ := hR1.form (by omega); obtain ⟨HR1, HC1, Hv1, hc1, hf1, HB2, HG2⟩ := phaseA hR1 hC1 hv1 HB HG Hne Hc8; clear hR1 hC1 hv1 hc hf hob1 hcl1 hfr1)
          | (go_at_call 22; (with_reducible refine (take_to b 45 (cs.setIfInBounds 258 (.slice (some ⟨g1, o1, none⟩) (lf.length + 1) cap1)) (roll lf) (roll (lf ++ [x])) lf.length (lf ++ [x]).length x true _ HB2.out HG2.out hln Hlen.out Hrl.out Hend.out).mono ?_); rintro e w2 ⟨rfl, hB3, hC3⟩; obtain ⟨HR4, HO4, HC4, HG4, H84, Hs4, HS4, Hn4, HK4⟩ := phaseB HR1 HC1 Hv1 HG2 HR HB HO Hcs HSb HSr HCh rfl hB3 hC3; have HB4 := Lib.hid hB3; clear hB3 hC3 hc1 hf1; have hc4 : w2.cell? ⟨b, 258, none⟩ = some (.slice (some ⟨g1, o1, none⟩) (lf.length + 1) cap1) := (by rw [HB4.out.cell, H84.out]); have hcv := run_str_of_row w2 43 9 5 _ _ (lf ++ [x]) Try.underlying43 Try.underlying5 Try.underlying9 HR4.out)
          | (at_builtin; (refine wpList_append_row _ rfl (.tmp 36) (.tmp 42) 24 24 rfl 9 i1 _ 1 16 Try.underlying24 hi1 hz3 hz4 hz5 rfl (by omega) vo outs.length (outs.map strv) rfl (HO4.out.alloc _) (.slice (some ⟨w2.heap.size, 0, none⟩) 1 1) 1 [strv (lf ++ [x])] rfl (Row.src (Row.new w2 9 1 1 #[strv (lf ++ [x])] (by simp [maxLen]) rfl) Try.underlying24 (strv_one [lf ++ [x]])) (by simp only [maxLen]; omega) (by omega) ?_); intro v5 w5 hR5 hC5 hv5; obtain ⟨HR5, hc5, hf5, HB5, HL5, HC5, HO5⟩ := phaseC hR5 hC5 hv5 HB4 HR4 HO4 H84 HOn HC4.out.size; have HB6 := Lib.hid (HB5.out.set_ 258 (.slice (some ⟨g1, o1, none⟩) 0 cap1)); have HG6 := Lib.hid (HG4.out.left (.slice (some ⟨g1, o1, none⟩) 0 cap1)); clear hc4 hcv hR5 hC5 hv5)
          | (go_at_call 24; (with_reducible refine (anew_any b 45 _ _ _ _ HB6.out HG6.out).mono ?_); rintro e w7 ⟨rfl, hB7, hC7⟩))
        go_step3
        have HL5' : Hid (Row w5 5 1 (.slice (some ⟨g1, o1, none⟩) (lf.length + 1) cap1) (lf.length + 1) ((lf ++ [x]).map bv)) := by rw [Hlen.out] at HL5 ⊢; exact HL5
        obtain ⟨HR7, HA7, HC7, HK7⟩ := phaseD HB4 hB7 hC7 HR5 HB5 HL5' HC5 HOn HC4 HG6 Hs4 HSb HS4
        refine And.intro rfl (And.intro ?_ ?_)
        · refine ⟨j + 1, v5, by omega, ?_, ⟨_, _, _, _, _, _, _, _, _, _, _, _, _, _, _, _, _, _, _, _, _, _, _, _, _, _, _, _, _, _, _, _, _, _, _, _, _, _, _, _, _, _, _, _, _, _, _, _, _, rfl⟩⟩
          unfold WInv
          rw [Hst2.out]
          exact ⟨HR7, HO5.out, HA7, HC7, (HKe.out.trans HK4.out).trans HK7⟩
        · show s.size - (intOf (.int .i64 ((j : Int) + 1))).toNat < s.size - (intOf (.int .i64 (j : Int))).toNat
          simp only [intOf]
          omega
      · have Hst2 : Hid (feed left (s.data.toList.take (j + 1)) = (outs, lf ++ [x])) := by
          show _ = _
          rw [Hst.out, if_neg hend]
        clear Hst
        have Hend : Hid (endsAt (lf ++ [x]).length (roll (lf ++ [x])) = false) := by
          show ends (lf ++ [x]) = false
          simpa using hend
        clear hend
        have Hrl : Hid (roll1 (roll lf) x = roll (lf ++ [x])) := (roll_snoc lf x).symm
        have Hlen : Hid (lf.length + 1 = (lf ++ [x]).length) := by
          show _ = _
          simp
        have hln : lf.length < 4611686018427387904 := by omega
        go_wp2_with (first
          | (at_builtin; (refine wpList_append_row _ rfl (.tmp 24) (.tmp 26) 43 43 rfl 5 i0 _ 1 1 Try.underlying43 hi hz0 hz1 hz2 rfl (by omega) v lf.length (lf.map bv) rfl (HR.out.alloc _) (.slice (some ⟨wr.heap.size, 0, none⟩) 1 1) 1 [bv x] rfl (Row.src (Row.new wr 5 1 1 #[bv x] (by simp [maxLen]) rfl) Try.underlying43 (bv_one [x])) (by simp only [maxLen]; omega) (by omega) ?_); intro v1 w1 hR1 hC1 hv1; obtain ⟨g1, o1, cap1, rfl, hob1, hcap1, hcap2, hcl1, hfr1⟩ := hR1.form (by omega); obtain ⟨HR1, HC1, Hv1, hc1, hf1, HB2, HG2⟩ := phaseA hR1 hC1 hv1 HB HG Hne Hc8; clear hR1 hC1 hv1 hc hf hob1 hcl1 hfr1)
          | (go_at_call 22; (with_reducible refine (take_to b 45 (cs.setIfInBounds 258 (.slice (some ⟨g1, o1, none⟩) (lf.length + 1) cap1)) (roll lf) (roll (lf ++ [x])) lf.length (lf ++ [x]).length x false _ HB2.out HG2.out hln Hlen.out Hrl.out Hend.out).mono ?_); rintro e w2 ⟨rfl, hB3, hC3⟩))
        go_step3
        obtain ⟨HR4, HO4, HC4, HG4, H84, Hs4, HS4, Hn4, HK4⟩ := phaseB HR1 HC1 Hv1 HG2 HR HB HO Hcs HSb HSr HCh rfl hB3 hC3
        refine And.intro rfl (And.intro ?_ ?_)
        · refine ⟨j + 1, vo, by omega, ?_, ⟨_, _, _, _, _, _, _, _, _, _, _, _, _, _, _, _, _, _, _, _, _, _, _, _, _, _, _, _, _, _, _, _, _, _, _, _, _, _, _, _, _, _, _, _, _, _, _, _, _, rfl⟩⟩
          unfold WInv
          rw [Hst2.out]
          exact ⟨HO4.out, HOn.out, ⟨_, _, hB3, Hs4.out, HG4.out, H84.out, HR4.out, HSb.out, HS4.out⟩, HC4.out, HKe.out.trans HK4.out⟩
        · show s.size - (intOf (.int .i64 ((j : Int) + 1))).toNat < s.size - (intOf (.int .i64 (j : Int))).toNat
          simp only [intOf]
          omega
    · obtain rfl : j = s.size := by omega
      have e0 : s.data.toList.take s.size = s.data.toList := List.take_of_length_le (Nat.le_refl s.size)
      rw [e0] at hO hG hR
      have Hf : Hid (WriteIs w S b left s (.returned vo) wr) := ⟨vo, rfl, hO, hOn, ⟨cs, v, hB, hcs, hG, hc8, hR, hSb, hSr⟩, hCh, hKe⟩
      clear hKe hO hOn hB hcs hG hc8 hR hSb hSr hCh hi hi1 hz0 hz1 hz2 hz3 hz4 hz5 e0 hlt hj hl
      go_wp2
      simp only [Exit.jump]
      go_ret
      exact Hf.out
end Go.Proofs.Ytljaekmdeojceaa
