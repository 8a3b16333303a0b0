/- What JournalPlays needs, part 4. -/
import Derived.Test.YtnijmegalgoipaaGreatDoorJournalPlaysP3
namespace Go.Proofs.YtnijmegalgoipaaGreatDoor
open Go.RowKit
def jName : Key := [106, 111, 117, 114, 110, 97, 108]
def jNew : Key := [106, 111, 117, 114, 110, 97, 108, 46, 110, 101, 119]
structure JrM where
  x : ScM
  lame : Bool
def putJ (D : DiskD) (k : UInt8) (b : List UInt8) : Int × DiskD :=
  if (appendM D jName (sealM k b)).1 = 0 then syncM (appendM D jName (sealM k b)).2 jName else appendM D jName (sealM k b)
def lameOf (e : Int) : Bool := decide (e ≠ 0) && decide (e ≠ 17)
def replaceJ (D : DiskD) (s : List UInt8) : Int × DiskD :=
  if (removeM D jNew).1 ≠ 0 ∧ (removeM D jNew).1 ≠ 15 then removeM D jNew
  else if (createM (removeM D jNew).2 jNew).1 ≠ 0 then createM (removeM D jNew).2 jNew
  else if (appendM (createM (removeM D jNew).2 jNew).2 jNew s).1 ≠ 0 then ((appendM (createM (removeM D jNew).2 jNew).2 jNew s).1, (removeM (appendM (createM (removeM D jNew).2 jNew).2 jNew s).2 jNew).2)
  else if (syncM (appendM (createM (removeM D jNew).2 jNew).2 jNew s).2 jNew).1 ≠ 0 then syncM (appendM (createM (removeM D jNew).2 jNew).2 jNew s).2 jNew
  else renameM (syncM (appendM (createM (removeM D jNew).2 jNew).2 jNew s).2 jNew).2 jNew jName
def madeJ (D : DiskD) : Int × DiskD := if (sizeM D jName).2 = 15 then createM D jName else (0, D)
def seenJ (s : List UInt8) : JrM := ⟨{ scanM s with open_ := 0, last := [] }, false⟩
def openJ (D : DiskD) : (Option JrM × Int) × DiskD :=
  if (madeJ D).1 ≠ 0 then ((none, (madeJ D).1), (madeJ D).2)
  else if (readM (madeJ D).2 jName 0 (sizeM D jName).1).2 ≠ 0 then ((none, (readM (madeJ D).2 jName 0 (sizeM D jName).1).2), (madeJ D).2)
  else if (scanM (readM (madeJ D).2 jName 0 (sizeM D jName).1).1).good < (readM (madeJ D).2 jName 0 (sizeM D jName).1).1.length then
    (if (replaceJ (madeJ D).2 ((readM (madeJ D).2 jName 0 (sizeM D jName).1).1.take (scanM (readM (madeJ D).2 jName 0 (sizeM D jName).1).1).good)).1 ≠ 0 then
      ((none, (replaceJ (madeJ D).2 ((readM (madeJ D).2 jName 0 (sizeM D jName).1).1.take (scanM (readM (madeJ D).2 jName 0 (sizeM D jName).1).1).good)).1), (replaceJ (madeJ D).2 ((readM (madeJ D).2 jName 0 (sizeM D jName).1).1.take (scanM (readM (madeJ D).2 jName 0 (sizeM D jName).1).1).good)).2)
    else ((some (seenJ (readM (madeJ D).2 jName 0 (sizeM D jName).1).1), 0), (replaceJ (madeJ D).2 ((readM (madeJ D).2 jName 0 (sizeM D jName).1).1.take (scanM (readM (madeJ D).2 jName 0 (sizeM D jName).1).1).good)).2))
  else ((some (seenJ (readM (madeJ D).2 jName 0 (sizeM D jName).1).1), 0), (madeJ D).2)
def intentJ (D : DiskD) (J : JrM) (p : List UInt8) : (Int × Int) × DiskD × JrM :=
  if J.lame = true ∨ 0 < J.x.open_ then ((0, 18), D, J)
  else if 524288 < p.length then ((0, 31), D, J)
  else if (putJ D 4 (four J.x.next ++ p)).1 ≠ 0 then ((0, (putJ D 4 (four J.x.next ++ p)).1), (putJ D 4 (four J.x.next ++ p)).2, { J with lame := lameOf (putJ D 4 (four J.x.next ++ p)).1 })
  else ((J.x.next, 0), (putJ D 4 (four J.x.next ++ p)).2, ⟨{ J.x with open_ := J.x.next, last := p, next := J.x.next + 1 }, false⟩)
def mayJ (J : JrM) (id : Int) : Int := if J.lame = true then 18 else if id < 1 ∨ id ≠ J.x.open_ then 1 else 0
def commitJ (D : DiskD) (J : JrM) (id : Int) : Int × DiskD × JrM :=
  if mayJ J id ≠ 0 then (mayJ J id, D, J)
  else if (putJ D 5 (four id)).1 ≠ 0 then ((putJ D 5 (four id)).1, (putJ D 5 (four id)).2, { J with lame := lameOf (putJ D 5 (four id)).1 })
  else (0, (putJ D 5 (four id)).2, ⟨{ J.x with done := J.x.done ++ [J.x.last], open_ := 0, last := [] }, false⟩)
def abortJ (J : JrM) (id : Int) : Int × JrM := if mayJ J id ≠ 0 then (mayJ J id, J) else (0, { J with x := { J.x with open_ := 0, last := [] } })
def checkJ (D : DiskD) (J : JrM) (s : List UInt8) : Int × DiskD × JrM :=
  if J.lame = true ∨ 0 < J.x.open_ then (18, D, J)
  else if 524288 < s.length then (31, D, J)
  else if (replaceJ D (sealM 6 (four J.x.next ++ s))).1 ≠ 0 then ((replaceJ D (sealM 6 (four J.x.next ++ s))).1, (replaceJ D (sealM 6 (four J.x.next ++ s))).2, J)
  else (0, (replaceJ D (sealM 6 (four J.x.next ++ s))).2, { J with x := { J.x with state := s, done := [] } })
theorem sealM_length (k : UInt8) (b : List UInt8) : (sealM k b).length ≤ b.length + 9 := by
 unfold sealM
 split
 ·simp
 ·rename_i h
  have hb : ¬ 1048576 < b.length := fun e => h (.inr e)
  have := uvB_length b.length (by omega)
  have h4 := fixB_length (Crc.crc ([k] ++ (uvB b.length ++ b))).toNat 4
  simp only [List.length_append, List.length_cons, List.length_nil]
  omega
section
variable {n : Nat} {D : DiskD}
theorem putJ_good (h : Good n D) (k : UInt8) (b : List UInt8) : Good (n + (b.length + 10)) (putJ D k b).2 := by
 have h1 := (append_good h jName (sealM k b)).mono (show n + (sealM k b).length + 1 ≤ n + (b.length + 10) by have := sealM_length k b; omega)
 unfold putJ
 split
 ·exact sync_good h1 _
 ·exact h1
theorem replaceJ_good (h : Good n D) (s : List UInt8) : Good (n + (s.length + 2)) (replaceJ D s).2 := by
 have h1 := remove_good h jNew
 have h2 := create_good h1 jNew
 have h3 := (append_good h2 jNew s).mono (show n + 1 + s.length + 1 ≤ n + (s.length + 2) by omega)
 have h4 := sync_good h3 jNew
 unfold replaceJ
 split
 ·exact h1.mono (by omega)
 split
 ·exact h2.mono (by omega)
 split
 ·exact remove_good h3 _
 split
 ·exact h4
 ·exact rename_good h4 _ _
theorem madeJ_good (h : Good n D) : Good (n + 1) (madeJ D).2 := by
 unfold madeJ
 split
 ·exact create_good h _
 ·exact h.mono (by omega)
theorem intentJ_good (h : Good n D) (J : JrM) (p : List UInt8) : Good (n + (p.length + 14)) (intentJ D J p).2.1 := by
 have h1 := (putJ_good h 4 (four J.x.next ++ p)).mono (show n + ((four J.x.next ++ p).length + 10) ≤ n + (p.length + 14) by rw [List.length_append, four_length]; omega)
 unfold intentJ
 split
 ·exact h.mono (by omega)
 split
 ·exact h.mono (by omega)
 split
 ·exact h1
 ·exact h1
theorem commitJ_good (h : Good n D) (J : JrM) (id : Int) : Good (n + 14) (commitJ D J id).2.1 := by
 have h1 := (putJ_good h 5 (four id)).mono (show n + ((four id).length + 10) ≤ n + 14 by rw [four_length]; omega)
 unfold commitJ
 split
 ·exact h.mono (by omega)
 split
 ·exact h1
 ·exact h1
end
end Go.Proofs.YtnijmegalgoipaaGreatDoor
namespace Go.Proofs.YtnijmegalgoipaaGreatDoor
open Go.RowKit
section
variable {l : Env} {x : Operand} {p : Option Addr} {t' ty : TypeId} {w : World}
theorem jrEqP (w : World) (a : Addr) : (binOp .eql 43 (.pointer (some a)) (.pointer none)).run Tryz.prog w = .ok (.bool false) w := by kernel_rfl
theorem jrEqN (w : World) : (binOp .eql 43 (.pointer none) (.pointer none)).run Tryz.prog w = .ok (.bool true) w := by kernel_rfl
theorem X.jEq (hx : ev l x = some (.pointer p)) : X Tryz.prog l (.binOp .eql 43 x (.const (.pointer none)) t') ty w (.bool p.isNone) w :=
 X.bin hx rfl guard_ptr (by cases p with | none => exact jrEqN w | some a => exact jrEqP w a)
end
def jcells (gd : Nat) (J : JrM) (v : Value) : Array Value := #[.pointer (some ⟨gd, 0, none⟩), str J.x.state, v, .int .i64 J.x.next, .int .i64 J.x.good, .int .i64 J.x.open_, str J.x.last, .bool J.lame]
structure JF (B : Nat) (w : World) (gd gj : Nat) (D : DiskD) (v : Value) (S : Nat → Prop) : Prop where
  own : Own B w gd D S
  g : ¬ S gj
  v : ∀ k, v.ownBlock = some k → ¬ S k ∧ B ≤ k
  gB : B ≤ gj
structure JAll (B : Nat) (w : World) (gd gj : Nat) (D : DiskD) (J : JrM) (v : Value) (S : Nat → Prop) : Prop where
  blk : Blk w gj 106 (jcells gd J v)
  row : Row w 9 1 v J.x.done.length (J.x.done.map str)
  jf : JF B w gd gj D v S
section
variable {B gd gj : Nat} {w w' : World} {D : DiskD} {J : JrM} {v : Value} {S : Nat → Prop}
theorem JF.bel (h : JF B w gd gj D v S) (hb : Below w.heap.size w w') : JF B w' gd gj D v S := ⟨h.own.bel hb, h.g, h.v, h.gB⟩
theorem JF.chg (h : JF B w gd gj D v S) (hC : Chg (fun k => k = gj) w w') (_ : True) : JF B w' gd gj D v S := ⟨h.own.other hC (fun k hk e => h.g (by rw [hk] at e; exact e)), h.g, h.v, h.gB⟩
theorem JAll.bel (h : JAll B w gd gj D J v S) (hb : Below w.heap.size w w') : JAll B w' gd gj D J v S := ⟨h.blk.bel hb, h.row.bel hb, h.jf.bel hb⟩
end
def JPost (B : Nat) (w : World) (gd gj : Nat) (D : DiskD) (J : JrM) (v : Value) (S : Nat → Prop) (w' : World) : Prop :=
  ∃ v' S', JAll B w' gd gj D J v' S' ∧ (∀ k, S' k → S k ∨ w.heap.size ≤ k) ∧ (∀ k, v'.ownBlock = some k → v.ownBlock = some k ∨ w.heap.size ≤ k) ∧ Chg (fun k => S k ∨ k = gj ∨ v.ownBlock = some k) w w'
theorem jdisk {P : Program} {f : FuncId} {args : Array Value} {B gd gj : Nat} {w0 w : World} {D : DiskD} {v : Value} {S S1 X : Nat → Prop} {x : Int × DiskD} {ty : TypeId} {cs : Array Value} {e : TypeId} {n : Nat} {xs : List Value}
  (hc : Calls P f args w (DPost gd S1 w x)) (hB : Blk w gj ty cs) (hR : Row w e 1 v n xs) (hF : JF B w gd gj D v S1) (hcw : Chg X w0 w) (hSX : ∀ k, S k → X k) (hS1 : ∀ k, S1 k → S k ∨ w0.heap.size ≤ k) :
  Calls P f args w (fun e' w' => e' = .returned (.int .i64 x.1) ∧ ∃ S2, Blk w' gj ty cs ∧ Row w' e 1 v n xs ∧ JF B w' gd gj x.2 v S2 ∧ (∀ k, S2 k → S k ∨ w0.heap.size ≤ k) ∧ Chg X w0 w' ∧ w.heap.size ≤ w'.heap.size) := by
 refine hc.mono ?_
 rintro e' w' ⟨rfl, h1, hX⟩
 have hlt := hB.lt
 have hgB := hF.gB
 have hsz := hcw.size
 refine ⟨rfl, Ext S1 w w', hB.chg hX hF.g, hR.chg hX (fun k hk => (hF.v k hk).1), ⟨hF.own.step h1 hX (by omega), ?_, ?_, hgB⟩, ?_, hcw.next hX (fun i hi => (hS1 i hi).imp (hSX i) id), hX.size⟩
 ·rintro (h | ⟨h, _⟩)
  ·exact hF.g h
  ·omega
 ·refine fun k hk => ⟨?_, (hF.v k hk).2⟩
  rintro (h | ⟨h, _⟩)
  ·exact (hF.v k hk).1 h
  ·have := hR.lt k hk
   omega
 ·rintro k (h | ⟨h, _⟩)
  ·exact hS1 k h
  ·right; omega
theorem jbs4 (a b c d : UInt8) (w : World) : (Instr.buildSlice 94 4 #[(0, bv a), (1, bv b), (2, bv c), (3, bv d)]).run Tryz.prog w = .ok (.slice (some ⟨w.heap.size, 0, none⟩) 4 4) (w.alloc (.cells #[bv a, bv b, bv c, bv d] 5)) := by kernel_rfl
theorem jfour_any (n : Int) (w : World) : Calls Tryz.prog 68 #[.int .i64 n] w fun e w' => e = .returned (str (four n)) ∧ Below w.heap.size w w' := by
 refine W_enter (args := [.int .i64 n]) 16 Tryz.func68 rfl rfl rfl (W_sub [(0, .int .i64 n)] ?_ ⟨rfl, trivial⟩)
 have hbw := Below.refl w.heap.size w
 refine W_rs (sa rfl rfl (Wn (tN (W_rs (sm rfl rfl (st (X.convI rfl Tryz.underlying3 Tryz.underlying5 (wb _)) rfl (sm rfl rfl (st (X.shr (q := 256) rfl rfl (by decide) (by decide) rfl rfl) rfl (st (X.convI rfl Tryz.underlying3 Tryz.underlying5 (wb _)) rfl (sm rfl rfl ?_))))))))))
 refine st (X.shr (q := 65536) rfl rfl (by decide) (by decide) rfl rfl) rfl (st (X.convI rfl Tryz.underlying3 Tryz.underlying5 (wb _)) rfl (sm rfl rfl (st (X.shr (q := 16777216) rfl rfl (by decide) (by decide) rfl rfl) rfl (st (X.convI rfl Tryz.underlying3 Tryz.underlying5 (wb _)) rfl (sbs 1 rfl (jbs4 _ _ _ _ _) (by simp [maxLen]) rfl rfl (fun g w1 hR hg hb => ?_))))))
 replace hbw := bthen hbw hb
 refine st (X.strOf (s := four n) rfl Tryz.underlying94 Tryz.underlying5 Tryz.underlying9 hR.reads) rfl (sa rfl rfl (Wn (tN (W_ret ?_))))
 exact (rT rfl rfl ⟨rfl, hbw⟩).1
section
variable (B gd gj : Nat) (D : DiskD) (J : JrM) (v : Value) (S : Nat → Prop) (w : World)
theorem jput_any (k : UInt8) (b : List UInt8) (n : Nat) (h : JAll B w gd gj D J v S) (hg : Good n D) (hn : n ≤ 1000000000) (hb_ : b.length ≤ 1000000) :
  Calls Tryz.prog 67 #[.pointer (some ⟨gj, 0, none⟩), .int .u8 k.toNat, str b] w (fun e w' => e = .returned (.int .i64 (putJ D k b).1) ∧ JPost B w gd gj (putJ D k b).2 { J with lame := lameOf (putJ D k b).1 } v S w') := by
 have hB : Blk w gj 106 #[.pointer (some ⟨gd, 0, none⟩), str J.x.state, v, .int .i64 J.x.next, .int .i64 J.x.good, .int .i64 J.x.open_, str J.x.last, .bool J.lame] := h.blk
 have hR := h.row
 have hF := h.jf
 have hsl := sealM_length k b
 have hg1 := append_good hg jName (sealM k b)
 have hne := hR.ne2 hB (by decide)
 have hX : S gj ∨ gj = gj ∨ v.ownBlock = some gj := .inr (.inl rfl)
 have hlt := hB.lt
 refine W_enter (args := [.pointer (some ⟨gj, 0, none⟩), .int .u8 k.toNat, str b]) 33 Tryz.func67 rfl rfl rfl (W_sub [(0, .pointer (some ⟨gj, 0, none⟩)), (1, .int .u8 k.toNat), (2, str b)] ?_ ⟨rfl, rfl, rfl, trivial⟩)
 have hcw := Chg.refl (fun k => S k ∨ k = gj ∨ v.ownBlock = some k) w
 refine W_rs (sa rfl rfl (Wn (tN ?_)))
 have hB0 := hB
 refine W_phase_s (fun W_ => Below w.heap.size w W_) 7 [true, true, true, true, true, true, false] (by kernel_rfl) (by kernel_rfl) (bdrew (Below.refl _ _)) ?_
 obtain ⟨w1, hw_⟩ : ∃ w1 : World, w1 = World.drew w := ⟨_, rfl⟩
 rw [← hw_]
 have hb : Below w.heap.size w w1 := by rw [hw_]; exact bdrew (Below.refl _ _)
 clear hw_
 have hS := hb
 replace hcw := hcw.then_below hb
 replace hB := hB.bel hb
 replace hR := hR.bel hb
 replace hF := hF.bel hb
 have hz_w1 := hb.size
 clear hb
 refine pY (fun W_ hW_ => (X.move rfl)) rfl (pY (fun W_ hW_ => (X.nilChk rfl)) rfl (pY (fun W_ hW_ => (X.fa fa106_0 rfl)) rfl (pY (fun W_ hW_ => (X.ldL rfl (hB0.bel hW_) Tryz.underlying23 rfl rfl)) rfl (pY (fun W_ hW_ => (X.move rfl)) rfl (pY (fun W_ hW_ => (X.move rfl)) rfl (pL (fun Q_ hQ_ hP_ => (sc _ Tryz.func24 rfl (by kernel_rfl) rfl rfl ((Seal_any k b _ (by omega)).mono ?_)))))))))
 rintro e_ w2 ⟨rfl, hb⟩
 refine cR ?_
 replace hS := bthen hS hb
 replace hcw := hcw.then_below hb
 replace hB := hB.bel hb
 replace hR := hR.bel hb
 replace hF := hF.bel hb
 have hz_w2 := hb.size
 clear hb
 refine Wn (hQ_ _ _ hS ?_)
 clear hQ_ hP_ Q_
 refine pN (sc _ Tryz.func42 rfl (by kernel_rfl) rfl rfl ((jdisk (Append_any gd D _ jName (sealM k b) _ hF.own.at_ hg.ok (hg.bud (by omega)) (by omega)) hB hR hF hcw (fun k hk => .inl hk) (fun k hk => .inl hk)).mono ?_))
 clear hB hR hF
 rintro e_ w3 ⟨rfl, S1, hB, hR, hF, hS1, hcw, hz1_⟩
 refine cR ?_
 obtain ⟨e1, D1, hap⟩ : ∃ e1 D1, appendM D jName (sealM k b) = (e1, D1) := ⟨_, _, rfl⟩
 unfold putJ
 rw [hap] at hF hg1 ⊢
 simp only at hF hg1 ⊢
 refine sa rfl rfl (Wn (nN (W_seq (W_rs (sm rfl rfl (st (X.eql rfl rfl) rfl (Wn (tN (W_if rfl (fun h17 => ?_) (fun h17 => ?_))))))))))
 ·first | replace h17 := of_decide_eq_true h17 | replace h17 := of_decide_eq_false (notT h17) | replace h17 := notT h17 | skip
  obtain rfl : e1 = 0 := h17
  rw [if_pos rfl]
  refine W_reg (sm rfl rfl (st (X.nilChk rfl) rfl (st (X.fa fa106_0 rfl) rfl (st (X.ldL rfl hB Tryz.underlying23 rfl rfl) rfl (sc _ Tryz.func43 rfl (by kernel_rfl) rfl rfl ((jdisk (Sync_any gd D1 _ jName _ hF.own.at_ hg1.ok) hB hR hF hcw (fun k hk => .inl hk) hS1).mono ?_))))))
  clear hB hR hF
  rintro e_ w4 ⟨rfl, S1, hB, hR, hF, hS1, hcw, hz1_⟩
  refine cR (sa rfl rfl (Wn (tN (W_rs (sm rfl rfl (sm rfl rfl (st (X.neq rfl rfl) rfl (sb rfl rfl (fun h26 => ?_) (fun h26 => ?_)))))))))
  ·first | replace h26 := of_decide_eq_true h26 | replace h26 := of_decide_eq_false (notT h26) | replace h26 := notT h26 | skip
   refine gY (g := 26) rfl rfl rfl (sm rfl rfl (gY (g := 26) rfl rfl rfl (st (X.neq rfl rfl) rfl (st (X.pickT rfl rfl) rfl (st (X.nilChk rfl) rfl (st (X.fa fa106_4 rfl) rfl (ssB rfl rfl hB siz4 rfl (by first | decide | simp) (fun w5 hB_ hc_ => ?_))))))))
   replace hB := hB_
   clear hB_
   replace hR := hR.chg hc_ (by first | (show ¬ _ = _; omega) | (intro k_ hk_; simp [Value.ownBlock] at hk_; subst hk_; show ¬ _ = _; omega) | assumption | trivial)
   replace hF := hF.chg hc_ (by first | (show ¬ _ = _; omega) | (intro k_ hk_; simp [Value.ownBlock] at hk_; subst hk_; show ¬ _ = _; omega) | assumption | trivial)
   replace hcw := hcw.next hc_ (fun i_ hi_ => by first | exact .inl hi_ | exact .inl (.inl hi_) | (right; subst hi_; omega) | (left; subst hi_; show _ ≤ _; omega) | (left; subst hi_; assumption))
   have hz_w5 := hc_.size
   clear hc_
   refine Wn (tN (W_rs (sm rfl rfl (sa rfl rfl (Wn (tN (W_ret ((rT rfl rfl ⟨rfl, v, S1, ⟨?_, hR, hF⟩, hS1, fun k hk => .inl hk, hcw⟩).1))))))))
   show Blk _ _ _ #[_, _, _, _, _, _, _, .bool (decide (_ ≠ 0) && _)]
   rw [decide_eq_true h26]
   exact hB
  ·first | replace h26 := of_decide_eq_false h26 | replace h26 := of_decide_eq_true (notF h26) | replace h26 := notF h26 | skip
   refine gN (g := 26) rfl rfl rfl rfl (gN (g := 26) rfl rfl rfl rfl (st (X.pickF rfl rfl) rfl (st (X.nilChk rfl) rfl (st (X.fa fa106_4 rfl) rfl (ssB rfl rfl hB siz4 rfl (by first | decide | simp) (fun w6 hB_ hc_ => ?_))))))
   replace hB := hB_
   clear hB_
   replace hR := hR.chg hc_ (by first | (show ¬ _ = _; omega) | (intro k_ hk_; simp [Value.ownBlock] at hk_; subst hk_; show ¬ _ = _; omega) | assumption | trivial)
   replace hF := hF.chg hc_ (by first | (show ¬ _ = _; omega) | (intro k_ hk_; simp [Value.ownBlock] at hk_; subst hk_; show ¬ _ = _; omega) | assumption | trivial)
   replace hcw := hcw.next hc_ (fun i_ hi_ => by first | exact .inl hi_ | exact .inl (.inl hi_) | (right; subst hi_; omega) | (left; subst hi_; show _ ≤ _; omega) | (left; subst hi_; assumption))
   have hz_w6 := hc_.size
   clear hc_
   refine Wn (tN (W_rs (sm rfl rfl (sa rfl rfl (Wn (tN (W_ret ((rT rfl rfl ⟨rfl, v, S1, ⟨?_, hR, hF⟩, hS1, fun k hk => .inl hk, hcw⟩).1))))))))
   show Blk _ _ _ #[_, _, _, _, _, _, _, .bool (decide (_ ≠ 0) && _)]
   rw [decide_eq_false h26]
   exact hB
 ·first | replace h17 := of_decide_eq_false h17 | replace h17 := of_decide_eq_true (notF h17) | replace h17 := notF h17 | skip
  rw [if_neg h17]
  refine W_skip (tN (W_rs (sm rfl rfl (sm rfl rfl (st (X.neq rfl rfl) rfl (sb rfl rfl (fun h26 => ?_) (fun h26 => ?_)))))))
  ·first | replace h26 := of_decide_eq_true h26 | replace h26 := of_decide_eq_false (notT h26) | replace h26 := notT h26 | skip
   refine gY (g := 26) rfl rfl rfl (sm rfl rfl (gY (g := 26) rfl rfl rfl (st (X.neq rfl rfl) rfl (st (X.pickT rfl rfl) rfl (st (X.nilChk rfl) rfl (st (X.fa fa106_4 rfl) rfl (ssB rfl rfl hB siz4 rfl (by first | decide | simp) (fun w7 hB_ hc_ => ?_))))))))
   replace hB := hB_
   clear hB_
   replace hR := hR.chg hc_ (by first | (show ¬ _ = _; omega) | (intro k_ hk_; simp [Value.ownBlock] at hk_; subst hk_; show ¬ _ = _; omega) | assumption | trivial)
   replace hF := hF.chg hc_ (by first | (show ¬ _ = _; omega) | (intro k_ hk_; simp [Value.ownBlock] at hk_; subst hk_; show ¬ _ = _; omega) | assumption | trivial)
   replace hcw := hcw.next hc_ (fun i_ hi_ => by first | exact .inl hi_ | exact .inl (.inl hi_) | (right; subst hi_; omega) | (left; subst hi_; show _ ≤ _; omega) | (left; subst hi_; assumption))
   have hz_w7 := hc_.size
   clear hc_
   refine Wn (tN (W_rs (sm rfl rfl (sa rfl rfl (Wn (tN (W_ret ((rT rfl rfl ⟨rfl, v, S1, ⟨?_, hR, hF⟩, hS1, fun k hk => .inl hk, hcw⟩).1))))))))
   show Blk _ _ _ #[_, _, _, _, _, _, _, .bool (decide (_ ≠ 0) && _)]
   rw [decide_eq_true h26]
   exact hB
  ·first | replace h26 := of_decide_eq_false h26 | replace h26 := of_decide_eq_true (notF h26) | replace h26 := notF h26 | skip
   refine gN (g := 26) rfl rfl rfl rfl (gN (g := 26) rfl rfl rfl rfl (st (X.pickF rfl rfl) rfl (st (X.nilChk rfl) rfl (st (X.fa fa106_4 rfl) rfl (ssB rfl rfl hB siz4 rfl (by first | decide | simp) (fun w8 hB_ hc_ => ?_))))))
   replace hB := hB_
   clear hB_
   replace hR := hR.chg hc_ (by first | (show ¬ _ = _; omega) | (intro k_ hk_; simp [Value.ownBlock] at hk_; subst hk_; show ¬ _ = _; omega) | assumption | trivial)
   replace hF := hF.chg hc_ (by first | (show ¬ _ = _; omega) | (intro k_ hk_; simp [Value.ownBlock] at hk_; subst hk_; show ¬ _ = _; omega) | assumption | trivial)
   replace hcw := hcw.next hc_ (fun i_ hi_ => by first | exact .inl hi_ | exact .inl (.inl hi_) | (right; subst hi_; omega) | (left; subst hi_; show _ ≤ _; omega) | (left; subst hi_; assumption))
   have hz_w8 := hc_.size
   clear hc_
   refine Wn (tN (W_rs (sm rfl rfl (sa rfl rfl (Wn (tN (W_ret ((rT rfl rfl ⟨rfl, v, S1, ⟨?_, hR, hF⟩, hS1, fun k hk => .inl hk, hcw⟩).1))))))))
   show Blk _ _ _ #[_, _, _, _, _, _, _, .bool (decide (_ ≠ 0) && _)]
   rw [decide_eq_false h26]
   exact hB
theorem jmay_any (id : Int) (h : JAll B w gd gj D J v S) : Calls Tryz.prog 69 #[.pointer (some ⟨gj, 0, none⟩), .int .i64 id] w (fun e w' => e = .returned (.int .i64 (mayJ J id)) ∧ w = w') := by
 have hB : Blk w gj 106 #[.pointer (some ⟨gd, 0, none⟩), str J.x.state, v, .int .i64 J.x.next, .int .i64 J.x.good, .int .i64 J.x.open_, str J.x.last, .bool J.lame] := h.blk
 unfold mayJ
 refine W_enter (args := [.pointer (some ⟨gj, 0, none⟩), .int .i64 id]) 24 Tryz.func69 rfl rfl rfl (W_sub [(0, .pointer (some ⟨gj, 0, none⟩)), (1, .int .i64 id)] ?_ ⟨rfl, rfl, trivial⟩)
 refine W_rs (sa rfl rfl (Wn (tN (W_seq (W_block (W_rs (sm rfl rfl (st (X.jEq rfl) rfl (sa rfl rfl (Wn ?_))))))))))
 refine tN (W_no rfl (rfl) (W_rs (sm rfl rfl (st (X.nilChk rfl) rfl (st (X.fa fa106_4 rfl) rfl (st (X.ldL rfl hB Tryz.underlying4 rfl rfl) rfl (sa rfl rfl (Wn (tN (W_if rfl (fun h8 => ?_) (fun h8 => ?_)))))))))))
 ·first | replace h8 := of_decide_eq_true h8 | replace h8 := of_decide_eq_false (notT h8) | replace h8 := notT h8 | skip
  rw [if_pos h8]
  refine W_rs (sa rfl rfl (Wn (tN (W_ret (bR (tR ?_))))))
  exact (rT rfl rfl ⟨rfl, rfl⟩).1
 ·first | replace h8 := of_decide_eq_false h8 | replace h8 := of_decide_eq_true (notF h8) | replace h8 := notF h8 | skip
  rw [if_neg (by simpa using h8)]
  refine W_rs (sm rfl rfl (st (X.lss rfl rfl) rfl (sb rfl rfl (fun h16 => ?_) (fun h16 => ?_))))
  ·first | replace h16 := of_decide_eq_true h16 | replace h16 := of_decide_eq_false (notT h16) | replace h16 := notT h16 | skip
   rw [if_pos (.inl (by omega))]
   refine gN (g := 16) rfl rfl rfl rfl (gN (g := 16) rfl rfl rfl rfl (gN (g := 16) rfl rfl rfl rfl (gN (g := 16) rfl rfl rfl rfl (gN (g := 16) rfl rfl rfl rfl (gN (g := 16) rfl rfl rfl rfl (st (X.pickT rfl rfl) rfl (sa rfl rfl (Wn (tN (W_yes rfl (rfl) ?_))))))))))
   refine W_rs (sa rfl rfl (Wn (tN (W_ret (bR (tR ?_))))))
   exact (rT rfl rfl ⟨rfl, rfl⟩).1
  ·first | replace h16 := of_decide_eq_false h16 | replace h16 := of_decide_eq_true (notF h16) | replace h16 := notF h16 | skip
   refine gY (g := 16) rfl rfl rfl (sm rfl rfl (gY (g := 16) rfl rfl rfl (sm rfl rfl (gY (g := 16) rfl rfl rfl (st (X.nilChk rfl) rfl (gY (g := 16) rfl rfl rfl (st (X.fa fa106_2 rfl) rfl (gY (g := 16) rfl rfl rfl (st (X.ldL rfl hB Tryz.underlying3 rfl rfl) rfl (gY (g := 16) rfl rfl rfl ?_))))))))))
   refine st (X.neq rfl rfl) rfl (st (X.pickF rfl rfl) rfl (sa rfl rfl (Wn (tN (W_if rfl (fun h13 => ?_) (fun h13 => ?_))))))
   ·first | replace h13 := of_decide_eq_true h13 | replace h13 := of_decide_eq_false (notT h13) | replace h13 := notT h13 | skip
    rw [if_pos (.inr (by omega))]
    refine W_rs (sa rfl rfl (Wn (tN (W_ret (bR (tR ?_))))))
    exact (rT rfl rfl ⟨rfl, rfl⟩).1
   ·first | replace h13 := of_decide_eq_false h13 | replace h13 := of_decide_eq_true (notF h13) | replace h13 := notF h13 | skip
    rw [if_neg (by omega)]
    refine W_skip (bN (tN (W_rs (sa rfl rfl (Wn (tN (W_ret ?_)))))))
    exact (rT rfl rfl ⟨rfl, rfl⟩).1
theorem jabort_any (id : Int) (h : JAll B w gd gj D J v S) : Calls Tryz.prog 29 #[.pointer (some ⟨gj, 0, none⟩), .int .i64 id] w (fun e w' => e = .returned (.int .i64 (abortJ J id).1) ∧ JPost B w gd gj D (abortJ J id).2 v S w') := by
 have hB : Blk w gj 106 #[.pointer (some ⟨gd, 0, none⟩), str J.x.state, v, .int .i64 J.x.next, .int .i64 J.x.good, .int .i64 J.x.open_, str J.x.last, .bool J.lame] := h.blk
 have hR := h.row
 have hF := h.jf
 have hne := hR.ne2 hB (by decide)
 have hX : S gj ∨ gj = gj ∨ v.ownBlock = some gj := .inr (.inl rfl)
 have hlt := hB.lt
 unfold abortJ
 refine W_enter (args := [.pointer (some ⟨gj, 0, none⟩), .int .i64 id]) 18 Tryz.func29 rfl rfl rfl (W_sub [(0, .pointer (some ⟨gj, 0, none⟩)), (1, .int .i64 id)] ?_ ⟨rfl, rfl, trivial⟩)
 have hcw := Chg.refl (fun k => S k ∨ k = gj ∨ v.ownBlock = some k) w
 refine W_rs (sa rfl rfl (Wn (tN (W_rs (sm rfl rfl (sm rfl rfl (sc _ Tryz.func69 rfl (by kernel_rfl) rfl rfl ((jmay_any B gd gj D J v S _ id h).mono ?_))))))))
 rintro e_ w_ ⟨rfl, rfl⟩
 refine cR (sa rfl rfl (Wn (tN (W_seq (W_rs (sm rfl rfl (st (X.eql rfl rfl) rfl (Wn (tN (W_if rfl (fun h10 => ?_) (fun h10 => ?_)))))))))))
 ·first | replace h10 := of_decide_eq_true h10 | replace h10 := of_decide_eq_false (notT h10) | replace h10 := notT h10 | skip
  rw [if_neg (by omega)]
  rw [h10]
  refine W_reg (sm rfl rfl (sm rfl rfl (st (X.nilChk rfl) rfl (st (X.fa fa106_2 rfl) rfl (ssB rfl rfl hB siz3 rfl (by first | decide | simp) (fun w1 hB_ hc_ => ?_))))))
  replace hB := hB_
  clear hB_
  replace hR := hR.chg hc_ (by first | (show ¬ _ = _; omega) | (intro k_ hk_; simp [Value.ownBlock] at hk_; subst hk_; show ¬ _ = _; omega) | assumption | trivial)
  replace hF := hF.chg hc_ (by first | (show ¬ _ = _; omega) | (intro k_ hk_; simp [Value.ownBlock] at hk_; subst hk_; show ¬ _ = _; omega) | assumption | trivial)
  replace hcw := hcw.next hc_ (fun i_ hi_ => by first | exact .inl hi_ | exact .inl (.inl hi_) | (right; subst hi_; omega) | (left; subst hi_; show _ ≤ _; omega) | (left; subst hi_; assumption))
  have hz_w1 := hc_.size
  clear hc_
  refine st (X.nilChk rfl) rfl (st (X.fa fa106_3 rfl) rfl (ssB rfl rfl hB siz9 rfl (by first | decide | simp) (fun w2 hB_ hc_ => ?_)))
  replace hB := hB_
  clear hB_
  replace hR := hR.chg hc_ (by first | (show ¬ _ = _; omega) | (intro k_ hk_; simp [Value.ownBlock] at hk_; subst hk_; show ¬ _ = _; omega) | assumption | trivial)
  replace hF := hF.chg hc_ (by first | (show ¬ _ = _; omega) | (intro k_ hk_; simp [Value.ownBlock] at hk_; subst hk_; show ¬ _ = _; omega) | assumption | trivial)
  replace hcw := hcw.next hc_ (fun i_ hi_ => by first | exact .inl hi_ | exact .inl (.inl hi_) | (right; subst hi_; omega) | (left; subst hi_; show _ ≤ _; omega) | (left; subst hi_; assumption))
  have hz_w2 := hc_.size
  clear hc_
  refine Wn (tN (W_rs (sm rfl rfl (sa rfl rfl (Wn (tN (W_ret ?_)))))))
  exact (rT rfl rfl ⟨rfl, v, S, ⟨hB, hR, hF⟩, fun k hk => .inl hk, fun k hk => .inl hk, hcw⟩).1
 ·first | replace h10 := of_decide_eq_false h10 | replace h10 := of_decide_eq_true (notF h10) | replace h10 := notF h10 | skip
  rw [if_pos h10]
  refine W_skip (tN (W_rs (sm rfl rfl (sa rfl rfl (Wn (tN (W_ret ?_)))))))
  exact (rT rfl rfl ⟨rfl, v, S, ⟨hB, hR, hF⟩, fun k hk => .inl hk, fun k hk => .inl hk, hcw⟩).1
end
end Go.Proofs.YtnijmegalgoipaaGreatDoor
namespace Go.Proofs.YtnijmegalgoipaaGreatDoor
open Go.RowKit
theorem bslS (w : World) : (Instr.buildSlice 42 0 #[]).run Tryz.prog w = .ok (.slice (some ⟨w.heap.size, 0, none⟩) 0 0) (w.alloc (.cells #[] 9)) := by kernel_rfl
theorem strs_one (l : List (List UInt8)) : ∀ u ∈ l.map str, u.oneCell' = true := by
 intro u hu
 obtain ⟨s, _, rfl⟩ := List.mem_map.1 hu
 rfl
theorem CloneS_any (v : Value) (l : List (List UInt8)) (w : World) (hR : Row w 9 1 v l.length (l.map str)) (hl : l.length ≤ 1099511627776) :
  Calls Tryz.prog 78 #[v] w fun e w' => ∃ v', e = .returned v' ∧ Row w' 9 1 v' l.length (l.map str) ∧ (∀ k, v'.ownBlock = some k → w.heap.size ≤ k) ∧ Below w.heap.size w w' := by
 obtain ⟨a, c, rfl, _, _⟩ := hR.shape
 refine W_enter (args := [.slice a l.length c]) 8 Tryz.func78 rfl rfl rfl (W_sub [(0, .slice a l.length c)] ?_ ⟨rfl, trivial⟩)
 have hbw := Below.refl w.heap.size w
 refine W_rs (sa rfl rfl (Wn (tN (W_seq (W_rs (sm rfl rfl (st (X.slNil Tryz.underlying42 rfl) rfl (Wn (tN (W_if rfl (fun h4 => ?_) (fun h4 => ?_)))))))))))
 ·first | replace h4 := of_decide_eq_true h4 | replace h4 := of_decide_eq_false (notT h4) | replace h4 := notT h4 | skip
  obtain rfl : a = none := Option.isNone_iff_eq_none.1 h4
  have h0 : l = [] := by
   rcases hR.2 with ⟨_, h0⟩ | ⟨g, off, cap, cur, fz, hv, _⟩
   ·exact List.eq_nil_of_length_eq_zero h0
   ·cases hv
  refine W_rs (sa rfl rfl (Wn (tN (W_ret (tR ?_)))))
  subst h0
  exact (rT rfl rfl ⟨_, rfl, Row.nil _ _ _, fun k hk => by simp [Value.ownBlock] at hk, hbw⟩).1
 ·first | replace h4 := of_decide_eq_false h4 | replace h4 := of_decide_eq_true (notF h4) | replace h4 := notF h4 | skip
  refine W_skip (tN (W_rs (sbs (ps := []) (vs := []) (cs := #[]) 1 rfl (bslS _) (by simp [maxLen]) rfl rfl (fun g5 w1 hR5 hg5 hb => ?_))))
  replace hbw := bthen hbw hb
  have hz5 := hb.size
  clear hb
  refine sm rfl rfl (sapp rfl rfl Tryz.underlying42 inf9 rfl (by decide) hR5 ((hR.bel hbw).src Tryz.underlying42 (strs_one l)) (by simp only [maxLen]; omega) (by omega) rfl (fun v' w2 hR2 hC2 hv => ?_))
  have hO : ∀ k, v'.ownBlock = some k → w.heap.size ≤ k := own_next hv (fun k hk => by simp [Value.ownBlock] at hk; omega) (by omega)
  replace hbw := bapp hbw hC2 (fun k hk => by simp [Value.ownBlock] at hk; omega)
  refine sa rfl rfl (Wn (tN (W_ret ((rT rfl rfl ⟨v', rfl, ?_, hO, hbw⟩).1))))
  rw [Nat.zero_add] at hR2
  exact hR2
theorem dnext {P : Program} {f : FuncId} {args : Array Value} {g : Nat} {w0 w : World} {S S1 : Nat → Prop} {x : Int × DiskD} (hc : Calls P f args w (DPost g S1 w x)) (hS1 : ∀ k, S1 k → Ext S w0 w k) (hcw : Chg S w0 w) :
  Calls P f args w (fun e' w' => e' = .returned (.int .i64 x.1) ∧ ∃ S2, DiskAt w' g x.2 S2 ∧ (∀ k, S2 k → Ext S w0 w' k) ∧ Chg S w0 w' ∧ w.heap.size ≤ w'.heap.size) := by
 refine hc.mono ?_
 rintro e' w' ⟨rfl, h1, hX⟩
 have hsz := hcw.size
 have hs2 := hX.size
 refine ⟨rfl, _, h1, ?_, hcw.next hX (fun i hi => (hS1 i hi).imp id (fun h => h.1)), hX.size⟩
 rintro k (h | ⟨h, h'⟩)
 ·exact (hS1 k h).imp id (fun e => ⟨e.1, by omega⟩)
 ·exact .inr ⟨by omega, h'⟩
theorem replace_any (gd : Nat) (D : DiskD) (S : Nat → Prop) (s : List UInt8) (n : Nat) (w : World) (h : DiskAt w gd D S) (hg : Good n D) (hn : n ≤ 1000000000) (hs : s.length ≤ 100000000) :
  Calls Tryz.prog 66 #[.pointer (some ⟨gd, 0, none⟩), str s] w (DPost gd S w (replaceJ D s)) := by
 have h1 := remove_good hg jNew
 have h2 := create_good h1 jNew
 have h3 := append_good h2 jNew s
 have h4 := sync_good h3 jNew
 refine W_enter (args := [.pointer (some ⟨gd, 0, none⟩), str s]) 38 Tryz.func66 rfl rfl rfl (W_sub [(0, .pointer (some ⟨gd, 0, none⟩)), (1, str s)] ?_ ⟨rfl, rfl, trivial⟩)
 have hcw := Chg.refl (S) w
 refine W_rs (sa rfl rfl (Wn (tN (W_seq (W_rs (sm rfl rfl (sc _ Tryz.func47 rfl (by kernel_rfl) rfl rfl ((dnext (Remove_any gd D _ jNew _ h hg.ok) (fun k hk => .inl hk) hcw).mono ?_))))))))
 rintro e_ w1 ⟨rfl, S1, h, hS1, hcw, hz1_⟩
 refine cR ?_
 unfold replaceJ
 obtain ⟨e1, D1, hp1⟩ : ∃ e1 D1, removeM D jNew = (e1, D1) := ⟨_, _, rfl⟩
 rw [hp1] at h h1 h2 h3 h4 ⊢
 simp only at h h1 h2 h3 h4 ⊢
 refine sa rfl rfl (Wn (tN (W_rs (sm rfl rfl (st (X.neq rfl rfl) rfl (sb rfl rfl (fun h13 => ?_) (fun h13 => ?_)))))))
 ·first | replace h13 := of_decide_eq_true h13 | replace h13 := of_decide_eq_false (notT h13) | replace h13 := notT h13 | skip
  refine gY (g := 13) rfl rfl rfl (sm rfl rfl (gY (g := 13) rfl rfl rfl (st (X.neq rfl rfl) rfl (st (X.pickT rfl rfl) rfl (Wn (tN (W_if rfl (fun h16 => ?_) (fun h16 => ?_))))))))
  ·first | replace h16 := of_decide_eq_true h16 | replace h16 := of_decide_eq_false (notT h16) | replace h16 := notT h16 | skip
   refine W_rs (sm rfl rfl (sa rfl rfl (Wn (tN (W_ret (tR ?_))))))
   rw [if_pos (by omega)]
   exact (rT rfl rfl ⟨rfl, h.mono hS1, hcw⟩).1
  ·first | replace h16 := of_decide_eq_false h16 | replace h16 := of_decide_eq_true (notF h16) | replace h16 := notF h16 | skip
   rw [if_neg (by omega)]
   refine W_skip (tN (W_seq (W_rs (sm rfl rfl (sc _ Tryz.func41 rfl (by kernel_rfl) rfl rfl ((dnext (Create_any gd D1 _ jNew _ h h1.ok) hS1 hcw).mono ?_))))))
   rintro e_ w2 ⟨rfl, S1, h, hS1, hcw, hz1_⟩
   refine cR ?_
   obtain ⟨e2, D2, hp2⟩ : ∃ e D', createM D1 jNew = (e, D') := ⟨_, _, rfl⟩
   rw [hp2] at h h2 h3 h4 ⊢
   simp only at h h2 h3 h4 ⊢
   refine sa rfl rfl (Wn (tN (W_rs (sm rfl rfl (st (X.neq rfl rfl) rfl (Wn (tN (W_if rfl (fun h21 => ?_) (fun h21 => ?_)))))))))
   ·first | replace h21 := of_decide_eq_true h21 | replace h21 := of_decide_eq_false (notT h21) | replace h21 := notT h21 | skip
    refine W_rs (sm rfl rfl (sa rfl rfl (Wn (tN (W_ret (tR ?_))))))
    rw [if_pos h21]
    exact (rT rfl rfl ⟨rfl, h.mono hS1, hcw⟩).1
   ·first | replace h21 := of_decide_eq_false h21 | replace h21 := of_decide_eq_true (notF h21) | replace h21 := notF h21 | skip
    rw [if_neg h21]
    refine W_skip (tN (W_seq (W_rs (sm rfl rfl (sm rfl rfl (sc _ Tryz.func42 rfl (by kernel_rfl) rfl rfl ((dnext (Append_any gd D2 _ jNew s _ h h2.ok (h2.bud (by omega)) (by omega)) hS1 hcw).mono ?_)))))))
    rintro e_ w3 ⟨rfl, S1, h, hS1, hcw, hz1_⟩
    refine cR ?_
    obtain ⟨e3, D3, hp3⟩ : ∃ e D', appendM D2 jNew s = (e, D') := ⟨_, _, rfl⟩
    rw [hp3] at h h3 h4 ⊢
    simp only at h h3 h4 ⊢
    refine sa rfl rfl (Wn (tN (W_rs (sm rfl rfl (st (X.neq rfl rfl) rfl (Wn (tN (W_if rfl (fun h27 => ?_) (fun h27 => ?_)))))))))
    ·first | replace h27 := of_decide_eq_true h27 | replace h27 := of_decide_eq_false (notT h27) | replace h27 := notT h27 | skip
     rw [if_pos h27]
     refine W_rs (sm rfl rfl (sc _ Tryz.func47 rfl (by kernel_rfl) rfl rfl ((dnext (Remove_any gd D3 _ jNew _ h h3.ok) hS1 hcw).mono ?_)))
     rintro e_ w4 ⟨rfl, S1, h, hS1, hcw, hz1_⟩
     refine cR (Wn (tN (W_rs (sm rfl rfl (sa rfl rfl (Wn (tN (W_ret (tR ?_)))))))))
     exact (rT rfl rfl ⟨rfl, h.mono hS1, hcw⟩).1
    ·first | replace h27 := of_decide_eq_false h27 | replace h27 := of_decide_eq_true (notF h27) | replace h27 := notF h27 | skip
     rw [if_neg h27]
     refine W_skip (tN (W_seq (W_rs (sm rfl rfl (sc _ Tryz.func43 rfl (by kernel_rfl) rfl rfl ((dnext (Sync_any gd D3 _ jNew _ h h3.ok) hS1 hcw).mono ?_))))))
     rintro e_ w5 ⟨rfl, S1, h, hS1, hcw, hz1_⟩
     refine cR ?_
     obtain ⟨e4, D4, hp4⟩ : ∃ e D', syncM D3 jNew = (e, D') := ⟨_, _, rfl⟩
     rw [hp4] at h h4 ⊢
     simp only at h h4 ⊢
     refine sa rfl rfl (Wn (tN (W_rs (sm rfl rfl (st (X.neq rfl rfl) rfl (Wn (tN (W_if rfl (fun h34 => ?_) (fun h34 => ?_)))))))))
     ·first | replace h34 := of_decide_eq_true h34 | replace h34 := of_decide_eq_false (notT h34) | replace h34 := notT h34 | skip
      refine W_rs (sm rfl rfl (sa rfl rfl (Wn (tN (W_ret (tR ?_))))))
      rw [if_pos h34]
      exact (rT rfl rfl ⟨rfl, h.mono hS1, hcw⟩).1
     ·first | replace h34 := of_decide_eq_false h34 | replace h34 := of_decide_eq_true (notF h34) | replace h34 := notF h34 | skip
      rw [if_neg h34]
      refine W_skip (tN (W_rs (sm rfl rfl (sc _ Tryz.func46 rfl (by kernel_rfl) rfl rfl ((dnext (Rename_any gd D4 _ jNew jName _ h h4.ok) hS1 hcw).mono ?_)))))
      rintro e_ w6 ⟨rfl, S1, h, hS1, hcw, hz1_⟩
      refine cR (sa rfl rfl (Wn (tN (W_ret ?_))))
      exact (rT rfl rfl ⟨rfl, h.mono hS1, hcw⟩).1
 ·first | replace h13 := of_decide_eq_false h13 | replace h13 := of_decide_eq_true (notF h13) | replace h13 := notF h13 | skip
  rw [if_neg (by omega)]
  refine gN (g := 13) rfl rfl rfl rfl (gN (g := 13) rfl rfl rfl rfl (st (X.pickF rfl rfl) rfl (Wn (tN (W_no rfl (rfl) (W_skip (tN (W_seq (W_rs (sm rfl rfl ?_))))))))))
  refine sc _ Tryz.func41 rfl (by kernel_rfl) rfl rfl ((dnext (Create_any gd D1 _ jNew _ h h1.ok) hS1 hcw).mono ?_)
  rintro e_ w7 ⟨rfl, S1, h, hS1, hcw, hz1_⟩
  refine cR ?_
  obtain ⟨e2, D2, hp2⟩ : ∃ e D', createM D1 jNew = (e, D') := ⟨_, _, rfl⟩
  rw [hp2] at h h2 h3 h4 ⊢
  simp only at h h2 h3 h4 ⊢
  refine sa rfl rfl (Wn (tN (W_rs (sm rfl rfl (st (X.neq rfl rfl) rfl (Wn (tN (W_if rfl (fun h21 => ?_) (fun h21 => ?_)))))))))
  ·first | replace h21 := of_decide_eq_true h21 | replace h21 := of_decide_eq_false (notT h21) | replace h21 := notT h21 | skip
   refine W_rs (sm rfl rfl (sa rfl rfl (Wn (tN (W_ret (tR ?_))))))
   rw [if_pos h21]
   exact (rT rfl rfl ⟨rfl, h.mono hS1, hcw⟩).1
  ·first | replace h21 := of_decide_eq_false h21 | replace h21 := of_decide_eq_true (notF h21) | replace h21 := notF h21 | skip
   rw [if_neg h21]
   refine W_skip (tN (W_seq (W_rs (sm rfl rfl (sm rfl rfl (sc _ Tryz.func42 rfl (by kernel_rfl) rfl rfl ((dnext (Append_any gd D2 _ jNew s _ h h2.ok (h2.bud (by omega)) (by omega)) hS1 hcw).mono ?_)))))))
   rintro e_ w8 ⟨rfl, S1, h, hS1, hcw, hz1_⟩
   refine cR ?_
   obtain ⟨e3, D3, hp3⟩ : ∃ e D', appendM D2 jNew s = (e, D') := ⟨_, _, rfl⟩
   rw [hp3] at h h3 h4 ⊢
   simp only at h h3 h4 ⊢
   refine sa rfl rfl (Wn (tN (W_rs (sm rfl rfl (st (X.neq rfl rfl) rfl (Wn (tN (W_if rfl (fun h27 => ?_) (fun h27 => ?_)))))))))
   ·first | replace h27 := of_decide_eq_true h27 | replace h27 := of_decide_eq_false (notT h27) | replace h27 := notT h27 | skip
    rw [if_pos h27]
    refine W_rs (sm rfl rfl (sc _ Tryz.func47 rfl (by kernel_rfl) rfl rfl ((dnext (Remove_any gd D3 _ jNew _ h h3.ok) hS1 hcw).mono ?_)))
    rintro e_ w9 ⟨rfl, S1, h, hS1, hcw, hz1_⟩
    refine cR (Wn (tN (W_rs (sm rfl rfl (sa rfl rfl (Wn (tN (W_ret (tR ?_)))))))))
    exact (rT rfl rfl ⟨rfl, h.mono hS1, hcw⟩).1
   ·first | replace h27 := of_decide_eq_false h27 | replace h27 := of_decide_eq_true (notF h27) | replace h27 := notF h27 | skip
    rw [if_neg h27]
    refine W_skip (tN (W_seq (W_rs (sm rfl rfl (sc _ Tryz.func43 rfl (by kernel_rfl) rfl rfl ((dnext (Sync_any gd D3 _ jNew _ h h3.ok) hS1 hcw).mono ?_))))))
    rintro e_ w10 ⟨rfl, S1, h, hS1, hcw, hz1_⟩
    refine cR ?_
    obtain ⟨e4, D4, hp4⟩ : ∃ e D', syncM D3 jNew = (e, D') := ⟨_, _, rfl⟩
    rw [hp4] at h h4 ⊢
    simp only at h h4 ⊢
    refine sa rfl rfl (Wn (tN (W_rs (sm rfl rfl (st (X.neq rfl rfl) rfl (Wn (tN (W_if rfl (fun h34 => ?_) (fun h34 => ?_)))))))))
    ·first | replace h34 := of_decide_eq_true h34 | replace h34 := of_decide_eq_false (notT h34) | replace h34 := notT h34 | skip
     refine W_rs (sm rfl rfl (sa rfl rfl (Wn (tN (W_ret (tR ?_))))))
     rw [if_pos h34]
     exact (rT rfl rfl ⟨rfl, h.mono hS1, hcw⟩).1
    ·first | replace h34 := of_decide_eq_false h34 | replace h34 := of_decide_eq_true (notF h34) | replace h34 := notF h34 | skip
     rw [if_neg h34]
     refine W_skip (tN (W_rs (sm rfl rfl (sc _ Tryz.func46 rfl (by kernel_rfl) rfl rfl ((dnext (Rename_any gd D4 _ jNew jName _ h h4.ok) hS1 hcw).mono ?_)))))
     rintro e_ w11 ⟨rfl, S1, h, hS1, hcw, hz1_⟩
     refine cR (sa rfl rfl (Wn (tN (W_ret ?_))))
     exact (rT rfl rfl ⟨rfl, h.mono hS1, hcw⟩).1
section
variable (B gd gj : Nat) (D : DiskD) (J : JrM) (v : Value) (S : Nat → Prop) (w : World) (h : JAll B w gd gj D J v S)
include h
theorem State_any : Calls Tryz.prog 25 #[.pointer (some ⟨gj, 0, none⟩)] w (fun e w' => e = .returned (str J.x.state) ∧ w = w') := by
 have hB : Blk w gj 106 #[.pointer (some ⟨gd, 0, none⟩), str J.x.state, v, .int .i64 J.x.next, .int .i64 J.x.good, .int .i64 J.x.open_, str J.x.last, .bool J.lame] := h.blk
 refine W_enter (args := [.pointer (some ⟨gj, 0, none⟩)]) 10 Tryz.func25 rfl rfl rfl (W_sub [(0, .pointer (some ⟨gj, 0, none⟩))] ?_ ⟨rfl, trivial⟩)
 refine W_rs (sa rfl rfl (Wn (tN (W_seq (W_rs (sm rfl rfl (st (X.jEq rfl) rfl (Wn (tN (W_no rfl (rfl) ?_))))))))))
 refine W_skip (tN (W_rs (sm rfl rfl (st (X.nilChk rfl) rfl (st (X.fa fa106_1 rfl) rfl (st (X.fa fa103_0 rfl) rfl (st (X.ldL rfl hB Tryz.underlying9 rfl rfl) rfl (sa rfl rfl (Wn (tN ?_))))))))))
 refine W_ret ?_
 exact (rT rfl rfl ⟨rfl, rfl⟩).1
theorem Next_j : Calls Tryz.prog 27 #[.pointer (some ⟨gj, 0, none⟩)] w (fun e w' => e = .returned (.int .i64 J.x.next) ∧ w = w') := by
 have hB : Blk w gj 106 #[.pointer (some ⟨gd, 0, none⟩), str J.x.state, v, .int .i64 J.x.next, .int .i64 J.x.good, .int .i64 J.x.open_, str J.x.last, .bool J.lame] := h.blk
 refine W_enter (args := [.pointer (some ⟨gj, 0, none⟩)]) 10 Tryz.func27 rfl rfl rfl (W_sub [(0, .pointer (some ⟨gj, 0, none⟩))] ?_ ⟨rfl, trivial⟩)
 refine W_rs (sa rfl rfl (Wn (tN (W_seq (W_rs (sm rfl rfl (st (X.jEq rfl) rfl (Wn (tN (W_no rfl (rfl) ?_))))))))))
 refine W_skip (tN (W_rs (sm rfl rfl (st (X.nilChk rfl) rfl (st (X.fa fa106_1 rfl) rfl (st (X.fa fa103_2 rfl) rfl (st (X.ldL rfl hB Tryz.underlying3 rfl rfl) rfl (sa rfl rfl (Wn (tN ?_))))))))))
 refine W_ret ?_
 exact (rT rfl rfl ⟨rfl, rfl⟩).1
theorem Done_any (hd : J.x.done.length ≤ 1099511627776) : Calls Tryz.prog 26 #[.pointer (some ⟨gj, 0, none⟩)] w (fun e w' => ∃ v', e = .returned v' ∧ Row w' 9 1 v' J.x.done.length (J.x.done.map str) ∧ (∀ k, v'.ownBlock = some k → w.heap.size ≤ k) ∧ Below w.heap.size w w') := by
 have hB : Blk w gj 106 #[.pointer (some ⟨gd, 0, none⟩), str J.x.state, v, .int .i64 J.x.next, .int .i64 J.x.good, .int .i64 J.x.open_, str J.x.last, .bool J.lame] := h.blk
 refine W_enter (args := [.pointer (some ⟨gj, 0, none⟩)]) 11 Tryz.func26 rfl rfl rfl (W_sub [(0, .pointer (some ⟨gj, 0, none⟩))] ?_ ⟨rfl, trivial⟩)
 have hbw := Below.refl w.heap.size w
 refine W_rs (sa rfl rfl (Wn (tN (W_seq (W_rs (sm rfl rfl (st (X.jEq rfl) rfl (Wn (tN (W_no rfl (rfl) ?_))))))))))
 refine W_skip (tN (W_rs (sm rfl rfl (st (X.nilChk rfl) rfl (st (X.fa fa106_1 rfl) rfl (st (X.fa fa103_1 rfl) rfl (st (X.ldL rfl hB Tryz.underlying42 rfl rfl) rfl (sc _ Tryz.func78 rfl (by kernel_rfl) rfl rfl ((CloneS_any v J.x.done _ (h.row.bel hbw) hd).mono ?_)))))))))
 rintro e_ w1 ⟨v', rfl, hR, hO, hb⟩
 refine cR ?_
 replace hbw := bthen hbw hb
 have hz_w1 := hb.size
 clear hb
 refine sa rfl rfl (Wn (tN (W_ret ?_)))
 exact (rT rfl rfl ⟨v', rfl, hR, hO, hbw⟩).1
theorem Intent_any (p : List UInt8) (n : Nat) (hg : Good n D) (hn : n ≤ 1000000000) (hp : p.length ≤ 1099511627776) (hnx : J.x.next ≤ 1152921504606846976) :
  Calls Tryz.prog 19 #[.pointer (some ⟨gj, 0, none⟩), str p] w (fun e w' => e = .returned (.tuple #[.int .i64 (intentJ D J p).1.1, .int .i64 (intentJ D J p).1.2]) ∧ JPost B w gd gj (intentJ D J p).2.1 (intentJ D J p).2.2 v S w') := by
 have hB : Blk w gj 106 #[.pointer (some ⟨gd, 0, none⟩), str J.x.state, v, .int .i64 J.x.next, .int .i64 J.x.good, .int .i64 J.x.open_, str J.x.last, .bool J.lame] := h.blk
 have hR := h.row
 have hF := h.jf
 have hX : S gj ∨ gj = gj ∨ v.ownBlock = some gj := .inr (.inl rfl)
 have hlt := hB.lt
 have hn4 := four_length (J.x.next : Int)
 unfold intentJ
 refine W_enter (args := [.pointer (some ⟨gj, 0, none⟩), str p]) 59 Tryz.func19 rfl rfl rfl (W_sub [(0, .pointer (some ⟨gj, 0, none⟩)), (1, str p)] ?_ ⟨rfl, rfl, trivial⟩)
 have hcw := Chg.refl (fun k => S k ∨ k = gj ∨ v.ownBlock = some k) w
 refine W_rs (sa rfl rfl (sa rfl rfl (Wn (tN (W_seq (W_block (W_rs (sm rfl rfl (st (X.jEq rfl) rfl (sa rfl rfl ?_))))))))))
 refine Wn (tN (W_no rfl (rfl) (W_rs (sm rfl rfl (st (X.nilChk rfl) rfl (st (X.fa fa106_4 rfl) rfl (st (X.ldL rfl hB Tryz.underlying4 rfl rfl) rfl (sb rfl rfl (fun h16 => ?_) (fun h16 => ?_)))))))))
 ·first | replace h16 := of_decide_eq_true h16 | replace h16 := of_decide_eq_false (notT h16) | replace h16 := notT h16 | skip
  refine gN (g := 16) rfl rfl rfl rfl (gN (g := 16) rfl rfl rfl rfl (gN (g := 16) rfl rfl rfl rfl (gN (g := 16) rfl rfl rfl rfl (gN (g := 16) rfl rfl rfl rfl (st (X.pickT rfl rfl) rfl (sa rfl rfl (Wn (tN (W_yes rfl (rfl) (W_rs ?_))))))))))
  refine sa rfl rfl (sa rfl rfl (Wn (tN (W_ret (bR (tR ?_))))))
  rw [if_pos (.inl h16)]
  exact (rTT rfl rfl rfl ⟨rfl, v, S, ⟨hB, hR, hF⟩, fun k hk => .inl hk, fun k hk => .inl hk, hcw⟩).1
 ·first | replace h16 := of_decide_eq_false h16 | replace h16 := of_decide_eq_true (notF h16) | replace h16 := notF h16 | skip
  refine gY (g := 16) rfl rfl rfl (sm rfl rfl (gY (g := 16) rfl rfl rfl (st (X.nilChk rfl) rfl (gY (g := 16) rfl rfl rfl (st (X.fa fa106_2 rfl) rfl (gY (g := 16) rfl rfl rfl (st (X.ldL rfl hB Tryz.underlying3 rfl rfl) rfl (gY (g := 16) rfl rfl rfl (st (X.gtr rfl rfl) rfl (st (X.pickF rfl rfl) rfl ?_))))))))))
  refine sa rfl rfl (Wn (tN (W_if rfl (fun h11 => ?_) (fun h11 => ?_))))
  ·first | replace h11 := of_decide_eq_true h11 | replace h11 := of_decide_eq_false (notT h11) | replace h11 := notT h11 | skip
   refine W_rs (sa rfl rfl (sa rfl rfl (Wn (tN (W_ret (bR (tR ?_)))))))
   rw [if_pos (.inr (by omega))]
   exact (rTT rfl rfl rfl ⟨rfl, v, S, ⟨hB, hR, hF⟩, fun k hk => .inl hk, fun k hk => .inl hk, hcw⟩).1
  ·first | replace h11 := of_decide_eq_false h11 | replace h11 := of_decide_eq_true (notF h11) | replace h11 := notF h11 | skip
   rw [if_neg (by intro e; rcases e with e | e; rw [e] at h16; simp at h16; omega)]
   refine W_rs (sm rfl rfl (st (X.lenS rfl rfl Tryz.underlying9) rfl (st (X.gtr rfl rfl) rfl (sa rfl rfl (Wn (tN (W_if rfl (fun h23 => ?_) (fun h23 => ?_))))))))
   ·first | replace h23 := of_decide_eq_true h23 | replace h23 := of_decide_eq_false (notT h23) | replace h23 := notT h23 | skip
    refine W_rs (sa rfl rfl (sa rfl rfl (Wn (tN (W_ret (bR (tR ?_)))))))
    rw [if_pos (by omega)]
    exact (rTT rfl rfl rfl ⟨rfl, v, S, ⟨hB, hR, hF⟩, fun k hk => .inl hk, fun k hk => .inl hk, hcw⟩).1
   ·first | replace h23 := of_decide_eq_false h23 | replace h23 := of_decide_eq_true (notF h23) | replace h23 := notF h23 | skip
    rw [if_neg (by omega)]
    refine W_skip (bN (tN (W_rs (sm rfl rfl (st (X.nilChk rfl) rfl (st (X.fa fa106_1 rfl) rfl (st (X.fa fa103_2 rfl) rfl (st (X.ldL rfl hB Tryz.underlying3 rfl rfl) rfl (sa rfl rfl (Wn ?_))))))))))
    refine tN (W_seq (W_rs (sm rfl rfl (sm rfl rfl (sc _ Tryz.func68 rfl (by kernel_rfl) rfl rfl ((jfour_any _ _).mono ?_))))))
    rintro e_ w1 ⟨rfl, hb⟩
    refine cR ?_
    replace hcw := hcw.then_below hb
    replace hB := hB.bel hb
    replace hR := hR.bel hb
    replace hF := hF.bel hb
    have hz_w1 := hb.size
    clear hb
    refine sm rfl rfl (st (X.cat rfl rfl (by omega)) rfl (sc _ Tryz.func67 rfl (by kernel_rfl) rfl rfl ((jput_any B gd gj D J v S _ 4 (four J.x.next ++ p) n ⟨hB, hR, hF⟩ hg hn (by rw [List.length_append]; omega)).mono ?_)))
    rintro e_ w2 ⟨rfl, hJ⟩
    refine cR ?_
    obtain ⟨v1, S1, hJA, hS1, hv1, hC⟩ := hJ
    obtain ⟨e1, D1, hpj⟩ : ∃ e D', putJ D 4 (four J.x.next ++ p) = (e, D') := ⟨_, _, rfl⟩
    rw [hpj] at hJA ⊢
    simp only at hJA ⊢
    replace hB : Blk _ gj 106 #[.pointer (some ⟨gd, 0, none⟩), str J.x.state, v1, .int .i64 J.x.next, .int .i64 J.x.good, .int .i64 J.x.open_, str J.x.last, .bool (lameOf e1)] := hJA.blk
    replace hR := hJA.row
    replace hF := hJA.jf
    replace hcw := hcw.next hC (fun i hi => .inl hi)
    have hz_w21 := hC.size
    have hne := hR.ne2 hB (by decide)
    clear hJA hC
    refine sa rfl rfl (Wn (tN (W_rs (sm rfl rfl (st (X.neq rfl rfl) rfl (Wn (tN (W_if rfl (fun h39 => ?_) (fun h39 => ?_)))))))))
    ·first | replace h39 := of_decide_eq_true h39 | replace h39 := of_decide_eq_false (notT h39) | replace h39 := notT h39 | skip
     rw [if_pos h39]
     refine W_rs (sm rfl rfl (sa rfl rfl (sa rfl rfl (Wn (tN (W_ret (tR ?_)))))))
     exact (rTT rfl rfl rfl ⟨rfl, v1, S1, ⟨hB, hR, hF⟩, fun k hk => (hS1 k hk).imp id (fun e => by omega), fun k hk => (hv1 k hk).imp id (fun e => by omega), hcw⟩).1
    ·first | replace h39 := of_decide_eq_false h39 | replace h39 := of_decide_eq_true (notF h39) | replace h39 := notF h39 | skip
     obtain rfl : e1 = 0 := Decidable.of_not_not h39
     rw [if_neg (by simp)]
     refine W_skip (tN (W_rs (sm rfl rfl (sm rfl rfl (sm rfl rfl (sm rfl rfl (st (X.nilChk rfl) rfl (st (X.fa fa106_2 rfl) rfl (ssB rfl rfl hB siz3 rfl (by first | decide | simp) (fun w3 hB_ hc_ => ?_))))))))))
     replace hB := hB_
     clear hB_
     replace hR := hR.chg hc_ (by first | (show ¬ _ = _; omega) | (intro k_ hk_; simp [Value.ownBlock] at hk_; subst hk_; show ¬ _ = _; omega) | assumption | trivial)
     replace hF := hF.chg hc_ (by first | (show ¬ _ = _; omega) | (intro k_ hk_; simp [Value.ownBlock] at hk_; subst hk_; show ¬ _ = _; omega) | assumption | trivial)
     replace hcw := hcw.next hc_ (fun i_ hi_ => by first | exact .inl hi_ | exact .inl (.inl hi_) | (right; subst hi_; omega) | (left; subst hi_; show _ ≤ _; omega) | (left; subst hi_; assumption))
     have hz_w3 := hc_.size
     clear hc_
     refine st (X.nilChk rfl) rfl (st (X.fa fa106_3 rfl) rfl (ssB rfl rfl hB siz9 rfl (by first | decide | simp) (fun w4 hB_ hc_ => ?_)))
     replace hB := hB_
     clear hB_
     replace hR := hR.chg hc_ (by first | (show ¬ _ = _; omega) | (intro k_ hk_; simp [Value.ownBlock] at hk_; subst hk_; show ¬ _ = _; omega) | assumption | trivial)
     replace hF := hF.chg hc_ (by first | (show ¬ _ = _; omega) | (intro k_ hk_; simp [Value.ownBlock] at hk_; subst hk_; show ¬ _ = _; omega) | assumption | trivial)
     replace hcw := hcw.next hc_ (fun i_ hi_ => by first | exact .inl hi_ | exact .inl (.inl hi_) | (right; subst hi_; omega) | (left; subst hi_; show _ ≤ _; omega) | (left; subst hi_; assumption))
     have hz_w4 := hc_.size
     clear hc_
     refine Wn (tN (W_rs (sm rfl rfl (st (X.nilChk rfl) rfl (st (X.fa fa106_1 rfl) rfl (st (X.fa fa103_2 rfl) rfl (st (X.ldL rfl hB Tryz.underlying3 rfl rfl) rfl (st (X.add64 rfl rfl (by omega)) rfl (st (X.nilChk rfl) rfl (st (X.fa fa106_1 rfl) rfl ?_))))))))))
     refine st (X.fa fa103_2 rfl) rfl (ssB rfl rfl hB siz3 rfl (by first | decide | simp) (fun w5 hB_ hc_ => ?_))
     replace hB := hB_
     clear hB_
     replace hR := hR.chg hc_ (by first | (show ¬ _ = _; omega) | (intro k_ hk_; simp [Value.ownBlock] at hk_; subst hk_; show ¬ _ = _; omega) | assumption | trivial)
     replace hF := hF.chg hc_ (by first | (show ¬ _ = _; omega) | (intro k_ hk_; simp [Value.ownBlock] at hk_; subst hk_; show ¬ _ = _; omega) | assumption | trivial)
     replace hcw := hcw.next hc_ (fun i_ hi_ => by first | exact .inl hi_ | exact .inl (.inl hi_) | (right; subst hi_; omega) | (left; subst hi_; show _ ≤ _; omega) | (left; subst hi_; assumption))
     have hz_w5 := hc_.size
     clear hc_
     refine Wn (tN (W_rs (sm rfl rfl (sa rfl rfl (sa rfl rfl (Wn (tN (W_ret ?_))))))))
     exact (rTT rfl rfl rfl ⟨rfl, v1, S1, ⟨hB, hR, hF⟩, fun k hk => (hS1 k hk).imp id (fun e => by omega), fun k hk => (hv1 k hk).imp id (fun e => by omega), hcw⟩).1
end
end Go.Proofs.YtnijmegalgoipaaGreatDoor
namespace Go.Proofs.YtnijmegalgoipaaGreatDoor
open Go.RowKit
theorem JF.app {B gd gj : Nat} {w w' : World} {D : DiskD} {v v' : Value} {S : Nat → Prop} (h : JF B w gd gj D v S) (hC : Chg (fun k => v.ownBlock = some k) w w') (hv : v'.ownBlock = v.ownBlock ∨ v'.ownBlock = some w.heap.size) (hlt : gj < w.heap.size) : JF B w' gd gj D v' S := by
 have hgB := h.gB
 refine ⟨h.own.other hC (fun k hk e => (h.v k hk).1 e), h.g, fun k hk => ?_, h.gB⟩
 rcases hv with e | e
 ·exact h.v k (e ▸ hk)
 ·rw [e] at hk
  injection hk with hk
  subst hk
  refine ⟨fun hs => ?_, by omega⟩
  have := (h.own.lo _ hs).2
  omega
section
variable (B gd gj : Nat) (D : DiskD) (J : JrM) (v : Value) (S : Nat → Prop) (w : World) (h : JAll B w gd gj D J v S)
include h
theorem Commit_any (id : Int) (n : Nat) (hg : Good n D) (hn : n ≤ 1000000000) (hdn : J.x.done.length ≤ 1000000000) :
  Calls Tryz.prog 20 #[.pointer (some ⟨gj, 0, none⟩), .int .i64 id] w (fun e w' => e = .returned (.int .i64 (commitJ D J id).1) ∧ JPost B w gd gj (commitJ D J id).2.1 (commitJ D J id).2.2 v S w') := by
 have hB : Blk w gj 106 #[.pointer (some ⟨gd, 0, none⟩), str J.x.state, v, .int .i64 J.x.next, .int .i64 J.x.good, .int .i64 J.x.open_, str J.x.last, .bool J.lame] := h.blk
 have hR := h.row
 have hF := h.jf
 have hX : S gj ∨ gj = gj ∨ v.ownBlock = some gj := .inr (.inl rfl)
 have hlt := hB.lt
 have hn4 := four_length id
 unfold commitJ
 refine W_enter (args := [.pointer (some ⟨gj, 0, none⟩), .int .i64 id]) 41 Tryz.func20 rfl rfl rfl (W_sub [(0, .pointer (some ⟨gj, 0, none⟩)), (1, .int .i64 id)] ?_ ⟨rfl, rfl, trivial⟩)
 have hcw := Chg.refl (fun k => S k ∨ k = gj ∨ v.ownBlock = some k) w
 refine W_rs (sa rfl rfl (Wn (tN (W_seq (W_rs (sm rfl rfl (sm rfl rfl (sc _ Tryz.func69 rfl (by kernel_rfl) rfl rfl ((jmay_any B gd gj D J v S _ id h).mono ?_)))))))))
 rintro e_ w_ ⟨rfl, rfl⟩
 refine cR (sa rfl rfl (Wn (tN (W_rs (sm rfl rfl (st (X.neq rfl rfl) rfl (Wn (tN (W_if rfl (fun h11 => ?_) (fun h11 => ?_))))))))))
 ·first | replace h11 := of_decide_eq_true h11 | replace h11 := of_decide_eq_false (notT h11) | replace h11 := notT h11 | skip
  refine W_rs (sm rfl rfl (sa rfl rfl (Wn (tN (W_ret (tR ?_))))))
  rw [if_pos h11]
  exact (rT rfl rfl ⟨rfl, v, S, ⟨hB, hR, hF⟩, fun k hk => .inl hk, fun k hk => .inl hk, hcw⟩).1
 ·first | replace h11 := of_decide_eq_false h11 | replace h11 := of_decide_eq_true (notF h11) | replace h11 := notF h11 | skip
  rw [if_neg h11]
  refine W_skip (tN (W_seq (W_rs (sm rfl rfl (sm rfl rfl (sc _ Tryz.func68 rfl (by kernel_rfl) rfl rfl ((jfour_any _ _).mono ?_)))))))
  rintro e_ w1 ⟨rfl, hb⟩
  refine cR ?_
  replace hcw := hcw.then_below hb
  replace hB := hB.bel hb
  replace hR := hR.bel hb
  replace hF := hF.bel hb
  have hz_w1 := hb.size
  clear hb
  refine sc _ Tryz.func67 rfl (by kernel_rfl) rfl rfl ((jput_any B gd gj D J v S _ 5 (four id) n ⟨hB, hR, hF⟩ hg hn (by omega)).mono ?_)
  rintro e_ w2 ⟨rfl, hJ⟩
  refine cR ?_
  obtain ⟨v1, S1, hJA, hS1, hv1, hC⟩ := hJ
  obtain ⟨e1, D1, hpj⟩ : ∃ e D', putJ D 5 (four id) = (e, D') := ⟨_, _, rfl⟩
  rw [hpj] at hJA ⊢
  simp only at hJA ⊢
  replace hB : Blk _ gj 106 #[.pointer (some ⟨gd, 0, none⟩), str J.x.state, v1, .int .i64 J.x.next, .int .i64 J.x.good, .int .i64 J.x.open_, str J.x.last, .bool (lameOf e1)] := hJA.blk
  replace hR : Row _ 9 1 v1 J.x.done.length (J.x.done.map str) := hJA.row
  replace hF := hJA.jf
  replace hcw := hcw.next hC (fun i hi => .inl hi)
  have hz_w21 := hC.size
  clear hJA hC
  refine sa rfl rfl (Wn (tN (W_rs (sm rfl rfl (st (X.neq rfl rfl) rfl (Wn (tN (W_if rfl (fun h18 => ?_) (fun h18 => ?_)))))))))
  ·first | replace h18 := of_decide_eq_true h18 | replace h18 := of_decide_eq_false (notT h18) | replace h18 := notT h18 | skip
   rw [if_pos h18]
   refine W_rs (sm rfl rfl (sa rfl rfl (Wn (tN (W_ret (tR ?_))))))
   exact (rT rfl rfl ⟨rfl, v1, S1, ⟨hB, hR, hF⟩, fun k hk => (hS1 k hk).imp (fun e => e) (fun e => by omega), fun k hk => (hv1 k hk).imp (fun e => e) (fun e => by omega), hcw⟩).1
  ·first | replace h18 := of_decide_eq_false h18 | replace h18 := of_decide_eq_true (notF h18) | replace h18 := notF h18 | skip
   obtain rfl : e1 = 0 := Decidable.of_not_not h18
   rw [if_neg (by simp)]
   refine W_skip (tN ?_)
   have hB0 := hB
   have hz9 := hcw.size
   refine W_phase_s (fun W_ => Below w2.heap.size w2 W_) 11 [true, true, true, true, true, true, true, true, true, true, false] (by kernel_rfl) (by kernel_rfl) (bdrew (Below.refl _ _)) ?_
   obtain ⟨w3, hw_⟩ : ∃ w3 : World, w3 = World.drew w2 := ⟨_, rfl⟩
   rw [← hw_]
   have hb : Below w2.heap.size w2 w3 := by rw [hw_]; exact bdrew (Below.refl _ _)
   clear hw_
   have hS := hb
   replace hcw := hcw.then_below hb
   replace hB := hB.bel hb
   replace hR := hR.bel hb
   replace hF := hF.bel hb
   have hz_w3 := hb.size
   clear hb
   refine pY (fun W_ hW_ => (X.move rfl)) rfl (pY (fun W_ hW_ => (X.move rfl)) rfl (pY (fun W_ hW_ => (X.nilChk rfl)) rfl (pY (fun W_ hW_ => (X.fa fa106_1 rfl)) rfl (pY (fun W_ hW_ => (X.fa fa103_1 rfl)) rfl (pY (fun W_ hW_ => (X.ldL rfl (hB0.bel hW_) Tryz.underlying42 rfl rfl)) rfl (pY (fun W_ hW_ => (X.move rfl)) rfl (pY (fun W_ hW_ => (X.nilChk rfl)) rfl (pY (fun W_ hW_ => (X.fa fa106_3 rfl)) rfl (pY (fun W_ hW_ => (X.ldL rfl (hB0.bel hW_) Tryz.underlying9 rfl rfl)) rfl (pL (fun Q_ hQ_ hP_ => ?_)))))))))))
   refine sbs1 rfl Tryz.underlying42 inf9 rfl rfl (by decide) (by decide) rfl (fun g30 w4 hR30 hg30 hb => ?_)
   replace hS := bthen hS hb
   replace hcw := hcw.then_below hb
   replace hB := hB.bel hb
   replace hR := hR.bel hb
   replace hF := hF.bel hb
   have hz_w4 := hb.size
   clear hb
   have hl30 := hR30.blt (by decide)
   refine Wn (hQ_ _ _ hS ?_)
   clear hQ_ hP_ Q_
   refine pN (sapp rfl rfl Tryz.underlying42 inf9 rfl (by decide) hR (hR30.src Tryz.underlying42 (by intro u hu; rw [show u = str J.x.last by simpa [Value.cells, str] using hu]; rfl)) (by simp only [maxLen]; omega) (by omega) rfl (fun v' w5 hR2 hC2 hv => ?_))
   obtain ⟨a', c', rfl, _, _⟩ := hR2.shape
   have hz_w5 := hC2.size
   have hlt9 := hB.lt
   have hne1 := hR.ne2 hB (by decide)
   replace hB := hB.chg hC2 (fun hk => hne1 _ hk rfl)
   have hne := hR2.ne2 hB (by decide)
   replace hF := hF.app hC2 hv hlt9
   replace hcw := hcw.next hC2 (fun i hi => (hv1 i hi).imp (fun e => .inr (.inr e)) (fun e => by omega))
   have hvn : ∀ k, (Value.slice a' (J.x.done.length + 1) c').ownBlock = some k → v.ownBlock = some k ∨ w.heap.size ≤ k := fun k hk => by
    rcases hv with hv | hv
    ·exact (hv1 k (hv ▸ hk)).imp (fun e => e) (fun e => by omega)
    ·rw [hv] at hk
     injection hk with hk
     right; omega
   replace hR := hR2
   clear hC2 hR2
   refine st (X.nilChk rfl) rfl (st (X.fa fa106_1 rfl) rfl (st (X.fa fa103_1 rfl) rfl (ssB rfl rfl hB siz42 rfl (by first | decide | simp) (fun w6 hB_ hc_ => ?_))))
   replace hB := hB_
   clear hB_
   replace hR := hR.chg hc_ (by first | (show ¬ _ = _; omega) | (intro k_ hk_; simp [Value.ownBlock] at hk_; subst hk_; show ¬ _ = _; omega) | assumption | trivial)
   replace hF := hF.chg hc_ (by first | (show ¬ _ = _; omega) | (intro k_ hk_; simp [Value.ownBlock] at hk_; subst hk_; show ¬ _ = _; omega) | assumption | trivial)
   replace hcw := hcw.next hc_ (fun i_ hi_ => by first | exact .inl hi_ | exact .inl (.inl hi_) | (right; subst hi_; omega) | (left; subst hi_; show _ ≤ _; omega) | (left; subst hi_; assumption))
   have hz_w6 := hc_.size
   clear hc_
   refine Wn (nN (W_rs (sm rfl rfl (sm rfl rfl (st (X.nilChk rfl) rfl (st (X.fa fa106_2 rfl) rfl (ssB rfl rfl hB siz3 rfl (by first | decide | simp) (fun w7 hB_ hc_ => ?_))))))))
   replace hB := hB_
   clear hB_
   replace hR := hR.chg hc_ (by first | (show ¬ _ = _; omega) | (intro k_ hk_; simp [Value.ownBlock] at hk_; subst hk_; show ¬ _ = _; omega) | assumption | trivial)
   replace hF := hF.chg hc_ (by first | (show ¬ _ = _; omega) | (intro k_ hk_; simp [Value.ownBlock] at hk_; subst hk_; show ¬ _ = _; omega) | assumption | trivial)
   replace hcw := hcw.next hc_ (fun i_ hi_ => by first | exact .inl hi_ | exact .inl (.inl hi_) | (right; subst hi_; omega) | (left; subst hi_; show _ ≤ _; omega) | (left; subst hi_; assumption))
   have hz_w7 := hc_.size
   clear hc_
   refine st (X.nilChk rfl) rfl (st (X.fa fa106_3 rfl) rfl (ssB rfl rfl hB siz9 rfl (by first | decide | simp) (fun w8 hB_ hc_ => ?_)))
   replace hB := hB_
   clear hB_
   replace hR := hR.chg hc_ (by first | (show ¬ _ = _; omega) | (intro k_ hk_; simp [Value.ownBlock] at hk_; subst hk_; show ¬ _ = _; omega) | assumption | trivial)
   replace hF := hF.chg hc_ (by first | (show ¬ _ = _; omega) | (intro k_ hk_; simp [Value.ownBlock] at hk_; subst hk_; show ¬ _ = _; omega) | assumption | trivial)
   replace hcw := hcw.next hc_ (fun i_ hi_ => by first | exact .inl hi_ | exact .inl (.inl hi_) | (right; subst hi_; omega) | (left; subst hi_; show _ ≤ _; omega) | (left; subst hi_; assumption))
   have hz_w8 := hc_.size
   clear hc_
   refine Wn (tN (W_rs (sa rfl rfl (Wn (tN (W_ret ((rT rfl rfl ⟨rfl, _, S1, ⟨hB, ?_, hF⟩, fun k hk => (hS1 k hk).imp (fun e => e) (fun e => by omega), hvn, hcw⟩).1)))))))
   simpa [str, Value.cells] using hR
set_option maxRecDepth 10000 in
theorem Checkpoint_any (s : List UInt8) (n : Nat) (hg : Good n D) (hn : n ≤ 1000000000) (hs : s.length ≤ 1099511627776) :
  Calls Tryz.prog 21 #[.pointer (some ⟨gj, 0, none⟩), str s] w (fun e w' => e = .returned (.int .i64 (checkJ D J s).1) ∧ JPost B w gd gj (checkJ D J s).2.1 (checkJ D J s).2.2 v S w') := by
 have hB : Blk w gj 106 #[.pointer (some ⟨gd, 0, none⟩), str J.x.state, v, .int .i64 J.x.next, .int .i64 J.x.good, .int .i64 J.x.open_, str J.x.last, .bool J.lame] := h.blk
 have hR := h.row
 have hF := h.jf
 have hX : S gj ∨ gj = gj ∨ v.ownBlock = some gj := .inr (.inl rfl)
 have hlt := hB.lt
 have hne := hR.ne2 hB (by decide)
 have hn4 := four_length (J.x.next : Int)
 have hsl := sealM_length 6 (four J.x.next ++ s)
 rw [List.length_append] at hsl
 unfold checkJ
 refine W_enter (args := [.pointer (some ⟨gj, 0, none⟩), str s]) 51 Tryz.func21 rfl rfl rfl (W_sub [(0, .pointer (some ⟨gj, 0, none⟩)), (1, str s)] ?_ ⟨rfl, rfl, trivial⟩)
 have hcw := Chg.refl (fun k => S k ∨ k = gj ∨ v.ownBlock = some k) w
 refine W_rs (sa rfl rfl (Wn (tN (W_seq (W_block (W_rs (sm rfl rfl (st (X.jEq rfl) rfl (sa rfl rfl (Wn ?_))))))))))
 refine tN (W_no rfl (rfl) (W_rs (sm rfl rfl (st (X.nilChk rfl) rfl (st (X.fa fa106_4 rfl) rfl (st (X.ldL rfl hB Tryz.underlying4 rfl rfl) rfl (sb rfl rfl (fun h14 => ?_) (fun h14 => ?_))))))))
 ·first | replace h14 := of_decide_eq_true h14 | replace h14 := of_decide_eq_false (notT h14) | replace h14 := notT h14 | skip
  refine gN (g := 14) rfl rfl rfl rfl (gN (g := 14) rfl rfl rfl rfl (gN (g := 14) rfl rfl rfl rfl (gN (g := 14) rfl rfl rfl rfl (gN (g := 14) rfl rfl rfl rfl (st (X.pickT rfl rfl) rfl (sa rfl rfl (Wn (tN (W_yes rfl (rfl) (W_rs ?_))))))))))
  refine sa rfl rfl (Wn (tN (W_ret (bR (tR ?_)))))
  rw [if_pos (.inl h14)]
  exact (rT rfl rfl ⟨rfl, v, S, ⟨hB, hR, hF⟩, fun k hk => .inl hk, fun k hk => .inl hk, hcw⟩).1
 ·first | replace h14 := of_decide_eq_false h14 | replace h14 := of_decide_eq_true (notF h14) | replace h14 := notF h14 | skip
  refine gY (g := 14) rfl rfl rfl (sm rfl rfl (gY (g := 14) rfl rfl rfl (st (X.nilChk rfl) rfl (gY (g := 14) rfl rfl rfl (st (X.fa fa106_2 rfl) rfl (gY (g := 14) rfl rfl rfl (st (X.ldL rfl hB Tryz.underlying3 rfl rfl) rfl (gY (g := 14) rfl rfl rfl (st (X.gtr rfl rfl) rfl (st (X.pickF rfl rfl) rfl ?_))))))))))
  refine sa rfl rfl (Wn (tN (W_if rfl (fun h9 => ?_) (fun h9 => ?_))))
  ·first | replace h9 := of_decide_eq_true h9 | replace h9 := of_decide_eq_false (notT h9) | replace h9 := notT h9 | skip
   refine W_rs (sa rfl rfl (Wn (tN (W_ret (bR (tR ?_))))))
   rw [if_pos (.inr (by omega))]
   exact (rT rfl rfl ⟨rfl, v, S, ⟨hB, hR, hF⟩, fun k hk => .inl hk, fun k hk => .inl hk, hcw⟩).1
  ·first | replace h9 := of_decide_eq_false h9 | replace h9 := of_decide_eq_true (notF h9) | replace h9 := notF h9 | skip
   rw [if_neg (by intro e; rcases e with e | e; rw [e] at h14; simp at h14; omega)]
   refine W_rs (sm rfl rfl (st (X.lenS rfl rfl Tryz.underlying9) rfl (st (X.gtr rfl rfl) rfl (sa rfl rfl (Wn (tN (W_if rfl (fun h21 => ?_) (fun h21 => ?_))))))))
   ·first | replace h21 := of_decide_eq_true h21 | replace h21 := of_decide_eq_false (notT h21) | replace h21 := notT h21 | skip
    refine W_rs (sa rfl rfl (Wn (tN (W_ret (bR (tR ?_))))))
    rw [if_pos (by omega)]
    exact (rT rfl rfl ⟨rfl, v, S, ⟨hB, hR, hF⟩, fun k hk => .inl hk, fun k hk => .inl hk, hcw⟩).1
   ·first | replace h21 := of_decide_eq_false h21 | replace h21 := of_decide_eq_true (notF h21) | replace h21 := notF h21 | skip
    rw [if_neg (by omega)]
    refine W_skip (bN (tN (W_seq (W_drsN (fun W_ => Blk W_ gj 106 #[.pointer (some ⟨gd, 0, none⟩), str J.x.state, v, .int .i64 J.x.next, .int .i64 J.x.good, .int .i64 J.x.open_, str J.x.last, .bool J.lame]) [0, 1, 2, 3, 4, 5, 6, 7, 8, 10, 9, 11, 12, 13, 14] [true, true, true, true, true, true, true, true, true, true, false, true, false, false, true] (by kernel_rfl) (by kernel_rfl) (hB.bel (bdrew (Below.refl _ _))) ?_))))
    obtain ⟨w1, hw_⟩ : ∃ w1 : World, w1 = World.drew w := ⟨_, rfl⟩
    rw [← hw_]
    have hb : Below w.heap.size w w1 := by rw [hw_]; exact bdrew (Below.refl _ _)
    clear hw_
    have hS := hb
    replace hcw := hcw.then_below hb
    replace hB := hB.bel hb
    replace hR := hR.bel hb
    replace hF := hF.bel hb
    have hz_w1 := hb.size
    clear hb
    refine oY rfl (fun W_ hW_ => (X.move rfl)) rfl (oY rfl (fun W_ hW_ => (X.nilChk rfl)) rfl (oY rfl (fun W_ hW_ => (X.fa fa106_0 rfl)) rfl (oY rfl (fun W_ hW_ => (X.ldL rfl hW_ Tryz.underlying23 rfl rfl)) rfl (oY rfl (fun W_ hW_ => (X.move rfl)) rfl (oY rfl (fun W_ hW_ => (X.nilChk rfl)) rfl (oY rfl (fun W_ hW_ => (X.fa fa106_1 rfl)) rfl (oY rfl (fun W_ hW_ => (X.fa fa103_2 rfl)) rfl (oY rfl (fun W_ hW_ => (X.ldL rfl hW_ Tryz.underlying3 rfl rfl)) rfl (oY rfl (fun W_ hW_ => (X.move rfl)) rfl (oL rfl (fun Q_ hQ_ hP_ => ?_)))))))))))
    refine sc _ Tryz.func68 rfl (by kernel_rfl) rfl rfl ((jfour_any _ _).mono ?_)
    rintro e_ w2 ⟨rfl, hb⟩
    refine cR ?_
    replace hcw := hcw.then_below hb
    replace hB := hB.bel hb
    replace hR := hR.bel hb
    replace hF := hF.bel hb
    have hz_w2 := hb.size
    clear hb
    refine Wn (hQ_ _ _ (hB) ?_)
    clear hQ_ hP_ Q_
    refine oY rfl (fun W_ hW_ => (X.cat rfl rfl (by omega))) rfl (oL rfl (fun Q_ hQ_ hP_ => (sc _ Tryz.func24 rfl (by kernel_rfl) rfl rfl ((Seal_any 6 (four J.x.next ++ s) _ (by rw [List.length_append]; omega)).mono ?_))))
    rintro e_ w3 ⟨rfl, hb⟩
    refine cR ?_
    replace hcw := hcw.then_below hb
    replace hB := hB.bel hb
    replace hR := hR.bel hb
    replace hF := hF.bel hb
    have hz_w3 := hb.size
    clear hb
    refine Wn (hQ_ _ _ (hB) ?_)
    clear hQ_ hP_ Q_
    refine oL rfl (fun Q_ hQ_ hP_ => (sc _ Tryz.func66 rfl (by kernel_rfl) rfl rfl ((jdisk (replace_any gd D _ (sealM 6 (four J.x.next ++ s)) n _ hF.own.at_ hg hn (by omega)) hB hR hF hcw (fun k hk => .inl hk) (fun k hk => .inl hk)).mono ?_)))
    clear hB hR hF
    rintro e_ w4 ⟨rfl, S1, hB, hR, hF, hS1, hcw, hz1_⟩
    refine cR (Wn (hQ_ _ _ (hB) ?_))
    clear hQ_ hP_ Q_
    obtain ⟨e1, D1, hpj⟩ : ∃ e D', replaceJ D (sealM 6 (four J.x.next ++ s)) = (e, D') := ⟨_, _, rfl⟩
    rw [hpj] at hF ⊢
    simp only at hF ⊢
    refine oY rfl (fun W_ hW_ => (X.assign rfl)) rfl (oN (nN (W_rs (sm rfl rfl (st (X.neq rfl rfl) rfl (Wn (tN (W_if rfl (fun h40 => ?_) (fun h40 => ?_)))))))))
    ·first | replace h40 := of_decide_eq_true h40 | replace h40 := of_decide_eq_false (notT h40) | replace h40 := notT h40 | skip
     rw [if_pos h40]
     refine W_rs (sm rfl rfl (sa rfl rfl (Wn (tN (W_ret (tR ?_))))))
     exact (rT rfl rfl ⟨rfl, v, S1, ⟨hB, hR, hF⟩, hS1, fun k hk => .inl hk, hcw⟩).1
    ·first | replace h40 := of_decide_eq_false h40 | replace h40 := of_decide_eq_true (notF h40) | replace h40 := notF h40 | skip
     rw [if_neg h40]
     refine W_skip (tN (W_rs (sm rfl rfl (sm rfl rfl (sm rfl rfl (st (X.nilChk rfl) rfl (st (X.fa fa106_1 rfl) rfl (st (X.fa fa103_0 rfl) rfl (ssB rfl rfl hB siz9 rfl (by first | decide | simp) (fun w5 hB_ hc_ => ?_))))))))))
     replace hB := hB_
     clear hB_
     replace hR := hR.chg hc_ (by first | (show ¬ _ = _; omega) | (intro k_ hk_; simp [Value.ownBlock] at hk_; subst hk_; show ¬ _ = _; omega) | assumption | trivial)
     replace hF := hF.chg hc_ (by first | (show ¬ _ = _; omega) | (intro k_ hk_; simp [Value.ownBlock] at hk_; subst hk_; show ¬ _ = _; omega) | assumption | trivial)
     replace hcw := hcw.next hc_ (fun i_ hi_ => by first | exact .inl hi_ | exact .inl (.inl hi_) | (right; subst hi_; omega) | (left; subst hi_; show _ ≤ _; omega) | (left; subst hi_; assumption))
     have hz_w5 := hc_.size
     clear hc_
     refine st (X.nilChk rfl) rfl (st (X.fa fa106_1 rfl) rfl (st (X.fa fa103_1 rfl) rfl (ssB rfl rfl hB siz42 rfl (by first | decide | simp) (fun w6 hB_ hc_ => ?_))))
     replace hB := hB_
     clear hB_
     replace hR := hR.chg hc_ (by first | (show ¬ _ = _; omega) | (intro k_ hk_; simp [Value.ownBlock] at hk_; subst hk_; show ¬ _ = _; omega) | assumption | trivial)
     replace hF := hF.chg hc_ (by first | (show ¬ _ = _; omega) | (intro k_ hk_; simp [Value.ownBlock] at hk_; subst hk_; show ¬ _ = _; omega) | assumption | trivial)
     replace hcw := hcw.next hc_ (fun i_ hi_ => by first | exact .inl hi_ | exact .inl (.inl hi_) | (right; subst hi_; omega) | (left; subst hi_; show _ ≤ _; omega) | (left; subst hi_; assumption))
     have hz_w6 := hc_.size
     clear hc_
     refine Wn (tN (W_rs (sa rfl rfl (Wn (tN (W_ret ?_))))))
     exact (rT rfl rfl ⟨rfl, .slice none 0 0, S1, ⟨hB, Row.nil _ _ _, ⟨hF.own, hF.g, fun k hk => by simp [Value.ownBlock] at hk, hF.gB⟩⟩, hS1, fun k hk => by simp [Value.ownBlock] at hk, hcw⟩).1
end
theorem Intent_nil (p : List UInt8) (w : World) : Calls Tryz.prog 19 #[.pointer none, str p] w fun e w' => e = .returned (.tuple #[.int .i64 0, .int .i64 2]) ∧ w = w' := by
 refine W_enter (args := [.pointer none, str p]) 59 Tryz.func19 rfl rfl rfl (W_sub [(0, .pointer none), (1, str p)] ?_ ⟨rfl, rfl, trivial⟩)
 refine W_rs (sa rfl rfl (sa rfl rfl (Wn (tN (W_seq (W_block (W_rs (sm rfl rfl (st (X.jEq rfl) rfl (sa rfl rfl ?_))))))))))
 refine Wn (tN (W_yes rfl (rfl) (W_rs (sa rfl rfl (sa rfl rfl (Wn (tN (W_ret (bR (tR ?_))))))))))
 exact (rTT rfl rfl rfl ⟨rfl, rfl⟩).1
theorem may_nil (i : Int) (w : World) : Calls Tryz.prog 69 #[.pointer none, .int .i64 i] w fun e w' => e = .returned (.int .i64 2) ∧ w = w' := by
 refine W_enter (args := [.pointer none, .int .i64 i]) 24 Tryz.func69 rfl rfl rfl (W_sub [(0, .pointer none), (1, .int .i64 i)] ?_ ⟨rfl, rfl, trivial⟩)
 refine W_rs (sa rfl rfl (Wn (tN (W_seq (W_block (W_rs (sm rfl rfl (st (X.jEq rfl) rfl (sa rfl rfl (Wn ?_))))))))))
 refine tN (W_yes rfl (rfl) (W_rs (sa rfl rfl (Wn (tN (W_ret (bR (tR ?_))))))))
 exact (rT rfl rfl ⟨rfl, rfl⟩).1
theorem Commit_nil (i : Int) (w : World) : Calls Tryz.prog 20 #[.pointer none, .int .i64 i] w fun e w' => e = .returned (.int .i64 2) ∧ w = w' := by
 refine W_enter (args := [.pointer none, .int .i64 i]) 41 Tryz.func20 rfl rfl rfl (W_sub [(0, .pointer none), (1, .int .i64 i)] ?_ ⟨rfl, rfl, trivial⟩)
 refine W_rs (sa rfl rfl (Wn (tN (W_seq (W_rs (sm rfl rfl (sm rfl rfl (sc _ Tryz.func69 rfl (by kernel_rfl) rfl rfl ((may_nil i _).mono ?_)))))))))
 rintro e_ w_ ⟨rfl, rfl⟩
 refine cR (sa rfl rfl (Wn (tN (W_rs (sm rfl rfl (st (X.neq rfl rfl) rfl (Wn (tN (W_yes rfl (rfl) (W_rs ?_))))))))))
 refine sm rfl rfl (sa rfl rfl (Wn (tN (W_ret (tR ?_)))))
 exact (rT rfl rfl ⟨rfl, rfl⟩).1
theorem Abort_nil (i : Int) (w : World) : Calls Tryz.prog 29 #[.pointer none, .int .i64 i] w fun e w' => e = .returned (.int .i64 2) ∧ w = w' := by
 refine W_enter (args := [.pointer none, .int .i64 i]) 18 Tryz.func29 rfl rfl rfl (W_sub [(0, .pointer none), (1, .int .i64 i)] ?_ ⟨rfl, rfl, trivial⟩)
 refine W_rs (sa rfl rfl (Wn (tN (W_rs (sm rfl rfl (sm rfl rfl (sc _ Tryz.func69 rfl (by kernel_rfl) rfl rfl ((may_nil i _).mono ?_))))))))
 rintro e_ w_ ⟨rfl, rfl⟩
 refine cR (sa rfl rfl (Wn (tN (W_seq (W_rs (sm rfl rfl (st (X.eql rfl rfl) rfl (Wn (tN (W_no rfl (rfl) ?_))))))))))
 refine W_skip (tN (W_rs (sm rfl rfl (sa rfl rfl (Wn (tN (W_ret ?_)))))))
 exact (rT rfl rfl ⟨rfl, rfl⟩).1
theorem Checkpoint_nil (p : List UInt8) (w : World) : Calls Tryz.prog 21 #[.pointer none, str p] w fun e w' => e = .returned (.int .i64 2) ∧ w = w' := by
 refine W_enter (args := [.pointer none, str p]) 51 Tryz.func21 rfl rfl rfl (W_sub [(0, .pointer none), (1, str p)] ?_ ⟨rfl, rfl, trivial⟩)
 refine W_rs (sa rfl rfl (Wn (tN (W_seq (W_block (W_rs (sm rfl rfl (st (X.jEq rfl) rfl (sa rfl rfl (Wn ?_))))))))))
 refine tN (W_yes rfl (rfl) (W_rs (sa rfl rfl (Wn (tN (W_ret (bR (tR ?_))))))))
 exact (rT rfl rfl ⟨rfl, rfl⟩).1
theorem State_nil (w : World) : Calls Tryz.prog 25 #[.pointer none] w fun e w' => e = .returned (str []) ∧ w = w' := by
 refine W_enter (args := [.pointer none]) 10 Tryz.func25 rfl rfl rfl (W_sub [(0, .pointer none)] ?_ ⟨rfl, trivial⟩)
 refine W_rs (sa rfl rfl (Wn (tN (W_seq (W_rs (sm rfl rfl (st (X.jEq rfl) rfl (Wn (tN (W_yes rfl (rfl) ?_))))))))))
 refine W_rs (sa rfl rfl (Wn (tN (W_ret (tR ?_)))))
 exact (rT rfl rfl ⟨rfl, rfl⟩).1
theorem Done_nil (w : World) : Calls Tryz.prog 26 #[.pointer none] w fun e w' => e = .returned (.slice none 0 0) ∧ w = w' := by
 refine W_enter (args := [.pointer none]) 11 Tryz.func26 rfl rfl rfl (W_sub [(0, .pointer none)] ?_ ⟨rfl, trivial⟩)
 refine W_rs (sa rfl rfl (Wn (tN (W_seq (W_rs (sm rfl rfl (st (X.jEq rfl) rfl (Wn (tN (W_yes rfl (rfl) ?_))))))))))
 refine W_rs (sa rfl rfl (Wn (tN (W_ret (tR ?_)))))
 exact (rT rfl rfl ⟨rfl, rfl⟩).1
theorem Next_nil (w : World) : Calls Tryz.prog 27 #[.pointer none] w fun e w' => e = .returned (.int .i64 0) ∧ w = w' := by
 refine W_enter (args := [.pointer none]) 10 Tryz.func27 rfl rfl rfl (W_sub [(0, .pointer none)] ?_ ⟨rfl, trivial⟩)
 refine W_rs (sa rfl rfl (Wn (tN (W_seq (W_rs (sm rfl rfl (st (X.jEq rfl) rfl (Wn (tN (W_yes rfl (rfl) ?_))))))))))
 refine W_rs (sa rfl rfl (Wn (tN (W_ret (tR ?_)))))
 exact (rT rfl rfl ⟨rfl, rfl⟩).1
theorem mem_used {l : List (Key × FileD)} {k : Key} {f : FileD} (h : (k, f) ∈ l) : f.now.length ≤ usedM l := by
 induction l with
 | nil => cases h
 | cons p l ih =>
  unfold usedM
  rcases List.mem_cons.1 h with h | h
  ·subst h
   simp only
   omega
  ·have := ih h
   omega
theorem DOk.most {D : DiskD} (h : DOk D) {k : Key} {f : FileD} (hf : mget D.files k = some f) : f.now.length ≤ 16777216 := by
 have h1 := mem_used (mget_mem hf)
 have h2 := h.used
 have h3 := h.room
 have h4 := h.lim
 omega
theorem readM_len {D : DiskD} (h : DOk D) {k : Key} {i n e : Int} {s : List UInt8} (hr : readM D k i n = (s, e)) : s.length ≤ 16777216 := by
 unfold readM at hr
 split at hr
 ·injection hr with h1 _
  subst h1
  simp
 ·rename_i f hf
  have := h.most hf
  split at hr
  ·injection hr with h1 _
   subst h1
   simp
  ·injection hr with h1 _
   subst h1
   simp only [List.length_take, List.length_drop]
   omega
theorem scanN_ok {s : List UInt8} : ∀ (n : Nat) {x : ScM}, ScOk s x → ScOk s (scanN n s x)
 | 0, _, h => h
 | n + 1, x, h => by
  unfold scanN
  split
  ·exact h
  ·rename_i y hy
   exact scanN_ok n (stepM_ok hy h).1
theorem scanM_ok (s : List UInt8) : ScOk s (scanM s) := scanN_ok _ (ScOk.new s)
theorem Own.of {B gd : Nat} {w0 w : World} {D0 D : DiskD} {S S1 : Nat → Prop} (h : Own B w0 gd D0 S) (hB : B ≤ w0.heap.size) (h1 : DiskAt w gd D S1) (hS1 : ∀ k, S1 k → Ext S w0 w k) (hz : w0.heap.size ≤ w.heap.size) : Own B w gd D S1 :=
 ⟨h1, fun k hk => by
  rcases hS1 k hk with e | e
  ·have := h.lo k e; omega
  ·omega⟩
theorem bjrn (gd : Nat) (a : List UInt8) (q : Option Addr) (n c : Nat) (i j : Int) (w : World) : (Instr.build 106 #[(0, .pointer (some ⟨gd, 0, none⟩)), (1, .agg #[str a, .slice q n c, .int .i64 i, .int .i64 j])]).run Tryz.prog w = .ok (.agg #[.pointer (some ⟨gd, 0, none⟩), str a, .slice q n c, .int .i64 i, .int .i64 j, .int .i64 0, str [], .bool false]) w := by kernel_rfl
def OpenPost (B : Nat) (w : World) (gd : Nat) (S : Nat → Prop) (r : (Option JrM × Int) × DiskD) (e : Ending) (w' : World) : Prop :=
  ∃ S', Own B w' gd r.2 S' ∧ (∀ k, S' k → S k ∨ w.heap.size ≤ k) ∧ Chg S w w' ∧
    match r.1.1 with
    | none => e = .returned (.tuple #[.pointer none, .int .i64 r.1.2])
    | some J => ∃ gj v, e = .returned (.tuple #[.pointer (some ⟨gj, 0, none⟩), .int .i64 r.1.2]) ∧ JAll B w' gd gj r.2 J v S' ∧ w.heap.size ≤ gj ∧ ∀ k, v.ownBlock = some k → w.heap.size ≤ k
set_option maxRecDepth 10000 in
theorem Open_any (B gd : Nat) (D : DiskD) (S : Nat → Prop) (n : Nat) (w : World) (hd : Own B w gd D S) (hB : B ≤ w.heap.size) (hg : Good n D) (hn : n ≤ 500000000) :
  Calls Tryz.prog 18 #[.pointer (some ⟨gd, 0, none⟩)] w (OpenPost B w gd S (openJ D)) := by
 have h := hd.at_
 have h1 := create_good hg jName
 obtain ⟨sz, se, hsz⟩ : ∃ a b, sizeM D jName = (a, b) := ⟨_, _, rfl⟩
 unfold openJ madeJ
 rw [hsz]
 simp only
 have hSz := Size_any gd D S jName w h
 rw [hsz] at hSz
 simp only at hSz
 refine W_enter (args := [.pointer (some ⟨gd, 0, none⟩)]) 58 Tryz.func18 rfl rfl rfl (W_sub [(0, .pointer (some ⟨gd, 0, none⟩))] ?_ ⟨rfl, trivial⟩)
 have hcw := Chg.refl (S) w
 have hS1 : ∀ k, S k → Ext S w w k := fun k hk => .inl hk
 refine W_rs (sa rfl rfl (sa rfl rfl (Wn (tN (W_seq (W_rs (sm rfl rfl (st (X.dEq rfl) rfl (Wn (tN ?_))))))))))
 refine W_no rfl (rfl) (W_skip (tN (W_rs (sm rfl rfl (sc _ Tryz.func22 rfl (by kernel_rfl) rfl rfl ((hSz).mono ?_))))))
 rintro e_ w1 ⟨rfl, hb⟩
 refine cR ?_
 replace hcw := hcw.then_below hb
 replace h := h.bel hb
 have hz_w1 := hb.size
 clear hb
 have hS1 : ∀ k, S k → Ext S w w1 k := fun k hk => .inl hk
 refine sm rfl rfl (st (X.ext rfl rfl) rfl (st (X.ext rfl rfl) rfl (sa rfl rfl (sa rfl rfl (Wn (tN (W_seq (W_rs (sm rfl rfl (st (X.eql rfl rfl) rfl ?_))))))))))
 refine Wn (tN (W_if rfl (fun h17 => ?_) (fun h17 => ?_)))
 ·first | replace h17 := of_decide_eq_true h17 | replace h17 := of_decide_eq_false (notT h17) | replace h17 := notT h17 | skip
  obtain rfl : se = 15 := h17
  rw [if_pos rfl]
  refine W_rs (sm rfl rfl (sc _ Tryz.func41 rfl (by kernel_rfl) rfl rfl ((dnext (Create_any gd D _ jName _ h hg.ok) hS1 hcw).mono ?_)))
  clear h
  rintro e_ w2 ⟨rfl, S1, h, hS1, hcw, hz1_⟩
  refine cR ?_
  obtain ⟨e1, D1, hp1⟩ : ∃ e D', createM D jName = (e, D') := ⟨_, _, rfl⟩
  rw [hp1] at h h1 ⊢
  simp only at h h1 ⊢
  refine sa rfl rfl (Wn (tN (W_rs (sm rfl rfl (st (X.neq rfl rfl) rfl (Wn (tN (W_if rfl (fun h21 => ?_) (fun h21 => ?_)))))))))
  ·first | replace h21 := of_decide_eq_true h21 | replace h21 := of_decide_eq_false (notT h21) | replace h21 := notT h21 | skip
   refine W_rs (sm rfl rfl (sa rfl rfl (sa rfl rfl (Wn (tN (W_ret (tR ?_)))))))
   rw [if_pos h21]
   exact (rTT rfl rfl rfl ⟨S1, Own.of hd hB h hS1 (by omega), fun k hk => (hS1 k hk).imp (fun e => e) (fun e => e.1), hcw, rfl⟩).1
  ·first | replace h21 := of_decide_eq_false h21 | replace h21 := of_decide_eq_true (notF h21) | replace h21 := notF h21 | skip
   rw [if_neg h21]
   refine W_skip (tN (W_rs (sm rfl rfl (sm rfl rfl ?_))))
   obtain ⟨s, e2, hr⟩ : ∃ a b, readM D1 jName 0 sz = (a, b) := ⟨_, _, rfl⟩
   rw [hr]
   simp only
   have hsl := readM_len h1.ok hr
   have hgd := (scanM_ok s).good
   refine sc _ Tryz.func45 rfl (by kernel_rfl) rfl rfl ((Read_is h h1.ok hr).mono ?_)
   rintro e_ w3 ⟨rfl, hb⟩
   refine cR ?_
   replace hcw := hcw.then_below hb
   replace h := h.bel hb
   have hz_w3 := hb.size
   clear hb
   refine sm rfl rfl (st (X.ext rfl rfl) rfl (st (X.ext rfl rfl) rfl (sa rfl rfl (sa rfl rfl (Wn (tN (W_seq (W_rs (sm rfl rfl (st (X.neq rfl rfl) rfl ?_))))))))))
   refine Wn (tN (W_if rfl (fun h30 => ?_) (fun h30 => ?_)))
   ·first | replace h30 := of_decide_eq_true h30 | replace h30 := of_decide_eq_false (notT h30) | replace h30 := notT h30 | skip
    refine W_rs (sm rfl rfl (sa rfl rfl (sa rfl rfl (Wn (tN (W_ret (tR ?_)))))))
    rw [if_pos h30]
    exact (rTT rfl rfl rfl ⟨S1, Own.of hd hB h (fun k hk => (hS1 k hk).imp (fun e => e) (fun e => ⟨e.1, by omega⟩)) (by omega), fun k hk => (hS1 k hk).imp (fun e => e) (fun e => e.1), hcw, rfl⟩).1
   ·first | replace h30 := of_decide_eq_false h30 | replace h30 := of_decide_eq_true (notF h30) | replace h30 := notF h30 | skip
    rw [if_neg h30]
    refine W_skip (tN (W_rs (sm rfl rfl (sm rfl rfl (sc _ Tryz.func65 rfl (by kernel_rfl) rfl rfl ((Scan_any s _ (by omega)).mono ?_))))))
    rintro e_ w4 ⟨⟨v, rfl, hR, hO⟩, hb⟩
    refine cR ?_
    replace hcw := hcw.then_below hb
    replace h := h.bel hb
    have hz_w4 := hb.size
    clear hb
    obtain ⟨q, c, rfl, _, _⟩ := hR.shape
    refine st (X.bld rfl (bjrn gd _ q _ c _ _ _)) rfl (sboxA rfl rfl (fun g36 w5 hB36 hg36 hb hl36 => ?_))
    replace hcw := hcw.then_below hb
    replace h := h.bel hb
    replace hR := hR.bel hb
    have hz_w5 := hb.size
    clear hb
    have hF : JF B w5 gd g36 D1 _ S1 := ⟨Own.of hd hB h (fun k hk => (hS1 k hk).imp (fun e => e) (fun e => ⟨e.1, by omega⟩)) (by omega), fun hs => by rcases hS1 _ hs with e | e; have := hd.lo _ e; omega; omega, fun k hk => ⟨fun hs => by have := hO k hk; rcases hS1 _ hs with e | e; have := hd.lo _ e; omega; omega, by have := hO k hk; omega⟩, by omega⟩
    have hS1' : ∀ k, S1 k → S k ∨ w.heap.size ≤ k := fun k hk => (hS1 k hk).imp (fun e => e) (fun e => e.1)
    refine sa rfl rfl (Wn (tN (W_seq (W_rs (sm rfl rfl (st (X.nilChk rfl) rfl (st (X.fa fa106_1 rfl) rfl (st (X.fa fa103_3 rfl) rfl (st (X.ldL rfl hB36 Tryz.underlying3 rfl rfl) rfl (sm rfl rfl ?_))))))))))
    refine st (X.lenS rfl rfl Tryz.underlying9) rfl (st (X.lss rfl rfl) rfl (Wn (tN (W_if rfl (fun h44 => ?_) (fun h44 => ?_)))))
    ·first | replace h44 := of_decide_eq_true h44 | replace h44 := of_decide_eq_false (notT h44) | replace h44 := notT h44 | skip
     have hlg : (scanM s).good < s.length := by omega
     rw [if_pos hlg]
     refine W_rs (sm rfl rfl (sm rfl rfl (sm rfl rfl (st (X.nilChk rfl) rfl (st (X.fa fa106_1 rfl) rfl (st (X.fa fa103_3 rfl) rfl (st (X.ldL rfl hB36 Tryz.underlying3 rfl rfl) rfl (st (X.toS rfl rfl Tryz.underlying9 rfl (by omega)) rfl (sc _ Tryz.func66 rfl (by kernel_rfl) rfl rfl ((jdisk (replace_any gd D1 _ (s.take (scanM s).good) (n + 1) _ hF.own.at_ h1 (by omega) (by rw [List.length_take]; omega)) hB36 hR hF hcw (fun k hk => hk) hS1').mono ?_))))))))))
     clear hB36 hR hF
     rintro e_ w6 ⟨rfl, S2, hB36, hR, hF, hS2, hcw, hz2_⟩
     refine cR ?_
     obtain ⟨e3, D3, hp3⟩ : ∃ e D', replaceJ D1 (s.take (scanM s).good) = (e, D') := ⟨_, _, rfl⟩
     rw [hp3] at hF ⊢
     simp only at hF ⊢
     refine sa rfl rfl (Wn (tN (W_rs (sm rfl rfl (st (X.neq rfl rfl) rfl (Wn (tN (W_if rfl (fun h55 => ?_) (fun h55 => ?_)))))))))
     ·first | replace h55 := of_decide_eq_true h55 | replace h55 := of_decide_eq_false (notT h55) | replace h55 := notT h55 | skip
      rw [if_pos h55]
      refine W_rs (sm rfl rfl (sa rfl rfl (sa rfl rfl (Wn (tN (W_ret (tR ?_)))))))
      exact (rTT rfl rfl rfl ⟨S2, hF.own, hS2, hcw, rfl⟩).1
     ·first | replace h55 := of_decide_eq_false h55 | replace h55 := of_decide_eq_true (notF h55) | replace h55 := notF h55 | skip
      rw [if_neg h55]
      refine W_skip (tN (W_rs (sm rfl rfl (sa rfl rfl (sa rfl rfl (Wn (tN (W_ret ?_))))))))
      exact (rTT rfl rfl rfl ⟨S2, hF.own, hS2, hcw, g36, _, rfl, ⟨hB36, hR, hF⟩, by omega, fun k hk => by have := hO k hk; omega⟩).1
    ·first | replace h44 := of_decide_eq_false h44 | replace h44 := of_decide_eq_true (notF h44) | replace h44 := notF h44 | skip
     rw [if_neg (by omega)]
     refine W_skip (tN (W_rs (sm rfl rfl (sa rfl rfl (sa rfl rfl (Wn (tN (W_ret ?_))))))))
     exact (rTT rfl rfl rfl ⟨S1, hF.own, hS1', hcw, g36, _, rfl, ⟨hB36, hR, hF⟩, by omega, fun k hk => by have := hO k hk; omega⟩).1
 ·first | replace h17 := of_decide_eq_false h17 | replace h17 := of_decide_eq_true (notF h17) | replace h17 := notF h17 | skip
  rw [if_neg h17]
  obtain ⟨D1, h, h1, hD1⟩ : ∃ D1, DiskAt w1 gd D1 S ∧ Good (n + 1) D1 ∧ D1 = D := ⟨D, h, hg.mono (by omega), rfl⟩
  rw [← hD1]
  simp only [ne_eq, not_true_eq_false, if_false]
  obtain ⟨S1, h, hS1⟩ : ∃ S1, DiskAt w1 gd D1 S1 ∧ ∀ k, S1 k → Ext S w w1 k := ⟨S, h, hS1⟩
  refine W_skip (tN (W_rs (sm rfl rfl (sm rfl rfl ?_))))
  obtain ⟨s, e2, hr⟩ : ∃ a b, readM D1 jName 0 sz = (a, b) := ⟨_, _, rfl⟩
  rw [hr]
  simp only
  have hsl := readM_len h1.ok hr
  have hgd := (scanM_ok s).good
  refine sc _ Tryz.func45 rfl (by kernel_rfl) rfl rfl ((Read_is h h1.ok hr).mono ?_)
  rintro e_ w7 ⟨rfl, hb⟩
  refine cR ?_
  replace hcw := hcw.then_below hb
  replace h := h.bel hb
  have hz_w7 := hb.size
  clear hb
  refine sm rfl rfl (st (X.ext rfl rfl) rfl (st (X.ext rfl rfl) rfl (sa rfl rfl (sa rfl rfl (Wn (tN (W_seq (W_rs (sm rfl rfl (st (X.neq rfl rfl) rfl ?_))))))))))
  refine Wn (tN (W_if rfl (fun h30 => ?_) (fun h30 => ?_)))
  ·first | replace h30 := of_decide_eq_true h30 | replace h30 := of_decide_eq_false (notT h30) | replace h30 := notT h30 | skip
   refine W_rs (sm rfl rfl (sa rfl rfl (sa rfl rfl (Wn (tN (W_ret (tR ?_)))))))
   rw [if_pos h30]
   exact (rTT rfl rfl rfl ⟨S1, Own.of hd hB h (fun k hk => (hS1 k hk).imp (fun e => e) (fun e => ⟨e.1, by omega⟩)) (by omega), fun k hk => (hS1 k hk).imp (fun e => e) (fun e => e.1), hcw, rfl⟩).1
  ·first | replace h30 := of_decide_eq_false h30 | replace h30 := of_decide_eq_true (notF h30) | replace h30 := notF h30 | skip
   rw [if_neg h30]
   refine W_skip (tN (W_rs (sm rfl rfl (sm rfl rfl (sc _ Tryz.func65 rfl (by kernel_rfl) rfl rfl ((Scan_any s _ (by omega)).mono ?_))))))
   rintro e_ w8 ⟨⟨v, rfl, hR, hO⟩, hb⟩
   refine cR ?_
   replace hcw := hcw.then_below hb
   replace h := h.bel hb
   have hz_w8 := hb.size
   clear hb
   obtain ⟨q, c, rfl, _, _⟩ := hR.shape
   refine st (X.bld rfl (bjrn gd _ q _ c _ _ _)) rfl (sboxA rfl rfl (fun g36 w9 hB36 hg36 hb hl36 => ?_))
   replace hcw := hcw.then_below hb
   replace h := h.bel hb
   replace hR := hR.bel hb
   have hz_w9 := hb.size
   clear hb
   have hF : JF B w9 gd g36 D1 _ S1 := ⟨Own.of hd hB h (fun k hk => (hS1 k hk).imp (fun e => e) (fun e => ⟨e.1, by omega⟩)) (by omega), fun hs => by rcases hS1 _ hs with e | e; have := hd.lo _ e; omega; omega, fun k hk => ⟨fun hs => by have := hO k hk; rcases hS1 _ hs with e | e; have := hd.lo _ e; omega; omega, by have := hO k hk; omega⟩, by omega⟩
   have hS1' : ∀ k, S1 k → S k ∨ w.heap.size ≤ k := fun k hk => (hS1 k hk).imp (fun e => e) (fun e => e.1)
   refine sa rfl rfl (Wn (tN (W_seq (W_rs (sm rfl rfl (st (X.nilChk rfl) rfl (st (X.fa fa106_1 rfl) rfl (st (X.fa fa103_3 rfl) rfl (st (X.ldL rfl hB36 Tryz.underlying3 rfl rfl) rfl (sm rfl rfl ?_))))))))))
   refine st (X.lenS rfl rfl Tryz.underlying9) rfl (st (X.lss rfl rfl) rfl (Wn (tN (W_if rfl (fun h44 => ?_) (fun h44 => ?_)))))
   ·first | replace h44 := of_decide_eq_true h44 | replace h44 := of_decide_eq_false (notT h44) | replace h44 := notT h44 | skip
    have hlg : (scanM s).good < s.length := by omega
    rw [if_pos hlg]
    refine W_rs (sm rfl rfl (sm rfl rfl (sm rfl rfl (st (X.nilChk rfl) rfl (st (X.fa fa106_1 rfl) rfl (st (X.fa fa103_3 rfl) rfl (st (X.ldL rfl hB36 Tryz.underlying3 rfl rfl) rfl (st (X.toS rfl rfl Tryz.underlying9 rfl (by omega)) rfl (sc _ Tryz.func66 rfl (by kernel_rfl) rfl rfl ((jdisk (replace_any gd D1 _ (s.take (scanM s).good) (n + 1) _ hF.own.at_ h1 (by omega) (by rw [List.length_take]; omega)) hB36 hR hF hcw (fun k hk => hk) hS1').mono ?_))))))))))
    clear hB36 hR hF
    rintro e_ w10 ⟨rfl, S2, hB36, hR, hF, hS2, hcw, hz2_⟩
    refine cR ?_
    obtain ⟨e3, D3, hp3⟩ : ∃ e D', replaceJ D1 (s.take (scanM s).good) = (e, D') := ⟨_, _, rfl⟩
    rw [hp3] at hF ⊢
    simp only at hF ⊢
    refine sa rfl rfl (Wn (tN (W_rs (sm rfl rfl (st (X.neq rfl rfl) rfl (Wn (tN (W_if rfl (fun h55 => ?_) (fun h55 => ?_)))))))))
    ·first | replace h55 := of_decide_eq_true h55 | replace h55 := of_decide_eq_false (notT h55) | replace h55 := notT h55 | skip
     rw [if_pos h55]
     refine W_rs (sm rfl rfl (sa rfl rfl (sa rfl rfl (Wn (tN (W_ret (tR ?_)))))))
     exact (rTT rfl rfl rfl ⟨S2, hF.own, hS2, hcw, rfl⟩).1
    ·first | replace h55 := of_decide_eq_false h55 | replace h55 := of_decide_eq_true (notF h55) | replace h55 := notF h55 | skip
     rw [if_neg h55]
     refine W_skip (tN (W_rs (sm rfl rfl (sa rfl rfl (sa rfl rfl (Wn (tN (W_ret ?_))))))))
     exact (rTT rfl rfl rfl ⟨S2, hF.own, hS2, hcw, g36, _, rfl, ⟨hB36, hR, hF⟩, by omega, fun k hk => by have := hO k hk; omega⟩).1
   ·first | replace h44 := of_decide_eq_false h44 | replace h44 := of_decide_eq_true (notF h44) | replace h44 := notF h44 | skip
    rw [if_neg (by omega)]
    refine W_skip (tN (W_rs (sm rfl rfl (sa rfl rfl (sa rfl rfl (Wn (tN (W_ret ?_))))))))
    exact (rTT rfl rfl rfl ⟨S1, hF.own, hS1', hcw, g36, _, rfl, ⟨hB36, hR, hF⟩, by omega, fun k hk => by have := hO k hk; omega⟩).1
end Go.Proofs.YtnijmegalgoipaaGreatDoor
namespace Go.Proofs.YtnijmegalgoipaaGreatDoor
theorem tickQ {D : DiskD} (h : D.stops = false) : tickM D = D := by
 unfold tickM
 rw [if_neg (by simp [h])]
theorem opQ {D : DiskD} (h : D.stops = false) (k : DiskD → Int × DiskD) : opM D k = k D := by
 unfold opM
 rw [if_neg (by simp [h]), tickQ h]
section
variable {D : DiskD} {n : Key} {f : FileD}
theorem file_stops (h : D.stops = false) {k : FileD → Int × DiskD} (hk : ∀ f, (k f).2.stops = false) : (fileM D n k).2.stops = false := by
 unfold fileM
 split
 ·exact h
 ·exact hk _
theorem put_stops (h : D.stops = false) (f : FileD) (a : Nat) (d : List UInt8) : (putM D n f a d).2.stops = false := by
 unfold putM
 split
 ·exact h
 ·split <;> exact h
theorem remove_stops (h : D.stops = false) : (removeM D n).2.stops = false := by
 unfold removeM
 rw [opQ h]
 exact file_stops h (fun _ => h)
theorem create_stops (h : D.stops = false) : (createM D n).2.stops = false := by
 unfold createM
 rw [opQ h]
 split
 ·split <;> exact h
 ·exact h
theorem append_stops (h : D.stops = false) (d : List UInt8) : (appendM D n d).2.stops = false := by
 unfold appendM
 rw [opQ h]
 exact file_stops h (fun f => put_stops h f _ d)
theorem sync_stops (h : D.stops = false) : (syncM D n).2.stops = false := by
 unfold syncM
 rw [opQ h]
 exact file_stops h (fun _ => h)
theorem rename_stops (h : D.stops = false) (m : Key) : (renameM D n m).2.stops = false := by
 unfold renameM
 rw [opQ h]
 split
 ·refine file_stops h (fun f => ?_)
  split <;> exact h
 ·exact h
theorem rot_stops (h : D.stops = false) (a : Int) (b : UInt8) : (rotM D n a b).2.stops = false := by
 unfold rotM
 refine file_stops h (fun f => ?_)
 split <;> exact h
theorem append_val (h : D.stops = false) (hg : mget D.files n = some f) (hs : Rising D.files) (d : List UInt8) : ((appendM D n d).1 = 0 ∨ (appendM D n d).1 = 17) ∧ ∃ f', mget (appendM D n d).2.files n = some f' := by
 unfold appendM
 rw [opQ h, fileM_some hg]
 unfold putM
 split
 ·exact ⟨.inl rfl, f, hg⟩
 ·split
  ·exact ⟨.inr rfl, f, hg⟩
  ·exact ⟨.inl rfl, _, by rw [mget_sput hs, if_pos rfl]⟩
theorem sync_val (h : D.stops = false) (hg : mget D.files n = some f) : (syncM D n).1 = 0 := by
 unfold syncM
 rw [opQ h, fileM_some hg]
theorem sync_has {m : Key} (h : D.stops = false) (hs : Rising D.files) (hm : (mget D.files m).isSome = true) : (mget (syncM D n).2.files m).isSome = true := by
 unfold syncM
 rw [opQ h]
 unfold fileM
 split
 ·exact hm
 ·rw [mget_sput hs]
  split
  ·rfl
  ·exact hm
theorem append_has {m : Key} (h : D.stops = false) (hs : Rising D.files) (hm : (mget D.files m).isSome = true) (d : List UInt8) : (mget (appendM D n d).2.files m).isSome = true := by
 unfold appendM
 rw [opQ h]
 unfold fileM
 split
 ·exact hm
 ·dsimp only
  unfold putM
  split
  ·exact hm
  ·split
   ·exact hm
   ·rw [mget_sput hs]
    split
    ·rfl
    ·exact hm
theorem create_has {m : Key} (h : D.stops = false) (hs : Rising D.files) (hm : (mget D.files m).isSome = true) : (mget (createM D n).2.files m).isSome = true := by
 unfold createM
 rw [opQ h]
 split
 ·split
  ·exact hm
  ·rw [mget_sput hs]
   split
   ·rfl
   ·exact hm
 ·exact hm
theorem remove_has {m : Key} (h : D.stops = false) (hs : Rising D.files) (hm : (mget D.files m).isSome = true) (hne : m ≠ n) : (mget (removeM D n).2.files m).isSome = true := by
 unfold removeM
 rw [opQ h]
 unfold fileM
 split
 ·exact hm
 ·rw [mget_mdel hs.nodup, if_neg hne]
  exact hm
theorem remove_val (h : D.stops = false) (hs : Rising D.files) : ((removeM D n).1 = 0 ∨ (removeM D n).1 = 15) ∧ mget (removeM D n).2.files n = none := by
 unfold removeM
 rw [opQ h]
 unfold fileM
 split
 ·rename_i hg
  exact ⟨.inr rfl, hg⟩
 ·exact ⟨.inl rfl, by rw [mget_mdel hs.nodup, if_pos rfl]⟩
theorem create_val (h : D.stops = false) (hs : Rising D.files) (hn : nameOk n = true) (hg : mget D.files n = none) : (createM D n).1 = 0 ∧ mget (createM D n).2.files n = some newFile := by
 unfold createM
 rw [opQ h, if_pos hn, if_neg (by rw [hg]; simp)]
 exact ⟨rfl, by rw [mget_sput hs, if_pos rfl]⟩
theorem rename_has (h : D.stops = false) (hs : Rising D.files) (a b : Key) (hne : a ≠ b) {f : FileD} (hg : mget D.files a = some f) (hn : nameOk b = true) : (renameM D a b).1 = 0 ∧ (mget (renameM D a b).2.files b).isSome = true := by
 unfold renameM
 rw [opQ h, if_pos hn, fileM_some hg, if_neg hne]
 exact ⟨rfl, by rw [mget_sput (hs.del a), if_pos rfl]; rfl⟩
end
def replaceR (D : DiskD) (s : List UInt8) : Int × DiskD :=
  if (appendM (createM (removeM D jNew).2 jNew).2 jNew s).1 ≠ 0 then ((appendM (createM (removeM D jNew).2 jNew).2 jNew s).1, (removeM (appendM (createM (removeM D jNew).2 jNew).2 jNew s).2 jNew).2)
  else renameM (syncM (appendM (createM (removeM D jNew).2 jNew).2 jNew s).2 jNew).2 jNew jName
section
variable {D : DiskD} {n : Nat}
theorem replace_all (hg : Good n D) (h : D.stops = false) (s : List UInt8) : replaceR D s = replaceJ D s ∧ (replaceJ D s).2.stops = false ∧ ((replaceJ D s).1 = 0 ∨ (replaceJ D s).1 = 17) ∧ ((mget D.files jName).isSome = true → (mget (replaceJ D s).2.files jName).isSome = true) := by
 have g1 := remove_good hg jNew
 have g2 := create_good g1 jNew
 have g3 := append_good g2 jNew s
 have g4 := sync_good g3 jNew
 have s1 := remove_stops (n := jNew) h
 have s2 := create_stops (n := jNew) s1
 have s3 := append_stops (n := jNew) s2 s
 have s4 := sync_stops (n := jNew) s3
 obtain ⟨v1, e1⟩ := remove_val (n := jNew) h hg.ok.srt
 obtain ⟨v2, e2⟩ := create_val (n := jNew) s1 g1.ok.srt (by decide) e1
 obtain ⟨v3, f3, e3⟩ := append_val (n := jNew) s2 e2 g2.ok.srt s
 have v4 := sync_val s3 e3
 have hne : jName ≠ jNew := by decide
 have h1 : (mget D.files jName).isSome = true → (mget (removeM D jNew).2.files jName).isSome = true := fun e => remove_has h hg.ok.srt e hne
 have h2 := fun e => create_has (n := jNew) s1 g1.ok.srt (h1 e)
 have h3 := fun e => append_has (n := jNew) s2 g2.ok.srt (h2 e) s
 unfold replaceR replaceJ
 rw [if_neg (show ¬ ((removeM D jNew).1 ≠ 0 ∧ (removeM D jNew).1 ≠ 15) by omega), if_neg (show ¬ ((createM (removeM D jNew).2 jNew).1 ≠ 0) by omega)]
 by_cases ha : (appendM (createM (removeM D jNew).2 jNew).2 jNew s).1 ≠ 0
 ·rw [if_pos ha, if_pos ha]
  exact ⟨rfl, remove_stops s3, .inr (v3.resolve_left ha), fun e => remove_has s3 g3.ok.srt (h3 e) hne⟩
 ·rw [if_neg ha, if_neg ha, if_neg (show ¬ ((syncM (appendM (createM (removeM D jNew).2 jNew).2 jNew s).2 jNew).1 ≠ 0) by omega)]
  have e4 : (mget (syncM (appendM (createM (removeM D jNew).2 jNew).2 jNew s).2 jNew).2.files jNew).isSome = true := sync_has s3 g3.ok.srt (by rw [e3]; rfl)
  obtain ⟨f4, hf4⟩ := Option.isSome_iff_exists.1 e4
  obtain ⟨r1, r2⟩ := rename_has s4 g4.ok.srt jNew jName (Ne.symm hne) hf4 (by decide)
  exact ⟨rfl, rename_stops s4 _, .inl r1, fun _ => r2⟩
def putR (D : DiskD) (k : UInt8) (b : List UInt8) : Int × DiskD := if (appendM D jName (sealM k b)).1 = 0 then ((appendM D jName (sealM k b)).1, (syncM (appendM D jName (sealM k b)).2 jName).2) else appendM D jName (sealM k b)
theorem put_all (hg : Good n D) (h : D.stops = false) (hj : (mget D.files jName).isSome = true) (k : UInt8) (b : List UInt8) : putR D k b = putJ D k b ∧ (putJ D k b).2.stops = false ∧ ((putJ D k b).1 = 0 ∨ (putJ D k b).1 = 17) ∧ (mget (putJ D k b).2.files jName).isSome = true := by
 obtain ⟨f, hf⟩ := Option.isSome_iff_exists.1 hj
 have g1 := append_good hg jName (sealM k b)
 have s1 := append_stops (n := jName) h (sealM k b)
 obtain ⟨v1, f1, e1⟩ := append_val (n := jName) h hf hg.ok.srt (sealM k b)
 have v2 := sync_val s1 e1
 unfold putR putJ
 by_cases ha : (appendM D jName (sealM k b)).1 = 0
 ·rw [if_pos ha, if_pos ha]
  refine ⟨?_, sync_stops s1, .inl v2, sync_has s1 g1.ok.srt (by rw [e1]; rfl)⟩
  rw [Prod.ext_iff]
  exact ⟨by rw [ha, v2], rfl⟩
 ·rw [if_neg ha, if_neg ha]
  exact ⟨rfl, s1, v1, by rw [e1]; rfl⟩
def openR (D : DiskD) : (Option ScM × Int) × DiskD :=
  let D1 := if (readM D jName 0 1073741824).2 ≠ 0 then (createM D jName).2 else D
  let s := (readM D jName 0 1073741824).1
  if (scanM s).good < s.length then (if (replaceR D1 (s.take (scanM s).good)).1 ≠ 0 then ((none, (replaceR D1 (s.take (scanM s).good)).1), (replaceR D1 (s.take (scanM s).good)).2) else ((some (scanM s), 0), (replaceR D1 (s.take (scanM s).good)).2))
  else ((some (scanM s), 0), D1)
def viewJ (x : ScM) : JrM := ⟨{ x with open_ := 0, last := [] }, false⟩
theorem open_all (hg : Good n D) (h : D.stops = false) : openJ D = (((openR D).1.1.map viewJ, (openR D).1.2), (openR D).2) ∧ (openR D).2.stops = false ∧ ((openR D).1.1.isSome = true → (openR D).1.2 = 0 ∧ (mget (openR D).2.files jName).isSome = true) ∧ ((openR D).1.1 = none → (openR D).1.2 ≠ 0) := by
 cases hm : mget D.files jName with
 | none =>
  have hs : sizeM D jName = (0, 15) := by unfold sizeM; rw [hm]
  have hr : readM D jName 0 1073741824 = ([], 15) := by unfold readM; rw [hm]
  obtain ⟨v1, e1⟩ := create_val (n := jName) h hg.ok.srt (by decide) hm
  have s1 := create_stops (n := jName) h
  have hmd : madeJ D = (0, (createM D jName).2) := by
   unfold madeJ
   rw [hs, if_pos rfl, ← v1]
  have hr2 : readM (createM D jName).2 jName 0 0 = ([], 0) := by
   unfold readM
   rw [e1]
   rfl
  have hg0 : (scanM []).good = 0 := by decide +kernel
  unfold openJ openR
  rw [hmd, hs]
  simp only
  rw [if_neg (show ¬ ((0 : Int) ≠ 0) by simp), hr2, hr]
  simp only
  rw [if_neg (show ¬ ((0 : Int) ≠ 0) by simp), if_neg (by rw [hg0]; simp), if_neg (by rw [hg0]; simp), if_pos (show (15 : Int) ≠ 0 by decide)]
  exact ⟨rfl, s1, fun _ => ⟨rfl, by rw [e1]; rfl⟩, fun e => by cases e⟩
 | some f =>
  have hl := (hg.ok.len hm).1
  have hs : sizeM D jName = ((f.now.length : Int), 0) := by unfold sizeM; rw [hm]
  have hr : readM D jName 0 1073741824 = (f.now, 0) := by
   unfold readM
   rw [hm]
   simp only
   rw [if_neg (by omega), show (0 : Int).toNat = 0 from rfl, List.drop_zero, List.take_of_length_le (by omega)]
  have hr2 : readM D jName 0 (f.now.length : Int) = (f.now, 0) := by
   unfold readM
   rw [hm]
   simp only
   rw [if_neg (by omega), show (0 : Int).toNat = 0 from rfl, List.drop_zero, List.take_of_length_le (by omega)]
  have hmd : madeJ D = (0, D) := by
   unfold madeJ
   rw [hs, if_neg (by simp)]
  obtain ⟨r1, r2, r3, r4⟩ := replace_all hg h (f.now.take (scanM f.now).good)
  unfold openJ openR
  rw [hmd, hs]
  simp only
  rw [if_neg (show ¬ ((0 : Int) ≠ 0) by simp), hr2, hr]
  simp only
  rw [if_neg (show ¬ ((0 : Int) ≠ 0) by simp), if_neg (show ¬ ((0 : Int) ≠ 0) by simp), r1]
  by_cases hgd : (scanM f.now).good < f.now.length
  ·rw [if_pos hgd, if_pos hgd]
   by_cases he : (replaceJ D (f.now.take (scanM f.now).good)).1 ≠ 0
   ·rw [if_pos he, if_pos he]
    exact ⟨rfl, r2, fun e => absurd e (by simp), fun _ => he⟩
   ·rw [if_neg he, if_neg he]
    exact ⟨rfl, r2, fun _ => ⟨rfl, r4 (by rw [hm]; rfl)⟩, fun e => by cases e⟩
  ·rw [if_neg hgd, if_neg hgd]
   exact ⟨rfl, h, fun _ => ⟨rfl, by rw [hm]; rfl⟩, fun e => by cases e⟩
end
end Go.Proofs.YtnijmegalgoipaaGreatDoor
namespace Go.Proofs.YtnijmegalgoipaaGreatDoor
open Go.RowKit
def fourD (n : Int) : Nat → List UInt8
  | 0 => []
  | k + 1 => fourD n k ++ [byteI (n / 256 ^ k)]
theorem wbm (m : Int) : IntKind.u8.wrap (m % 256) = ((byteI m).toNat : Int) := by rw [w8, byteI_toNat]; omega
theorem Num_any (n : Int) (w : World) (h0 : 0 ≤ n) (h1 : n ≤ 9223372036854775807) : Calls Tryz.prog 114 #[.int .i64 n] w fun e w' => e = .returned (str (four n)) ∧ Below w.heap.size w w' := by
 refine W_enter (args := [.int .i64 n]) 19 Tryz.func114 rfl rfl rfl (W_sub [(0, .int .i64 n)] ?_ ⟨rfl, trivial⟩)
 have hbw := Below.refl w.heap.size w
 refine W_rs (sa rfl rfl (Wn (tN (W_rs (sa rfl rfl (Wn (tN (W_seq (W_rs (sa rfl rfl ?_))))))))))
 refine Wn (tN (W_block (W_lp (fun nw1_ lw1_ w1 => ∃ k : Nat, ∃ m : Int, nw1_ = 4 - k ∧ lw1_ = ([(0, .int .i64 m), (3, str (fourD n k)), (4, .int .i64 k)] : Env) ∧ (k ≤ 4) ∧ (m = n / 256 ^ k) ∧ (0 ≤ m ∧ m ≤ 9223372036854775807) ∧ (Below w.heap.size w w1)) _ ⟨_, ⟨0, n, rfl, rfl, by omega, by simp, ⟨h0, h1⟩, hbw⟩, ⟨rfl, rfl, rfl, trivial⟩⟩ ?_)))
 clear hbw
 rintro nw1_ lw1_ w1 ⟨k, m, rfl, rfl, hk, hm, hm0, hbw⟩
 have hz_w1 := hbw.size
 refine W_seq (W_rs (sm rfl rfl (st (X.lss rfl rfl) rfl (Wn (tN (W_if rfl (fun h6 => ?_) (fun h6 => ?_)))))))
 ·first | replace h6 := of_decide_eq_true h6 | replace h6 := of_decide_eq_false (notT h6) | replace h6 := notT h6 | skip
  have hfl : (fourD n k).length = k := by clear hm hm0; induction k with | zero => rfl | succ q ih => (rw [fourD, List.length_append, ih (by omega) (by omega)]; rfl)
  refine W_skip (tN (W_seq (W_block (W_rs (sm rfl rfl (sm rfl rfl (st (X.rem64 rfl rfl (by omega) (by omega)) rfl (st (X.convI rfl Tryz.underlying3 Tryz.underlying5 (wbm m)) rfl (sbs1 rfl Tryz.underlying94 inf5 rfl rfl (by decide) (by decide) rfl (fun g13 w2 hR13 hg13 hb => ?_))))))))))
  replace hbw := bthen hbw hb
  have hz_w2 := hb.size
  clear hb
  have hl13 := hR13.blt (by decide)
  refine st (X.strOf (s := [byteI m]) rfl Tryz.underlying94 Tryz.underlying5 Tryz.underlying9 hR13.reads) rfl (st (X.cat rfl rfl (by rw [hfl]; simp; omega)) rfl ?_)
  refine sa rfl rfl (Wn (tN (W_reg ?_)))
  rw [show fourD n k ++ [byteI m] = fourD n (k + 1) by rw [hm]; rfl]
  refine sm rfl rfl (st (X.quo64 rfl rfl (by omega) (by omega) (by omega)) rfl (sa rfl rfl (Wn (bN (tN (W_reg (sm rfl rfl (st (X.add64 rfl rfl (by omega)) rfl (sa rfl rfl (Wn ?_))))))))))
  refine tN ⟨_, _, ?_, ⟨k + 1, m / 256, rfl, rfl, by omega, by rw [hm, Int.pow_succ, Int.ediv_ediv_of_nonneg (Int.pow_nonneg (by decide))], by omega, hbw⟩, ⟨rfl, rfl, rfl, trivial⟩⟩
  omega
 ·first | replace h6 := of_decide_eq_false h6 | replace h6 := of_decide_eq_true (notF h6) | replace h6 := notF h6 | skip
  refine W_exit (tE (tE (bH (tN (W_rs (sm rfl rfl (sa rfl rfl (Wn (tN (W_ret ?_))))))))))
  obtain rfl : k = 4 := by omega
  refine (rT rfl rfl ⟨?_, hbw⟩).1
  rw [show fourD n 4 = four n by simp [fourD, four]]
theorem or128 : ∀ y : Fin 256, (y.val ||| 128) = y.val % 128 + 128 := by decide +kernel
theorem byte_or (x : Nat) : (UInt8.ofNat (x % 256) ||| 128).toNat = 128 + x % 128 := by
 rw [UInt8.toNat_or]
 have h := or128 ⟨x % 256, by omega⟩
 simp only at h
 rw [show (UInt8.ofNat (x % 256)).toNat = x % 256 by simp, show (128 : UInt8).toNat = 128 from rfl, h]
 omega
theorem UvarR_any (x : Nat) (w : World) (hx : x < 128 ^ 9) : Calls Tryz.prog 133 #[.int .u64 x] w fun e w' => e = .returned (str (uvB x)) ∧ Below w.heap.size w w' := by
 refine W_enter (args := [.int .u64 x]) 21 Tryz.func133 rfl rfl rfl (W_sub [(0, .int .u64 x)] ?_ ⟨rfl, trivial⟩)
 have hbw := Below.refl w.heap.size w
 refine W_rs (sa rfl rfl (Wn (tN (W_rs (sa rfl rfl (Wn (tN (W_seq (W_block (W_lp (fun nw1_ lw1_ w1 => ∃ i : Nat, ∃ y : Nat, ∃ v : Value, ∃ p : List UInt8, nw1_ = 10 - i ∧ lw1_ = ([(0, .int .u64 (y : Int)), (3, v)] : Env) ∧ (i ≤ 9) ∧ (y < 128 ^ (9 - i)) ∧ (uvB x = p ++ uvF (10 - i) y) ∧ (p.length = i) ∧ (Below w.heap.size w w1) ∧ (Row w1 5 1 v p.length (p.map bv)) ∧ (∀ k, v.ownBlock = some k → w.heap.size ≤ k)) _ ⟨_, ⟨0, x, .slice none 0 0, [], rfl, rfl, by omega, hx, rfl, rfl, hbw, Row.nil _ _ _, (fun k hk => by simp [Value.ownBlock] at hk)⟩, ⟨rfl, rfl, trivial⟩⟩ ?_))))))))))
 clear hbw
 rintro nw1_ lw1_ w1 ⟨i, y, v, p, rfl, rfl, hi, hy, hp, hpl, hbw, hR, hO⟩
 have hz_w1 := hbw.size
 have hylt : y < 9223372036854775808 := Nat.lt_of_lt_of_le hy (Nat.le_trans (Nat.pow_le_pow_right (by decide) (Nat.sub_le 9 i)) (by decide))
 refine W_seq (W_rs (sm rfl rfl (st (X.geq rfl rfl) rfl (Wn (tN (W_if rfl (fun h5 => ?_) (fun h5 => ?_)))))))
 ·first | replace h5 := of_decide_eq_true h5 | replace h5 := of_decide_eq_false (notT h5) | replace h5 := notT h5 | skip
  have hi8 : i < 9 := by
   rcases Nat.lt_or_ge i 9 with h | h
   ·exact h
   ·rw [show 9 - i = 0 by omega, Nat.pow_zero] at hy
    omega
  have hbo := byte_or y
  refine W_skip (tN (W_block (W_rs (sm rfl rfl (sm rfl rfl (st (X.rem64 rfl rfl (by omega) (by omega)) rfl (st (X.add (z := 128 + (y : Int) % 128) rfl rfl (IntWalk.u64_in _ (by omega))) rfl (st (X.convI (z := ((UInt8.ofNat (y % 256) ||| 128).toNat : Int)) rfl Tryz.underlying157 Tryz.underlying5 (by rw [hbo]; refine (IntWalk.u8_in _ (by omega)).trans ?_; omega)) rfl ?_))))))))
  refine sbs1 rfl Tryz.underlying94 inf5 rfl rfl (by decide) (by decide) rfl (fun g11 w2 hR11 hg11 hb => ?_)
  replace hbw := bthen hbw hb
  replace hR := hR.bel hb
  have hz_w2 := hb.size
  clear hb
  have hl11 := hR11.blt (by decide)
  refine sapp rfl rfl Tryz.underlying94 inf5 rfl (by decide) hR (hR11.reads.src Tryz.underlying94 (by intro u hu; simp [Value.cells] at hu; subst hu; rfl)) (by simp only [maxLen]; omega) (by omega) rfl (fun v' w3 hR' hC hv' => ?_)
  have hbn := bapp hbw hC hO
  have hOn := own_next hv' hO (by have := hbw.size; omega)
  have hRn : Row w3 5 1 v' (p ++ [UInt8.ofNat (y % 256) ||| 128]).length ((p ++ [UInt8.ofNat (y % 256) ||| 128]).map bv) := by
   rw [List.map_append, List.length_append]
   exact hR'
  clear hbw hR hR11
  have hbw := hbn
  refine sa rfl rfl (Wn (tN (W_reg (sm rfl rfl (st (X.quo (z := ((y / 128 : Nat) : Int)) rfl rfl (by omega) (by rw [Int.tdiv_eq_ediv_of_nonneg (by omega)]; refine (IntWalk.u64_in _ (by omega)).trans ?_; omega)) rfl ?_)))))
  refine sa rfl rfl (Wn (bN (tN ⟨_, _, ?_, ⟨i + 1, y / 128, v', p ++ [UInt8.ofNat (y % 256) ||| 128], rfl, rfl, by omega, (by rw [show 9 - i = (9 - (i + 1)) + 1 by omega, Nat.pow_succ] at hy; omega), (by rw [hp, uvF_ge (by omega) (by omega), List.append_assoc, show 10 - i - 1 = 10 - (i + 1) by omega]), (by rw [List.length_append, hpl]; rfl), hbw, hRn, hOn⟩, ⟨rfl, rfl, trivial⟩⟩)))
  omega
 ·first | replace h5 := of_decide_eq_false h5 | replace h5 := of_decide_eq_true (notF h5) | replace h5 := notF h5 | skip
  have hb8 : (UInt8.ofNat (y % 256)).toNat = y := by
   rw [show (UInt8.ofNat (y % 256)).toNat = y % 256 by simp]
   omega
  refine W_exit (tE (tE (bH (tN (W_rs (sm rfl rfl (sm rfl rfl (st (X.convI (z := ((UInt8.ofNat (y % 256)).toNat : Int)) rfl Tryz.underlying157 Tryz.underlying5 (by rw [hb8]; exact IntWalk.u8_in _ (by omega))) rfl ?_))))))))
  refine sbs1 rfl Tryz.underlying94 inf5 rfl rfl (by decide) (by decide) rfl (fun g18 w4 hR18 hg18 hb => ?_)
  replace hbw := bthen hbw hb
  replace hR := hR.bel hb
  have hz_w4 := hb.size
  clear hb
  have hl18 := hR18.blt (by decide)
  refine sapp rfl rfl Tryz.underlying94 inf5 rfl (by decide) hR (hR18.reads.src Tryz.underlying94 (by intro u hu; simp [Value.cells] at hu; subst hu; rfl)) (by simp only [maxLen]; omega) (by omega) rfl (fun v' w5 hR' hC hv' => ?_)
  have hbn := bapp hbw hC hO
  have hRn : Row w5 5 1 v' (p ++ [UInt8.ofNat (y % 256)]).length ((p ++ [UInt8.ofNat (y % 256)]).map bv) := by
   rw [List.map_append, List.length_append]
   exact hR'
  clear hbw hR hR18
  have hbw := hbn
  refine st (X.strOf (s := p ++ [UInt8.ofNat (y % 256)]) rfl Tryz.underlying94 Tryz.underlying5 Tryz.underlying9 hRn.reads) rfl (sa rfl rfl (Wn (tN (W_ret ((rT rfl rfl ⟨?_, hbw⟩).1)))))
  rw [hp, uvF_lt (by omega) (by omega)]
theorem SealR_any (k : UInt8) (b : List UInt8) (w : World) (hl : b.length ≤ 1099511627776) : Calls Tryz.prog 115 #[.int .u8 k.toNat, str b] w fun e w' => e = .returned (str (sealM k b)) ∧ Below w.heap.size w w' := by
 unfold sealM
 refine W_enter (args := [.int .u8 k.toNat, str b]) 29 Tryz.func115 rfl rfl rfl (W_sub [(0, .int .u8 k.toNat), (1, str b)] ?_ ⟨rfl, rfl, trivial⟩)
 have hbw := Below.refl w.heap.size w
 refine W_rs (sa rfl rfl (Wn (tN (W_seq (W_rs (sm rfl rfl (st (X.eql rfl rfl) rfl (sb rfl rfl (fun h8 => ?_) (fun h8 => ?_)))))))))
 ·first | replace h8 := of_decide_eq_true h8 | replace h8 := of_decide_eq_false (notT h8) | replace h8 := notT h8 | skip
  rw [if_pos (.inl (by apply UInt8.toNat.inj; show k.toNat = 0; omega))]
  refine gN (g := 8) rfl rfl rfl rfl (gN (g := 8) rfl rfl rfl rfl (gN (g := 8) rfl rfl rfl rfl (st (X.pickT rfl rfl) rfl (Wn (tN (W_yes rfl (rfl) (W_rs (sa rfl rfl (Wn (tN ?_))))))))))
  refine W_ret (tR ?_)
  exact (rT rfl rfl ⟨rfl, hbw⟩).1
 ·first | replace h8 := of_decide_eq_false h8 | replace h8 := of_decide_eq_true (notF h8) | replace h8 := notF h8 | skip
  have hk0 : k ≠ 0 := fun e => h8 (by rw [e]; rfl)
  refine gY (g := 8) rfl rfl rfl (sm rfl rfl (gY (g := 8) rfl rfl rfl (st (X.lenS rfl rfl Tryz.underlying9) rfl (gY (g := 8) rfl rfl rfl (st (X.gtr rfl rfl) rfl (st (X.pickF rfl rfl) rfl (Wn (tN (W_if rfl (fun h12 => ?_) (fun h12 => ?_))))))))))
  ·first | replace h12 := of_decide_eq_true h12 | replace h12 := of_decide_eq_false (notT h12) | replace h12 := notT h12 | skip
   rw [if_pos (.inr (by omega))]
   refine W_rs (sa rfl rfl (Wn (tN (W_ret (tR ?_)))))
   exact (rT rfl rfl ⟨rfl, hbw⟩).1
  ·first | replace h12 := of_decide_eq_false h12 | replace h12 := of_decide_eq_true (notF h12) | replace h12 := notF h12 | skip
   rw [if_neg (fun e => by rcases e with e | e; exact hk0 e; omega)]
   have hul := uvB_length b.length (by omega)
   have h1l : ([k] : List UInt8).length = 1 := rfl
   have hkul : ([k] ++ uvB b.length).length = 1 + (uvB b.length).length := by rw [List.length_append, h1l]
   refine W_skip (tN (W_trsN (fun W_ => Below w.heap.size w W_) (.yes 0 (.yes 3 (.yes 4 (.yes 5 (.yes 8 (.pick (.alt 1 (.pick (.alt 2 (.pick (.alt 6 (.yes 7 (.yes 9 (.yes 10 (.nil)))) (.no))) (.alt 6 (.pick (.alt 2 (.yes 7 (.yes 9 (.yes 10 (.nil)))) (.no))) (.no)))) (.alt 6 (.pick (.alt 1 (.pick (.alt 2 (.yes 7 (.yes 9 (.yes 10 (.nil)))) (.no))) (.no))) (.no))))))))) (by kernel_rfl) (by kernel_rfl) (bdrew (Below.refl _ _)) ?_))
   obtain ⟨w1, hw_⟩ : ∃ w1 : World, w1 = World.drew w := ⟨_, rfl⟩
   rw [← hw_]
   have hb : Below w.heap.size w w1 := by rw [hw_]; exact bdrew (Below.refl _ _)
   clear hw_
   have hS := hb
   replace hbw := bthen hbw hb
   have hz_w1 := hb.size
   clear hb
   refine uY rfl (fun W_ hW_ => (X.move rfl)) rfl (uY rfl (fun W_ hW_ => (X.move rfl)) rfl (uY rfl (fun W_ hW_ => (X.lenS rfl rfl Tryz.underlying9)) rfl (uY rfl (fun W_ hW_ => (X.convI (z := (b.length : Int)) rfl Tryz.underlying3 Tryz.underlying157 (IntWalk.u64_in _ (by omega)))) rfl (uY rfl (fun W_ hW_ => (X.move rfl)) rfl (uP (uA rfl (fun Q_ hQ_ hP_ => ?_) (uA rfl (fun Q_ hQ_ hP_ => ?_) u0)))))))
   ·refine sbs1 rfl Tryz.underlying94 inf5 rfl rfl (by decide) (by decide) rfl (fun g14 w2 hR14 hg14 hb => ?_)
    replace hS := bthen hS hb
    replace hbw := bthen hbw hb
    have hz_w2 := hb.size
    clear hb
    have hl14 := hR14.blt (by decide)
    refine Wn (hQ_ _ _ hS ?_)
    clear hQ_ hP_ Q_
    refine uP (uA rfl (fun Q_ hQ_ hP_ => ?_) (uA rfl (fun Q_ hQ_ hP_ => ?_) u0))
    ·refine st (X.strOf (s := [k]) rfl Tryz.underlying94 Tryz.underlying5 Tryz.underlying9 hR14.reads) rfl (Wn (hQ_ _ _ hS ?_))
     clear hQ_ hP_ Q_
     refine uP (uA rfl (fun Q_ hQ_ hP_ => ?_) u0)
     refine sc _ Tryz.func133 rfl (by kernel_rfl) rfl rfl ((UvarR_any b.length _ (by omega)).mono ?_)
     rintro e_ w3 ⟨rfl, hb⟩
     refine cR ?_
     replace hS := bthen hS hb
     replace hbw := bthen hbw hb
     replace hR14 := hR14.bel hb
     have hz_w3 := hb.size
     clear hb
     refine Wn (hQ_ _ _ hS ?_)
     clear hQ_ hP_ Q_
     refine uY rfl (fun W_ hW_ => (X.cat rfl rfl (by omega))) rfl (uY rfl (fun W_ hW_ => (X.cat rfl rfl (by omega))) rfl (uY rfl (fun W_ hW_ => (X.assign rfl)) rfl (uN (nN (W_rs (sm rfl rfl (sm rfl rfl ?_)))))))
     have hpl : (([k] ++ uvB b.length) ++ b).length = 1 + (uvB b.length).length + b.length := by simp only [List.length_append, h1l]
     rw [List.append_assoc] at hpl
     obtain ⟨pp, hpp⟩ : ∃ pp, [k] ++ (uvB b.length ++ b) = pp := ⟨_, rfl⟩
     rw [hpp] at hpl
     have hpa : ([k] ++ uvB b.length) ++ b = pp := by rw [List.append_assoc, hpp]
     rw [hpp, hpa]
     have hpb : pp.length ≤ 2000000 := by omega
     refine sc _ Tryz.func132 rfl (by kernel_rfl) rfl rfl ((refCrc_any pp _ (Nat.le_trans hpb (by decide))).mono ?_)
     rintro e_ w_ ⟨rfl, rfl⟩
     refine cR ?_
     obtain ⟨cn, hcn⟩ : ∃ cn : Nat, (Crc.crc pp).toNat = cn := ⟨_, rfl⟩
     have hcl : cn < 4294967296 := by rw [← hcn]; exact (Crc.crc pp).toNat_lt
     rw [hcn]
     refine st (X.convI (z := (cn : Int)) rfl Tryz.underlying118 Tryz.underlying157 (IntWalk.u64_in _ (by omega))) rfl (sc _ Tryz.func131 rfl (by kernel_rfl) rfl rfl ((Fixed_ref cn _ (by omega)).mono ?_))
     rintro e_ w4 ⟨rfl, hb⟩
     refine cR ?_
     replace hbw := bthen hbw hb
     replace hR14 := hR14.bel hb
     have hz_w4 := hb.size
     clear hb
     have hfl := fixB_length cn 4
     refine st (X.cat rfl rfl (by omega)) rfl (sa rfl rfl (Wn (tN (W_ret ?_))))
     exact (rT rfl rfl ⟨rfl, hbw⟩).1
    ·refine sc _ Tryz.func133 rfl (by kernel_rfl) rfl rfl ((UvarR_any b.length _ (by omega)).mono ?_)
     rintro e_ w5 ⟨rfl, hb⟩
     refine cR ?_
     replace hS := bthen hS hb
     replace hbw := bthen hbw hb
     replace hR14 := hR14.bel hb
     have hz_w5 := hb.size
     clear hb
     refine Wn (hQ_ _ _ hS ?_)
     clear hQ_ hP_ Q_
     refine uP (uA rfl (fun Q_ hQ_ hP_ => ?_) u0)
     refine st (X.strOf (s := [k]) rfl Tryz.underlying94 Tryz.underlying5 Tryz.underlying9 hR14.reads) rfl (Wn (hQ_ _ _ hS ?_))
     clear hQ_ hP_ Q_
     refine uY rfl (fun W_ hW_ => (X.cat rfl rfl (by omega))) rfl (uY rfl (fun W_ hW_ => (X.cat rfl rfl (by omega))) rfl (uY rfl (fun W_ hW_ => (X.assign rfl)) rfl (uN (nN (W_rs (sm rfl rfl (sm rfl rfl ?_)))))))
     have hpl : (([k] ++ uvB b.length) ++ b).length = 1 + (uvB b.length).length + b.length := by simp only [List.length_append, h1l]
     rw [List.append_assoc] at hpl
     obtain ⟨pp, hpp⟩ : ∃ pp, [k] ++ (uvB b.length ++ b) = pp := ⟨_, rfl⟩
     rw [hpp] at hpl
     have hpa : ([k] ++ uvB b.length) ++ b = pp := by rw [List.append_assoc, hpp]
     rw [hpp, hpa]
     have hpb : pp.length ≤ 2000000 := by omega
     refine sc _ Tryz.func132 rfl (by kernel_rfl) rfl rfl ((refCrc_any pp _ (Nat.le_trans hpb (by decide))).mono ?_)
     rintro e_ w_ ⟨rfl, rfl⟩
     refine cR ?_
     obtain ⟨cn, hcn⟩ : ∃ cn : Nat, (Crc.crc pp).toNat = cn := ⟨_, rfl⟩
     have hcl : cn < 4294967296 := by rw [← hcn]; exact (Crc.crc pp).toNat_lt
     rw [hcn]
     refine st (X.convI (z := (cn : Int)) rfl Tryz.underlying118 Tryz.underlying157 (IntWalk.u64_in _ (by omega))) rfl (sc _ Tryz.func131 rfl (by kernel_rfl) rfl rfl ((Fixed_ref cn _ (by omega)).mono ?_))
     rintro e_ w6 ⟨rfl, hb⟩
     refine cR ?_
     replace hbw := bthen hbw hb
     replace hR14 := hR14.bel hb
     have hz_w6 := hb.size
     clear hb
     have hfl := fixB_length cn 4
     refine st (X.cat rfl rfl (by omega)) rfl (sa rfl rfl (Wn (tN (W_ret ?_))))
     exact (rT rfl rfl ⟨rfl, hbw⟩).1
   ·refine sc _ Tryz.func133 rfl (by kernel_rfl) rfl rfl ((UvarR_any b.length _ (by omega)).mono ?_)
    rintro e_ w7 ⟨rfl, hb⟩
    refine cR ?_
    replace hS := bthen hS hb
    replace hbw := bthen hbw hb
    have hz_w7 := hb.size
    clear hb
    refine Wn (hQ_ _ _ hS ?_)
    clear hQ_ hP_ Q_
    refine uP (uA rfl (fun Q_ hQ_ hP_ => ?_) u0)
    refine sbs1 rfl Tryz.underlying94 inf5 rfl rfl (by decide) (by decide) rfl (fun g14 w8 hR14 hg14 hb => ?_)
    replace hS := bthen hS hb
    replace hbw := bthen hbw hb
    have hz_w8 := hb.size
    clear hb
    have hl14 := hR14.blt (by decide)
    refine Wn (hQ_ _ _ hS ?_)
    clear hQ_ hP_ Q_
    refine uP (uA rfl (fun Q_ hQ_ hP_ => ?_) u0)
    refine st (X.strOf (s := [k]) rfl Tryz.underlying94 Tryz.underlying5 Tryz.underlying9 hR14.reads) rfl (Wn (hQ_ _ _ hS ?_))
    clear hQ_ hP_ Q_
    refine uY rfl (fun W_ hW_ => (X.cat rfl rfl (by omega))) rfl (uY rfl (fun W_ hW_ => (X.cat rfl rfl (by omega))) rfl (uY rfl (fun W_ hW_ => (X.assign rfl)) rfl (uN (nN (W_rs (sm rfl rfl (sm rfl rfl ?_)))))))
    have hpl : (([k] ++ uvB b.length) ++ b).length = 1 + (uvB b.length).length + b.length := by simp only [List.length_append, h1l]
    rw [List.append_assoc] at hpl
    obtain ⟨pp, hpp⟩ : ∃ pp, [k] ++ (uvB b.length ++ b) = pp := ⟨_, rfl⟩
    rw [hpp] at hpl
    have hpa : ([k] ++ uvB b.length) ++ b = pp := by rw [List.append_assoc, hpp]
    rw [hpp, hpa]
    have hpb : pp.length ≤ 2000000 := by omega
    refine sc _ Tryz.func132 rfl (by kernel_rfl) rfl rfl ((refCrc_any pp _ (Nat.le_trans hpb (by decide))).mono ?_)
    rintro e_ w_ ⟨rfl, rfl⟩
    refine cR ?_
    obtain ⟨cn, hcn⟩ : ∃ cn : Nat, (Crc.crc pp).toNat = cn := ⟨_, rfl⟩
    have hcl : cn < 4294967296 := by rw [← hcn]; exact (Crc.crc pp).toNat_lt
    rw [hcn]
    refine st (X.convI (z := (cn : Int)) rfl Tryz.underlying118 Tryz.underlying157 (IntWalk.u64_in _ (by omega))) rfl (sc _ Tryz.func131 rfl (by kernel_rfl) rfl rfl ((Fixed_ref cn _ (by omega)).mono ?_))
    rintro e_ w9 ⟨rfl, hb⟩
    refine cR ?_
    replace hbw := bthen hbw hb
    replace hR14 := hR14.bel hb
    have hz_w9 := hb.size
    clear hb
    have hfl := fixB_length cn 4
    refine st (X.cat rfl rfl (by omega)) rfl (sa rfl rfl (Wn (tN (W_ret ?_))))
    exact (rT rfl rfl ⟨rfl, hbw⟩).1
end Go.Proofs.YtnijmegalgoipaaGreatDoor
namespace Go.Proofs.YtnijmegalgoipaaGreatDoor
open Go.RowKit
theorem letterB_iff (b : UInt8) : letterB b = true ↔ ((97 ≤ b.toNat ∧ b.toNat ≤ 122) ∨ (48 ≤ b.toNat ∧ b.toNat ≤ 57) ∨ b.toNat = 46 ∨ b.toNat = 45 ∨ b.toNat = 95) := by
 have e : ∀ n : UInt8, (b == n) = decide (b.toNat = n.toNat) := fun n => by
  rw [Bool.eq_iff_iff, beq_iff_eq, decide_eq_true_eq]
  exact ⟨fun h => by rw [h], fun h => UInt8.toNat.inj h⟩
 unfold letterB
 rw [e, e, e]
 simp only [Bool.or_eq_true, Bool.and_eq_true, decide_eq_true_eq, or_assoc]
 rfl
theorem letterB_no (b : UInt8) (h : ¬ ((97 ≤ b.toNat ∧ b.toNat ≤ 122) ∨ (48 ≤ b.toNat ∧ b.toNat ≤ 57) ∨ b.toNat = 46 ∨ b.toNat = 45 ∨ b.toNat = 95)) : letterB b = false := by
 cases hb : letterB b with
 | false => rfl
 | true => exact absurd ((letterB_iff b).1 hb) h
theorem Name_any (s : List UInt8) (w : World) (hs : s.length ≤ 9223372036854775807) : Calls Tryz.prog 94 #[str s] w fun e w' => e = .returned (.bool (nameOk s)) ∧ Below w.heap.size w w' := by
 refine W_enter (args := [str s]) 48 Tryz.func94 rfl rfl rfl (W_sub [(0, str s)] ?_ ⟨rfl, trivial⟩)
 have hbw := Below.refl w.heap.size w
 refine W_rs (sa rfl rfl (Wn (tN (W_seq (W_rs (sa rfl rfl (Wn (tN (W_block (W_lp (fun nw1_ lw1_ w1 => ∃ i : Nat, nw1_ = s.length - i ∧ lw1_ = ([(0, str s), (3, .int .i64 i)] : Env) ∧ (i ≤ s.length) ∧ (Below w.heap.size w w1) ∧ ((s.take i).all letterB = true)) _ ⟨_, ⟨0, rfl, rfl, Nat.zero_le _, hbw, rfl⟩, ⟨rfl, rfl, trivial⟩⟩ ?_))))))))))
 clear hbw
 rintro nw1_ lw1_ w1 ⟨i, rfl, rfl, hi, hbw, hp⟩
 have hz_w1 := hbw.size
 refine W_seq (W_rs (sm rfl rfl (sm rfl rfl (st (X.lenS rfl rfl Tryz.underlying9) rfl (st (X.lss rfl rfl) rfl (Wn (tN (W_if rfl (fun h8 => ?_) (fun h8 => ?_)))))))))
 ·first | replace h8 := of_decide_eq_true h8 | replace h8 := of_decide_eq_false (notT h8) | replace h8 := notT h8 | skip
  obtain ⟨x, hx⟩ : ∃ x, s[i]? = some x := ⟨_, List.getElem?_eq_getElem (by omega)⟩
  have hgd : s.getD i 0 = x := by rw [List.getD_eq_getElem?_getD, hx]; rfl
  refine W_skip (tN (W_seq (W_block (W_rs (sm rfl rfl (sm rfl rfl (st (X.idxS rfl rfl Tryz.underlying9 rfl (by omega)) rfl ?_)))))))
  rw [hgd]
  refine sa rfl rfl (Wn (tN (W_rs (sm rfl rfl (st (X.lss rfl rfl) rfl (sb rfl rfl (fun h16 => ?_) (fun h16 => ?_)))))))
  ·first | replace h16 := of_decide_eq_true h16 | replace h16 := of_decide_eq_false (notT h16) | replace h16 := notT h16 | skip
   refine gN (g := 16) rfl rfl rfl rfl (gN (g := 16) rfl rfl rfl rfl (st (X.pickT rfl rfl) rfl (sm rfl rfl (gY (g := 20) rfl rfl rfl (sm rfl rfl (gY (g := 20) rfl rfl rfl (st (X.lss rfl rfl) rfl (gY (g := 20) rfl rfl rfl (sb rfl rfl (fun h23 => ?_) (fun h23 => ?_))))))))))
   ·first | replace h23 := of_decide_eq_true h23 | replace h23 := of_decide_eq_false (notT h23) | replace h23 := notT h23 | skip
    refine gN (g := 23) rfl rfl rfl rfl (gN (g := 23) rfl rfl rfl rfl (gY (g := 20) rfl rfl rfl (st (X.pickT rfl rfl) rfl (st (X.pickT rfl rfl) rfl (sm rfl rfl (gY (g := 28) rfl rfl rfl (sm rfl rfl (gY (g := 28) rfl rfl rfl (st (X.neq rfl rfl) rfl (st (X.pickT rfl rfl) rfl ?_))))))))))
    refine sb rfl rfl (fun h32 => ?_) (fun h32 => ?_)
    ·first | replace h32 := of_decide_eq_true h32 | replace h32 := of_decide_eq_false (notT h32) | replace h32 := notT h32 | skip
     refine gY (g := 32) rfl rfl rfl (sm rfl rfl (gY (g := 32) rfl rfl rfl (st (X.neq rfl rfl) rfl (st (X.pickT rfl rfl) rfl (sb rfl rfl (fun h36 => ?_) (fun h36 => ?_))))))
     ·first | replace h36 := of_decide_eq_true h36 | replace h36 := of_decide_eq_false (notT h36) | replace h36 := notT h36 | skip
      refine gY (g := 36) rfl rfl rfl (sm rfl rfl (gY (g := 36) rfl rfl rfl (st (X.neq rfl rfl) rfl (st (X.pickT rfl rfl) rfl (Wn (tN (W_if rfl (fun h39 => ?_) (fun h39 => ?_))))))))
      ·first | replace h39 := of_decide_eq_true h39 | replace h39 := of_decide_eq_false (notT h39) | replace h39 := notT h39 | skip
       refine W_rs (sa rfl rfl (Wn (tN (W_ret (bR (tR (tR (bR (tR ((rT rfl rfl ⟨?_, hbw⟩).1))))))))))
       have hno : s.all letterB = false := by
        rw [List.all_eq_false]
        exact ⟨x, List.mem_of_getElem? hx, by rw [letterB_no x (by omega)]; simp⟩
       unfold nameOk
       rw [hno, Bool.and_false]
      ·first | replace h39 := of_decide_eq_false h39 | replace h39 := of_decide_eq_true (notF h39) | replace h39 := notF h39 | skip
       refine W_skip (bN (tN (W_reg (sm rfl rfl (st (X.add64 rfl rfl (by omega)) rfl (sa rfl rfl (Wn (tN ⟨_, _, ?_, ⟨i + 1, rfl, rfl, by omega, hbw, by rw [take_next' hx, List.all_append, hp]; simp only [List.all_cons, List.all_nil, Bool.and_true, Bool.true_and]; exact (letterB_iff x).2 (by omega)⟩, ⟨rfl, rfl, trivial⟩⟩))))))))
       omega
     ·first | replace h36 := of_decide_eq_false h36 | replace h36 := of_decide_eq_true (notF h36) | replace h36 := notF h36 | skip
      refine gN (g := 36) rfl rfl rfl rfl (gN (g := 36) rfl rfl rfl rfl (st (X.pickF rfl rfl) rfl (Wn (tN (W_no rfl (rfl) (W_skip (bN (tN (W_reg (sm rfl rfl ?_))))))))))
      refine st (X.add64 rfl rfl (by omega)) rfl (sa rfl rfl (Wn (tN ⟨_, _, ?_, ⟨i + 1, rfl, rfl, by omega, hbw, by rw [take_next' hx, List.all_append, hp]; simp only [List.all_cons, List.all_nil, Bool.and_true, Bool.true_and]; exact (letterB_iff x).2 (by omega)⟩, ⟨rfl, rfl, trivial⟩⟩)))
      omega
    ·first | replace h32 := of_decide_eq_false h32 | replace h32 := of_decide_eq_true (notF h32) | replace h32 := notF h32 | skip
     refine gN (g := 32) rfl rfl rfl rfl (gN (g := 32) rfl rfl rfl rfl (st (X.pickF rfl rfl) rfl (sm rfl rfl (gN (g := 36) rfl rfl rfl rfl (gN (g := 36) rfl rfl rfl rfl (st (X.pickF rfl rfl) rfl (Wn (tN (W_no rfl (rfl) (W_skip ?_))))))))))
     refine bN (tN (W_reg (sm rfl rfl (st (X.add64 rfl rfl (by omega)) rfl (sa rfl rfl (Wn (tN ⟨_, _, ?_, ⟨i + 1, rfl, rfl, by omega, hbw, by rw [take_next' hx, List.all_append, hp]; simp only [List.all_cons, List.all_nil, Bool.and_true, Bool.true_and]; exact (letterB_iff x).2 (by omega)⟩, ⟨rfl, rfl, trivial⟩⟩)))))))
     omega
   ·first | replace h23 := of_decide_eq_false h23 | replace h23 := of_decide_eq_true (notF h23) | replace h23 := notF h23 | skip
    refine gY (g := 23) rfl rfl rfl (sm rfl rfl (gY (g := 23) rfl rfl rfl (st (X.gtr rfl rfl) rfl (gY (g := 20) rfl rfl rfl (st (X.pickF rfl rfl) rfl (st (X.pickT rfl rfl) rfl (sb rfl rfl (fun h28 => ?_) (fun h28 => ?_))))))))
    ·first | replace h28 := of_decide_eq_true h28 | replace h28 := of_decide_eq_false (notT h28) | replace h28 := notT h28 | skip
     refine gY (g := 28) rfl rfl rfl (sm rfl rfl (gY (g := 28) rfl rfl rfl (st (X.neq rfl rfl) rfl (st (X.pickT rfl rfl) rfl (sb rfl rfl (fun h32 => ?_) (fun h32 => ?_))))))
     ·first | replace h32 := of_decide_eq_true h32 | replace h32 := of_decide_eq_false (notT h32) | replace h32 := notT h32 | skip
      refine gY (g := 32) rfl rfl rfl (sm rfl rfl (gY (g := 32) rfl rfl rfl (st (X.neq rfl rfl) rfl (st (X.pickT rfl rfl) rfl (sb rfl rfl (fun h36 => ?_) (fun h36 => ?_))))))
      ·first | replace h36 := of_decide_eq_true h36 | replace h36 := of_decide_eq_false (notT h36) | replace h36 := notT h36 | skip
       refine gY (g := 36) rfl rfl rfl (sm rfl rfl (gY (g := 36) rfl rfl rfl (st (X.neq rfl rfl) rfl (st (X.pickT rfl rfl) rfl (Wn (tN (W_if rfl (fun h39 => ?_) (fun h39 => ?_))))))))
       ·first | replace h39 := of_decide_eq_true h39 | replace h39 := of_decide_eq_false (notT h39) | replace h39 := notT h39 | skip
        refine W_rs (sa rfl rfl (Wn (tN (W_ret (bR (tR (tR (bR (tR ((rT rfl rfl ⟨?_, hbw⟩).1))))))))))
        have hno : s.all letterB = false := by
         rw [List.all_eq_false]
         exact ⟨x, List.mem_of_getElem? hx, by rw [letterB_no x (by omega)]; simp⟩
        unfold nameOk
        rw [hno, Bool.and_false]
       ·first | replace h39 := of_decide_eq_false h39 | replace h39 := of_decide_eq_true (notF h39) | replace h39 := notF h39 | skip
        refine W_skip (bN (tN (W_reg (sm rfl rfl (st (X.add64 rfl rfl (by omega)) rfl (sa rfl rfl (Wn (tN ⟨_, _, ?_, ⟨i + 1, rfl, rfl, by omega, hbw, by rw [take_next' hx, List.all_append, hp]; simp only [List.all_cons, List.all_nil, Bool.and_true, Bool.true_and]; exact (letterB_iff x).2 (by omega)⟩, ⟨rfl, rfl, trivial⟩⟩))))))))
        omega
      ·first | replace h36 := of_decide_eq_false h36 | replace h36 := of_decide_eq_true (notF h36) | replace h36 := notF h36 | skip
       refine gN (g := 36) rfl rfl rfl rfl (gN (g := 36) rfl rfl rfl rfl (st (X.pickF rfl rfl) rfl (Wn (tN (W_no rfl (rfl) (W_skip (bN (tN (W_reg (sm rfl rfl ?_))))))))))
       refine st (X.add64 rfl rfl (by omega)) rfl (sa rfl rfl (Wn (tN ⟨_, _, ?_, ⟨i + 1, rfl, rfl, by omega, hbw, by rw [take_next' hx, List.all_append, hp]; simp only [List.all_cons, List.all_nil, Bool.and_true, Bool.true_and]; exact (letterB_iff x).2 (by omega)⟩, ⟨rfl, rfl, trivial⟩⟩)))
       omega
     ·first | replace h32 := of_decide_eq_false h32 | replace h32 := of_decide_eq_true (notF h32) | replace h32 := notF h32 | skip
      refine gN (g := 32) rfl rfl rfl rfl (gN (g := 32) rfl rfl rfl rfl (st (X.pickF rfl rfl) rfl (sm rfl rfl (gN (g := 36) rfl rfl rfl rfl (gN (g := 36) rfl rfl rfl rfl (st (X.pickF rfl rfl) rfl (Wn (tN (W_no rfl (rfl) (W_skip ?_))))))))))
      refine bN (tN (W_reg (sm rfl rfl (st (X.add64 rfl rfl (by omega)) rfl (sa rfl rfl (Wn (tN ⟨_, _, ?_, ⟨i + 1, rfl, rfl, by omega, hbw, by rw [take_next' hx, List.all_append, hp]; simp only [List.all_cons, List.all_nil, Bool.and_true, Bool.true_and]; exact (letterB_iff x).2 (by omega)⟩, ⟨rfl, rfl, trivial⟩⟩)))))))
      omega
    ·first | replace h28 := of_decide_eq_false h28 | replace h28 := of_decide_eq_true (notF h28) | replace h28 := notF h28 | skip
     refine gN (g := 28) rfl rfl rfl rfl (gN (g := 28) rfl rfl rfl rfl (st (X.pickF rfl rfl) rfl (sm rfl rfl (gN (g := 32) rfl rfl rfl rfl (gN (g := 32) rfl rfl rfl rfl (st (X.pickF rfl rfl) rfl (sm rfl rfl (gN (g := 36) rfl rfl rfl rfl (gN (g := 36) rfl rfl rfl rfl (st (X.pickF rfl rfl) rfl ?_))))))))))
     refine Wn (tN (W_no rfl (rfl) (W_skip (bN (tN (W_reg (sm rfl rfl (st (X.add64 rfl rfl (by omega)) rfl (sa rfl rfl (Wn ?_))))))))))
     refine tN ⟨_, _, ?_, ⟨i + 1, rfl, rfl, by omega, hbw, by rw [take_next' hx, List.all_append, hp]; simp only [List.all_cons, List.all_nil, Bool.and_true, Bool.true_and]; exact (letterB_iff x).2 (by omega)⟩, ⟨rfl, rfl, trivial⟩⟩
     omega
  ·first | replace h16 := of_decide_eq_false h16 | replace h16 := of_decide_eq_true (notF h16) | replace h16 := notF h16 | skip
   refine gY (g := 16) rfl rfl rfl (sm rfl rfl (gY (g := 16) rfl rfl rfl (st (X.gtr rfl rfl) rfl (st (X.pickF rfl rfl) rfl (sb rfl rfl (fun h20 => ?_) (fun h20 => ?_))))))
   ·first | replace h20 := of_decide_eq_true h20 | replace h20 := of_decide_eq_false (notT h20) | replace h20 := notT h20 | skip
    refine gY (g := 20) rfl rfl rfl (sm rfl rfl (gY (g := 20) rfl rfl rfl (st (X.lss rfl rfl) rfl (gY (g := 20) rfl rfl rfl (sb rfl rfl (fun h23 => ?_) (fun h23 => ?_))))))
    ·first | replace h23 := of_decide_eq_true h23 | replace h23 := of_decide_eq_false (notT h23) | replace h23 := notT h23 | skip
     refine gN (g := 23) rfl rfl rfl rfl (gN (g := 23) rfl rfl rfl rfl (gY (g := 20) rfl rfl rfl (st (X.pickT rfl rfl) rfl (st (X.pickT rfl rfl) rfl (sm rfl rfl (gY (g := 28) rfl rfl rfl (sm rfl rfl (gY (g := 28) rfl rfl rfl (st (X.neq rfl rfl) rfl (st (X.pickT rfl rfl) rfl ?_))))))))))
     refine sb rfl rfl (fun h32 => ?_) (fun h32 => ?_)
     ·first | replace h32 := of_decide_eq_true h32 | replace h32 := of_decide_eq_false (notT h32) | replace h32 := notT h32 | skip
      refine gY (g := 32) rfl rfl rfl (sm rfl rfl (gY (g := 32) rfl rfl rfl (st (X.neq rfl rfl) rfl (st (X.pickT rfl rfl) rfl (sb rfl rfl (fun h36 => ?_) (fun h36 => ?_))))))
      ·first | replace h36 := of_decide_eq_true h36 | replace h36 := of_decide_eq_false (notT h36) | replace h36 := notT h36 | skip
       refine gY (g := 36) rfl rfl rfl (sm rfl rfl (gY (g := 36) rfl rfl rfl (st (X.neq rfl rfl) rfl (st (X.pickT rfl rfl) rfl (Wn (tN (W_if rfl (fun h39 => ?_) (fun h39 => ?_))))))))
       ·first | replace h39 := of_decide_eq_true h39 | replace h39 := of_decide_eq_false (notT h39) | replace h39 := notT h39 | skip
        refine W_rs (sa rfl rfl (Wn (tN (W_ret (bR (tR (tR (bR (tR ((rT rfl rfl ⟨?_, hbw⟩).1))))))))))
        have hno : s.all letterB = false := by
         rw [List.all_eq_false]
         exact ⟨x, List.mem_of_getElem? hx, by rw [letterB_no x (by omega)]; simp⟩
        unfold nameOk
        rw [hno, Bool.and_false]
       ·first | replace h39 := of_decide_eq_false h39 | replace h39 := of_decide_eq_true (notF h39) | replace h39 := notF h39 | skip
        refine W_skip (bN (tN (W_reg (sm rfl rfl (st (X.add64 rfl rfl (by omega)) rfl (sa rfl rfl (Wn (tN ⟨_, _, ?_, ⟨i + 1, rfl, rfl, by omega, hbw, by rw [take_next' hx, List.all_append, hp]; simp only [List.all_cons, List.all_nil, Bool.and_true, Bool.true_and]; exact (letterB_iff x).2 (by omega)⟩, ⟨rfl, rfl, trivial⟩⟩))))))))
        omega
      ·first | replace h36 := of_decide_eq_false h36 | replace h36 := of_decide_eq_true (notF h36) | replace h36 := notF h36 | skip
       refine gN (g := 36) rfl rfl rfl rfl (gN (g := 36) rfl rfl rfl rfl (st (X.pickF rfl rfl) rfl (Wn (tN (W_no rfl (rfl) (W_skip (bN (tN (W_reg (sm rfl rfl ?_))))))))))
       refine st (X.add64 rfl rfl (by omega)) rfl (sa rfl rfl (Wn (tN ⟨_, _, ?_, ⟨i + 1, rfl, rfl, by omega, hbw, by rw [take_next' hx, List.all_append, hp]; simp only [List.all_cons, List.all_nil, Bool.and_true, Bool.true_and]; exact (letterB_iff x).2 (by omega)⟩, ⟨rfl, rfl, trivial⟩⟩)))
       omega
     ·first | replace h32 := of_decide_eq_false h32 | replace h32 := of_decide_eq_true (notF h32) | replace h32 := notF h32 | skip
      refine gN (g := 32) rfl rfl rfl rfl (gN (g := 32) rfl rfl rfl rfl (st (X.pickF rfl rfl) rfl (sm rfl rfl (gN (g := 36) rfl rfl rfl rfl (gN (g := 36) rfl rfl rfl rfl (st (X.pickF rfl rfl) rfl (Wn (tN (W_no rfl (rfl) (W_skip ?_))))))))))
      refine bN (tN (W_reg (sm rfl rfl (st (X.add64 rfl rfl (by omega)) rfl (sa rfl rfl (Wn (tN ⟨_, _, ?_, ⟨i + 1, rfl, rfl, by omega, hbw, by rw [take_next' hx, List.all_append, hp]; simp only [List.all_cons, List.all_nil, Bool.and_true, Bool.true_and]; exact (letterB_iff x).2 (by omega)⟩, ⟨rfl, rfl, trivial⟩⟩)))))))
      omega
    ·first | replace h23 := of_decide_eq_false h23 | replace h23 := of_decide_eq_true (notF h23) | replace h23 := notF h23 | skip
     refine gY (g := 23) rfl rfl rfl (sm rfl rfl (gY (g := 23) rfl rfl rfl (st (X.gtr rfl rfl) rfl (gY (g := 20) rfl rfl rfl (st (X.pickF rfl rfl) rfl (st (X.pickT rfl rfl) rfl (sb rfl rfl (fun h28 => ?_) (fun h28 => ?_))))))))
     ·first | replace h28 := of_decide_eq_true h28 | replace h28 := of_decide_eq_false (notT h28) | replace h28 := notT h28 | skip
      refine gY (g := 28) rfl rfl rfl (sm rfl rfl (gY (g := 28) rfl rfl rfl (st (X.neq rfl rfl) rfl (st (X.pickT rfl rfl) rfl (sb rfl rfl (fun h32 => ?_) (fun h32 => ?_))))))
      ·first | replace h32 := of_decide_eq_true h32 | replace h32 := of_decide_eq_false (notT h32) | replace h32 := notT h32 | skip
       refine gY (g := 32) rfl rfl rfl (sm rfl rfl (gY (g := 32) rfl rfl rfl (st (X.neq rfl rfl) rfl (st (X.pickT rfl rfl) rfl (sb rfl rfl (fun h36 => ?_) (fun h36 => ?_))))))
       ·first | replace h36 := of_decide_eq_true h36 | replace h36 := of_decide_eq_false (notT h36) | replace h36 := notT h36 | skip
        refine gY (g := 36) rfl rfl rfl (sm rfl rfl (gY (g := 36) rfl rfl rfl (st (X.neq rfl rfl) rfl (st (X.pickT rfl rfl) rfl (Wn (tN (W_if rfl (fun h39 => ?_) (fun h39 => ?_))))))))
        ·first | replace h39 := of_decide_eq_true h39 | replace h39 := of_decide_eq_false (notT h39) | replace h39 := notT h39 | skip
         refine W_rs (sa rfl rfl (Wn (tN (W_ret (bR (tR (tR (bR (tR ((rT rfl rfl ⟨?_, hbw⟩).1))))))))))
         have hno : s.all letterB = false := by
          rw [List.all_eq_false]
          exact ⟨x, List.mem_of_getElem? hx, by rw [letterB_no x (by omega)]; simp⟩
         unfold nameOk
         rw [hno, Bool.and_false]
        ·first | replace h39 := of_decide_eq_false h39 | replace h39 := of_decide_eq_true (notF h39) | replace h39 := notF h39 | skip
         refine W_skip (bN (tN (W_reg (sm rfl rfl (st (X.add64 rfl rfl (by omega)) rfl (sa rfl rfl (Wn (tN ⟨_, _, ?_, ⟨i + 1, rfl, rfl, by omega, hbw, by rw [take_next' hx, List.all_append, hp]; simp only [List.all_cons, List.all_nil, Bool.and_true, Bool.true_and]; exact (letterB_iff x).2 (by omega)⟩, ⟨rfl, rfl, trivial⟩⟩))))))))
         omega
       ·first | replace h36 := of_decide_eq_false h36 | replace h36 := of_decide_eq_true (notF h36) | replace h36 := notF h36 | skip
        refine gN (g := 36) rfl rfl rfl rfl (gN (g := 36) rfl rfl rfl rfl (st (X.pickF rfl rfl) rfl (Wn (tN (W_no rfl (rfl) (W_skip (bN (tN (W_reg (sm rfl rfl ?_))))))))))
        refine st (X.add64 rfl rfl (by omega)) rfl (sa rfl rfl (Wn (tN ⟨_, _, ?_, ⟨i + 1, rfl, rfl, by omega, hbw, by rw [take_next' hx, List.all_append, hp]; simp only [List.all_cons, List.all_nil, Bool.and_true, Bool.true_and]; exact (letterB_iff x).2 (by omega)⟩, ⟨rfl, rfl, trivial⟩⟩)))
        omega
      ·first | replace h32 := of_decide_eq_false h32 | replace h32 := of_decide_eq_true (notF h32) | replace h32 := notF h32 | skip
       refine gN (g := 32) rfl rfl rfl rfl (gN (g := 32) rfl rfl rfl rfl (st (X.pickF rfl rfl) rfl (sm rfl rfl (gN (g := 36) rfl rfl rfl rfl (gN (g := 36) rfl rfl rfl rfl (st (X.pickF rfl rfl) rfl (Wn (tN (W_no rfl (rfl) (W_skip ?_))))))))))
       refine bN (tN (W_reg (sm rfl rfl (st (X.add64 rfl rfl (by omega)) rfl (sa rfl rfl (Wn (tN ⟨_, _, ?_, ⟨i + 1, rfl, rfl, by omega, hbw, by rw [take_next' hx, List.all_append, hp]; simp only [List.all_cons, List.all_nil, Bool.and_true, Bool.true_and]; exact (letterB_iff x).2 (by omega)⟩, ⟨rfl, rfl, trivial⟩⟩)))))))
       omega
     ·first | replace h28 := of_decide_eq_false h28 | replace h28 := of_decide_eq_true (notF h28) | replace h28 := notF h28 | skip
      refine gN (g := 28) rfl rfl rfl rfl (gN (g := 28) rfl rfl rfl rfl (st (X.pickF rfl rfl) rfl (sm rfl rfl (gN (g := 32) rfl rfl rfl rfl (gN (g := 32) rfl rfl rfl rfl (st (X.pickF rfl rfl) rfl (sm rfl rfl (gN (g := 36) rfl rfl rfl rfl (gN (g := 36) rfl rfl rfl rfl (st (X.pickF rfl rfl) rfl ?_))))))))))
      refine Wn (tN (W_no rfl (rfl) (W_skip (bN (tN (W_reg (sm rfl rfl (st (X.add64 rfl rfl (by omega)) rfl (sa rfl rfl (Wn ?_))))))))))
      refine tN ⟨_, _, ?_, ⟨i + 1, rfl, rfl, by omega, hbw, by rw [take_next' hx, List.all_append, hp]; simp only [List.all_cons, List.all_nil, Bool.and_true, Bool.true_and]; exact (letterB_iff x).2 (by omega)⟩, ⟨rfl, rfl, trivial⟩⟩
      omega
   ·first | replace h20 := of_decide_eq_false h20 | replace h20 := of_decide_eq_true (notF h20) | replace h20 := notF h20 | skip
    refine gN (g := 20) rfl rfl rfl rfl (gN (g := 20) rfl rfl rfl rfl (gN (g := 20) rfl rfl rfl rfl (gU (g := 23) rfl rfl rfl rfl (gU (g := 23) rfl rfl rfl rfl (gN (g := 20) rfl rfl rfl rfl (st (X.pickF rfl rfl) rfl (sm rfl rfl (gN (g := 28) rfl rfl rfl rfl (gN (g := 28) rfl rfl rfl rfl (st (X.pickF rfl rfl) rfl ?_))))))))))
    refine sm rfl rfl (gN (g := 32) rfl rfl rfl rfl (gN (g := 32) rfl rfl rfl rfl (st (X.pickF rfl rfl) rfl (sm rfl rfl (gN (g := 36) rfl rfl rfl rfl (gN (g := 36) rfl rfl rfl rfl (st (X.pickF rfl rfl) rfl (Wn (tN (W_no rfl (rfl) ?_))))))))))
    refine W_skip (bN (tN (W_reg (sm rfl rfl (st (X.add64 rfl rfl (by omega)) rfl (sa rfl rfl (Wn (tN ⟨_, _, ?_, ⟨i + 1, rfl, rfl, by omega, hbw, by rw [take_next' hx, List.all_append, hp]; simp only [List.all_cons, List.all_nil, Bool.and_true, Bool.true_and]; exact (letterB_iff x).2 (by omega)⟩, ⟨rfl, rfl, trivial⟩⟩))))))))
    omega
 ·first | replace h8 := of_decide_eq_false h8 | replace h8 := of_decide_eq_true (notF h8) | replace h8 := notF h8 | skip
  obtain rfl : i = s.length := by omega
  rw [List.take_length] at hp
  refine W_exit (tE (tE (bH (tN (W_rs (sm rfl rfl (st (X.lenS rfl rfl Tryz.underlying9) rfl (st (X.geq rfl rfl) rfl (sb rfl rfl (fun h43 => ?_) (fun h43 => ?_))))))))))
  ·first | replace h43 := of_decide_eq_true h43 | replace h43 := of_decide_eq_false (notT h43) | replace h43 := notT h43 | skip
   refine gY (g := 43) rfl rfl rfl (sm rfl rfl (gY (g := 43) rfl rfl rfl (st (X.lenS rfl rfl Tryz.underlying9) rfl (gY (g := 43) rfl rfl rfl (st (X.leq rfl rfl) rfl (st (X.pickT rfl rfl) rfl (sa rfl rfl (Wn (tN (W_ret ?_))))))))))
   refine (rT rfl rfl ⟨?_, hbw⟩).1
   have h1 : s.isEmpty = false := by
    cases s with
    | nil => simp at h43
    | cons x l => rfl
   have h2 : decide ((s.length : Int) ≤ 64) = decide (s.length ≤ 64) := by rw [decide_eq_decide]; omega
   unfold nameOk
   rw [hp, Bool.and_true, h1, ← h2]
   rfl
  ·first | replace h43 := of_decide_eq_false h43 | replace h43 := of_decide_eq_true (notF h43) | replace h43 := notF h43 | skip
   refine gN (g := 43) rfl rfl rfl rfl (gN (g := 43) rfl rfl rfl rfl (gN (g := 43) rfl rfl rfl rfl (st (X.pickF rfl rfl) rfl (sa rfl rfl (Wn (tN (W_ret ((rT rfl rfl ⟨?_, hbw⟩).1))))))))
   have h1 : s = [] := List.eq_nil_of_length_eq_zero (by omega)
   subst h1
   rfl
end Go.Proofs.YtnijmegalgoipaaGreatDoor
namespace Go.Proofs.YtnijmegalgoipaaGreatDoor
open Go.RowKit
structure RRec where
  n : Key
  f : FileD
  v : Value
def RRec.cells (r : RRec) : List Value := [str r.n, str r.f.last, r.v]
theorem RRec.cells_length (r : RRec) : r.cells.length = 3 := rfl
theorem rrec_len (rs : List RRec) : ∀ a ∈ rs, a.cells.length = 3 := fun a _ => a.cells_length
structure RIn (w : World) (g : Nat) (D : DiskD) (vF : Value) (rs : List RRec) : Prop where
  blk : Blk w g 83 #[vF, .int .i64 D.limit, .int .i64 D.refused, .bool D.stops, .int .i64 D.left]
  row : Row w 92 3 vF rs.length (rs.flatMap RRec.cells)
  files : rs.map (fun r => (r.n, r.f)) = D.files
  rows : ∀ r ∈ rs, Row w 132 2 r.v r.f.pend.length (r.f.pend.flatMap putCells)
theorem RIn.bel {w w' : World} {g : Nat} {D : DiskD} {vF : Value} {rs : List RRec} (h : RIn w g D vF rs) (hb : Below w.heap.size w w') : RIn w' g D vF rs :=
 ⟨h.blk.bel hb, h.row.bel hb, h.files, fun r hr => (h.rows r hr).bel hb⟩
theorem putsOk_at : ∀ (l : List (Nat × List UInt8)) (s : List UInt8) (j : Nat) (p : Nat × List UInt8), PutsOk s.length l → l[j]? = some p → p.1 ≤ (bytesM s (l.take j)).length ∧ p.2 ≠ []
 | [], _, _, _, _, h => by simp at h
 | q :: l, s, 0, p, hp, h => by
  simp only [List.getElem?_cons_zero, Option.some.injEq] at h
  subst h
  exact ⟨hp.1, hp.2.1⟩
 | q :: l, s, j + 1, p, hp, h => by
  rw [List.getElem?_cons_succ] at h
  have h1 := overM_length (l := s) (d := q.2) hp.1
  exact putsOk_at l (overM s q.1 q.2) j p (by rw [h1]; exact hp.2.2) h
theorem bytesM_take_le : ∀ (l : List (Nat × List UInt8)) (s : List UInt8) (j : Nat), PutsOk s.length l → (bytesM s (l.take j)).length ≤ (bytesM s l).length
 | l, s, 0, hp => by rw [List.take_zero]; exact bytesM_len l s hp
 | [], s, j + 1, _ => by simp
 | q :: l, s, j + 1, hp => by
  have h1 := overM_length (l := s) (d := q.2) hp.1
  rw [List.take_succ_cons]
  exact bytesM_take_le l (overM s q.1 q.2) j (by rw [h1]; exact hp.2.2)
theorem bytesM_next {l : List (Nat × List UInt8)} {s : List UInt8} {j : Nat} {p : Nat × List UInt8} (h : l[j]? = some p) : bytesM s (l.take (j + 1)) = overM (bytesM s (l.take j)) p.1 p.2 := by
 rw [take_next' h, bytesM_snoc]
theorem overR_any (s : List UInt8) (p : Nat × List UInt8) (w : World) (hp : p.1 ≤ s.length) (hs : s.length ≤ 1099511627776) (hd : p.2.length ≤ 1099511627776) : Calls Tryz.prog 84 #[str s, .agg #[.int .i64 p.1, str p.2]] w fun e w' => e = .returned (str (overM s p.1 p.2)) ∧ Below w.heap.size w w' := by
 have htl : (s.take p.1).length = p.1 := by rw [List.length_take]; omega
 unfold overM
 refine W_enter (args := [str s, .agg #[.int .i64 p.1, str p.2]]) 33 Tryz.func84 rfl rfl rfl (W_sub [(0, str s), (1, .agg #[.int .i64 p.1, str p.2])] ?_ ⟨rfl, rfl, trivial⟩)
 have hbw := Below.refl w.heap.size w
 refine W_rs (sboxA rfl rfl (fun g3 w1 hB3 hg3 hb hl3 => ?_))
 replace hbw := bthen hbw hb
 have hz_w1 := hb.size
 clear hb
 refine sa rfl rfl (Wn (tN (W_drsN (fun W_ => Blk W_ g3 132 #[.int .i64 p.1, str p.2]) [0, 1, 2, 3, 4, 5, 6, 7] [true, true, true, true, true, true, true, true] (by kernel_rfl) (by kernel_rfl) (hB3.bel (bdrew (Below.refl _ _))) ?_)))
 obtain ⟨w2, hw_⟩ : ∃ w2 : World, w2 = World.drew w1 := ⟨_, rfl⟩
 rw [← hw_]
 have hb : Below w1.heap.size w1 w2 := by rw [hw_]; exact bdrew (Below.refl _ _)
 clear hw_
 have hS := hb
 replace hbw := bthen hbw hb
 replace hB3 := hB3.bel hb
 have hz_w2 := hb.size
 clear hb
 refine oY rfl (fun W_ hW_ => (X.move rfl)) rfl (oY rfl (fun W_ hW_ => (X.fa fa132_0 rfl)) rfl (oY rfl (fun W_ hW_ => (X.ldL rfl hW_ Tryz.underlying3 rfl rfl)) rfl (oY rfl (fun W_ hW_ => (X.toS rfl rfl Tryz.underlying9 rfl (by omega))) rfl (oY rfl (fun W_ hW_ => (X.fa fa132_1 rfl)) rfl (oY rfl (fun W_ hW_ => (X.ldL rfl hW_ Tryz.underlying9 rfl rfl)) rfl (oY rfl (fun W_ hW_ => (X.cat rfl rfl (by omega))) rfl (oY rfl (fun W_ hW_ => (X.assign rfl)) rfl (oN (nN (W_seq ?_))))))))))
 refine W_rs (st (X.fa fa132_0 rfl) rfl (st (X.ldL rfl hB3 Tryz.underlying3 rfl rfl) rfl (st (X.fa fa132_1 rfl) rfl (st (X.ldL rfl hB3 Tryz.underlying9 rfl rfl) rfl (st (X.lenS rfl rfl Tryz.underlying9) rfl (st (X.add64 rfl rfl (by omega)) rfl (sm rfl rfl (st (X.lenS rfl rfl Tryz.underlying9) rfl (st (X.lss rfl rfl) rfl (Wn ?_))))))))))
 refine tN (W_if rfl (fun h21 => ?_) (fun h21 => ?_))
 ·first | replace h21 := of_decide_eq_true h21 | replace h21 := of_decide_eq_false (notT h21) | replace h21 := notT h21 | skip
  refine W_reg (sm rfl rfl (sm rfl rfl (st (X.fa fa132_0 rfl) rfl (st (X.ldL rfl hB3 Tryz.underlying3 rfl rfl) rfl (st (X.fa fa132_1 rfl) rfl (st (X.ldL rfl hB3 Tryz.underlying9 rfl rfl) rfl (st (X.lenS rfl rfl Tryz.underlying9) rfl (st (X.add64 rfl rfl (by omega)) rfl (st (X.fromS (i := p.1 + p.2.length) rfl rfl Tryz.underlying9 (by omega) (by omega)) rfl ?_)))))))))
  have hdl := List.length_drop (i := p.1 + p.2.length) (l := s)
  have hcl : (s.take p.1 ++ p.2).length = p.1 + p.2.length := by rw [List.length_append, htl]
  refine st (X.cat rfl rfl (by omega)) rfl (sa rfl rfl (Wn (tN (W_rs (sm rfl rfl (sa rfl rfl (Wn (tN (W_ret ?_)))))))))
  exact (rT rfl rfl ⟨rfl, hbw⟩).1
 ·first | replace h21 := of_decide_eq_false h21 | replace h21 := of_decide_eq_true (notF h21) | replace h21 := notF h21 | skip
  refine W_skip (tN (W_rs (sm rfl rfl (sa rfl rfl (Wn (tN (W_ret ?_)))))))
  rw [List.drop_of_length_le (by omega), List.append_nil]
  exact (rT rfl rfl ⟨rfl, hbw⟩).1
theorem Bytes_any (r : RRec) (w : World) (hR : Reads w 2 r.v r.f.pend.length (r.f.pend.flatMap putCells)) (hok : PutsOk r.f.last.length r.f.pend) (hb_ : (bytesM r.f.last r.f.pend).length ≤ 16777216) (hpl : ∀ p ∈ r.f.pend, p.2.length ≤ 1099511627776) :
  Calls Tryz.prog 62 #[.agg r.cells.toArray] w fun e w' => e = .returned (str (bytesM r.f.last r.f.pend)) ∧ Below w.heap.size w w' := by
 obtain ⟨n, f, v⟩ := r
 simp only at hR hok hb_ hpl ⊢
 obtain ⟨a, c, rfl, hc1, hc2⟩ := hR.shape
 have hnn := hR.nle
 refine W_enter (args := [.agg #[str n, str f.last, .slice a f.pend.length c]]) 22 Tryz.func62 rfl rfl rfl (W_sub [(0, .agg #[str n, str f.last, .slice a f.pend.length c])] ?_ ⟨rfl, trivial⟩)
 have hbw := Below.refl w.heap.size w
 refine W_rs (sboxA rfl rfl (fun g1 w1 hB1 hg1 hb hl1 => ?_))
 replace hbw := bthen hbw hb
 have hz_w1 := hb.size
 clear hb
 refine sa rfl rfl (Wn (tN (W_rs (st (X.fa fa92_1 rfl) rfl (st (X.ldL rfl hB1 Tryz.underlying9 rfl rfl) rfl (sa rfl rfl (Wn (tN (W_seq (W_rs ?_))))))))))
 refine sa rfl rfl (Wn (tN (W_block (W_lp (fun nw2_ lw2_ w2 => ∃ j : Nat, nw2_ = f.pend.length - j ∧ lw2_ = ([(1, .pointer (some ⟨g1, 0, none⟩)), (3, str (bytesM f.last (f.pend.take j))), (4, .int .i64 j)] : Env) ∧ (Blk w2 g1 92 #[str n, str f.last, .slice a f.pend.length c]) ∧ (j ≤ f.pend.length) ∧ (Below w.heap.size w w2)) _ ⟨_, ⟨0, rfl, rfl, hB1, by omega, hbw⟩, ⟨rfl, rfl, rfl, trivial⟩⟩ ?_))))
 clear hB1 hbw
 rintro nw2_ lw2_ w2 ⟨j, rfl, rfl, hB1, hj, hbw⟩
 have hz_w2 := hbw.size
 have hlt_hB1_w2 := hB1.lt
 refine W_seq (W_rs (sm rfl rfl (st (X.fa fa92_2 rfl) rfl (st (X.ldL rfl hB1 Tryz.underlying90 rfl rfl) rfl (st (X.lenL rfl rfl Tryz.underlying90) rfl (st (X.lss rfl rfl) rfl (Wn (tN (W_if rfl (fun h11 => ?_) (fun h11 => ?_))))))))))
 ·first | replace h11 := of_decide_eq_true h11 | replace h11 := of_decide_eq_false (notT h11) | replace h11 := notT h11 | skip
  obtain ⟨p, hp⟩ : ∃ p, f.pend[j]? = some p := ⟨_, List.getElem?_eq_getElem (by omega)⟩
  obtain ⟨gp, op, c', hv, hgp⟩ := hR.some_ (by omega)
  injection hv with e1 _ e3
  subst e1 e3
  have hpo := putsOk_at _ _ _ _ hok hp
  have hle := bytesM_take_le _ _ j hok
  refine W_skip (tN (W_seq (W_block (W_reg (sm rfl rfl (st (X.fa fa92_2 rfl) rfl (st (X.ldL rfl hB1 Tryz.underlying90 rfl rfl) rfl (sm rfl rfl (st (X.idxA rfl rfl Tryz.underlying90 siz132 rfl (by omega)) rfl (st (X.ldN (cs := putCells p) rfl Tryz.underlying132 rfl siz132 ((hR.bel hbw).rec_ (f := putCells) (fun a _ => putCells_length a) hp)) rfl ?_))))))))))
  refine sc _ Tryz.func84 rfl (by kernel_rfl) rfl rfl ((overR_any (bytesM f.last (f.pend.take j)) p _ hpo.1 (by omega) (hpl p (List.mem_of_getElem? hp))).mono ?_)
  rintro e_ w3 ⟨rfl, hb⟩
  refine cR ?_
  replace hbw := bthen hbw hb
  replace hB1 := hB1.bel hb
  have hz_w3 := hb.size
  clear hb
  refine sa rfl rfl (Wn (bN (tN (W_reg (sm rfl rfl (st (X.add64 rfl rfl (by omega)) rfl (sa rfl rfl (Wn (tN ⟨_, _, ?_, ⟨j + 1, rfl, rfl, hB1, by omega, hbw⟩, ⟨rfl, by rw [bytesM_next hp]; rfl, rfl, trivial⟩⟩)))))))))
  omega
 ·first | replace h11 := of_decide_eq_false h11 | replace h11 := of_decide_eq_true (notF h11) | replace h11 := notF h11 | skip
  refine W_exit (tE (tE (bH (tN (W_rs (sm rfl rfl (sa rfl rfl (Wn (tN (W_ret ?_))))))))))
  obtain rfl : j = f.pend.length := by omega
  rw [List.take_length]
  exact (rT rfl rfl ⟨rfl, hbw⟩).1
def PlaceIs (rs : List RRec) (n : Key) : Option Nat → Prop
  | none => ∀ r ∈ rs, r.n ≠ n
  | some i => (∃ r, rs[i]? = some r ∧ r.n = n) ∧ ∀ j s, j < i → rs[j]? = some s → s.n ≠ n
def placeV : Option Nat → Int
  | none => -1
  | some i => i
theorem PlaceIs.at_ {rs : List RRec} {n : Key} {o : Option Nat} (h : PlaceIs rs n o) {i : Nat} {r : RRec} (hr : rs[i]? = some r) (hn : r.n = n) (hi : ∀ j s, j < i → rs[j]? = some s → s.n ≠ n) : o = some i := by
 cases o with
 | none => exact absurd hn (h r (List.mem_of_getElem? hr))
 | some k =>
  obtain ⟨⟨s, hs, hsn⟩, hm⟩ := h
  rcases Nat.lt_trichotomy k i with e | e | e
  ·exact absurd hsn (hi k s e hs)
  ·rw [e]
  ·exact absurd hn (hm i r e hr)
theorem PlaceIs.out {rs : List RRec} {n : Key} {o : Option Nat} (h : PlaceIs rs n o) (hi : ∀ j s, j < rs.length → rs[j]? = some s → s.n ≠ n) : o = none := by
 cases o with
 | none => rfl
 | some k =>
  obtain ⟨⟨s, hs, hsn⟩, hm⟩ := h
  exact absurd hsn (hi k s (List.getElem?_eq_some_iff.1 hs).1 hs)
set_option maxRecDepth 10000 in
theorem place_any (g : Nat) (D : DiskD) (vF : Value) (rs : List RRec) (n : Key) (o : Option Nat) (w : World) (h : RIn w g D vF rs) (ho : PlaceIs rs n o) :
  Calls Tryz.prog 95 #[.pointer (some ⟨g, 0, none⟩), str n] w fun e w' => e = .returned (.int .i64 (placeV o)) ∧ w = w' := by
 have hB := h.blk
 have hR := h.row.reads
 obtain ⟨a, c, rfl, hc1, hc2⟩ := hR.shape
 have hnn := hR.nle
 clear h
 refine W_enter (args := [.pointer (some ⟨g, 0, none⟩), str n]) 26 Tryz.func95 rfl rfl rfl (W_sub [(0, .pointer (some ⟨g, 0, none⟩)), (1, str n)] ?_ ⟨rfl, rfl, trivial⟩)
 refine W_rs (sa rfl rfl (Wn (tN (W_seq (W_rs (sa rfl rfl (Wn (tN (W_block (W_lp (fun nw1_ lw1_ w1 => ∃ i : Nat, nw1_ = rs.length - i ∧ lw1_ = ([(0, .pointer (some ⟨g, 0, none⟩)), (1, str n), (5, .int .i64 i)] : Env) ∧ (w1 = w) ∧ (i ≤ rs.length) ∧ (∀ j s, j < i → rs[j]? = some s → s.n ≠ n)) _ ⟨_, ⟨0, rfl, rfl, rfl, by omega, (fun j s hj => by omega)⟩, ⟨rfl, rfl, rfl, trivial⟩⟩ ?_))))))))))
 rintro nw1_ lw1_ w1 ⟨i, rfl, rfl, hw, hi, hne⟩
 have hlt_hB_w1 := hB.lt
 subst hw
 refine W_seq (W_rs (sm rfl rfl (sm rfl rfl (st (X.nilChk rfl) rfl (st (X.fa fa83_0 rfl) rfl (st (X.ldL rfl hB Tryz.underlying81 rfl rfl) rfl (st (X.lenL rfl rfl Tryz.underlying81) rfl (st (X.lss rfl rfl) rfl (Wn (tN ?_))))))))))
 refine W_if rfl (fun h12 => ?_) (fun h12 => ?_)
 ·first | replace h12 := of_decide_eq_true h12 | replace h12 := of_decide_eq_false (notT h12) | replace h12 := notT h12 | skip
  obtain ⟨x, hx⟩ : ∃ x, rs[i]? = some x := ⟨_, List.getElem?_eq_getElem (by omega)⟩
  obtain ⟨gF, oF, c', hv, hgF⟩ := hR.some_ (by omega)
  injection hv with e1 _ e3
  subst e1 e3
  have hrec := hR.rec_ (f := RRec.cells) (rrec_len rs) hx
  refine W_skip (tN (W_seq (W_block (W_rs (sm rfl rfl (st (X.nilChk rfl) rfl (st (X.fa fa83_0 rfl) rfl (st (X.ldL rfl hB Tryz.underlying81 rfl rfl) rfl (sm rfl rfl (st (X.idxA rfl rfl Tryz.underlying81 siz92 rfl (by omega)) rfl ?_))))))))))
  refine st (X.fa fa92_0 rfl) rfl (st (X.ld rfl Tryz.underlying9 rfl (hrec 0 _ rfl)) rfl (sm rfl rfl (st (X.eqS rfl rfl) rfl (Wn (tN (W_if rfl (fun h24 => ?_) (fun h24 => ?_)))))))
  ·first | replace h24 := of_decide_eq_true h24 | replace h24 := of_decide_eq_false (notT h24) | replace h24 := notT h24 | skip
   obtain rfl := ho.at_ hx h24 hne
   refine W_rs (sm rfl rfl (sa rfl rfl (Wn (tN (W_ret (bR (tR (tR (bR (tR ?_))))))))))
   exact (rT rfl rfl ⟨rfl, rfl⟩).1
  ·first | replace h24 := of_decide_eq_false h24 | replace h24 := of_decide_eq_true (notF h24) | replace h24 := notF h24 | skip
   refine W_skip (bN (tN (W_reg (sm rfl rfl (st (X.add64 rfl rfl (by omega)) rfl (sa rfl rfl (Wn (tN ⟨_, _, ?_, ⟨i + 1, rfl, rfl, rfl, by omega, (fun j s hj hs => by rcases Nat.lt_or_ge j i with e | e; exact hne j s e hs; obtain rfl : j = i := (by omega); rw [hx] at hs; injection hs with hs; rw [← hs]; exact h24)⟩, ⟨rfl, rfl, rfl, trivial⟩⟩))))))))
   omega
 ·first | replace h12 := of_decide_eq_false h12 | replace h12 := of_decide_eq_true (notF h12) | replace h12 := notF h12 | skip
  refine W_exit (tE (tE (bH (tN (W_rs (sa rfl rfl (Wn (tN (W_ret ?_)))))))))
  obtain rfl : i = rs.length := by omega
  obtain rfl := ho.out hne
  exact (rT rfl rfl ⟨rfl, rfl⟩).1
theorem RIn.fok {w : World} {g : Nat} {D : DiskD} {vF : Value} {rs : List RRec} (h : RIn w g D vF rs) (hok : DOk D) {r : RRec} (hr : r ∈ rs) : FOk r.f ∧ mget D.files r.n = some r.f := by
 have hm : (r.n, r.f) ∈ D.files := by rw [← h.files]; exact List.mem_map.2 ⟨r, hr, rfl⟩
 have hg := mget_of_mem hok.srt.nodup hm
 exact ⟨hok.fok _ _ hg, hg⟩
theorem pend_mem_le {l : List (Nat × List UInt8)} {p : Nat × List UInt8} (h : p ∈ l) : p.2.length ≤ pendLen l := by
 induction l with
 | nil => cases h
 | cons q l ih =>
  unfold pendLen
  rcases List.mem_cons.1 h with h | h
  ·subst h; omega
  ·have := ih h; omega
theorem BytesOf_any {g : Nat} {D : DiskD} {vF : Value} {rs : List RRec} {r : RRec} {w : World} (h : RIn w g D vF rs) (hok : DOk D) (hbud : DBud D) (hr : r ∈ rs) :
  Calls Tryz.prog 62 #[.agg r.cells.toArray] w fun e w' => e = .returned (str r.f.now) ∧ Below w.heap.size w w' := by
 obtain ⟨hf, hg⟩ := h.fok hok hr
 have hl := (hok.len hg).1
 have hp := (hbud.pend _ _ hg).1
 have := Bytes_any r w (h.rows r hr).reads hf.puts (by rw [← hf.now]; exact hl) (fun p hp' => Nat.le_trans (pend_mem_le hp') hp)
 rwa [← hf.now] at this
theorem usedM_take {l : List (Key × FileD)} {j : Nat} {p : Key × FileD} (h : l[j]? = some p) : usedM (l.take (j + 1)) = usedM (l.take j) + p.2.now.length := by
 rw [take_next' h, usedM_append]
 simp [usedM]
theorem usedM_take_le (l : List (Key × FileD)) (j : Nat) : usedM (l.take j) ≤ usedM l := by
 have := usedM_append (l.take j) (l.drop j)
 rw [List.take_append_drop] at this
 omega
theorem RIn.file {w : World} {g : Nat} {D : DiskD} {vF : Value} {rs : List RRec} (h : RIn w g D vF rs) {j : Nat} {r : RRec} (hr : rs[j]? = some r) : D.files[j]? = some (r.n, r.f) := by
 rw [← h.files, List.getElem?_map, hr]
 rfl
theorem RIn.len {w : World} {g : Nat} {D : DiskD} {vF : Value} {rs : List RRec} (h : RIn w g D vF rs) : rs.length = D.files.length := by
 rw [← h.files, List.length_map]
theorem RUsed_any (g : Nat) (D : DiskD) (vF : Value) (rs : List RRec) (w : World) (h : RIn w g D vF rs) (hok : DOk D) (hbud : DBud D) :
  Calls Tryz.prog 40 #[.pointer (some ⟨g, 0, none⟩)] w fun e w' => e = .returned (.int .i64 D.used) ∧ Below w.heap.size w w' := by
 have hB := h.blk
 obtain ⟨a, c, rfl, hc1, hc2⟩ := h.row.shape
 have hnn := h.row.nle
 have hum : usedM D.files ≤ 16777216 := by have := hok.used; have := hok.room; have := hok.lim; omega
 refine W_enter (args := [.pointer (some ⟨g, 0, none⟩)]) 26 Tryz.func40 rfl rfl rfl (W_sub [(0, .pointer (some ⟨g, 0, none⟩))] ?_ ⟨rfl, trivial⟩)
 have hbw := Below.refl w.heap.size w
 refine W_rs (sa rfl rfl (Wn (tN (W_rs (sa rfl rfl (Wn (tN (W_seq (W_rs (sa rfl rfl ?_))))))))))
 refine Wn (tN (W_block (W_lp (fun nw1_ lw1_ w1 => ∃ i : Nat, nw1_ = rs.length - i ∧ lw1_ = ([(0, .pointer (some ⟨g, 0, none⟩)), (3, .int .i64 (usedM (D.files.take i))), (4, .int .i64 i)] : Env) ∧ (Blk w1 g 83 #[.slice a rs.length c, .int .i64 D.limit, .int .i64 D.refused, .bool D.stops, .int .i64 D.left]) ∧ (i ≤ rs.length) ∧ (Below w.heap.size w w1)) _ ⟨_, ⟨0, rfl, rfl, hB, by omega, hbw⟩, ⟨rfl, rfl, rfl, trivial⟩⟩ ?_)))
 clear hB hbw
 rintro nw1_ lw1_ w1 ⟨i, rfl, rfl, hB, hi, hbw⟩
 have hz_w1 := hbw.size
 have hlt_hB_w1 := hB.lt
 have hut := usedM_take_le D.files i
 refine W_seq (W_rs (sm rfl rfl (sm rfl rfl (st (X.nilChk rfl) rfl (st (X.fa fa83_0 rfl) rfl (st (X.ldL rfl hB Tryz.underlying81 rfl rfl) rfl (st (X.lenL rfl rfl Tryz.underlying81) rfl (st (X.lss rfl rfl) rfl (Wn (tN ?_))))))))))
 refine W_if rfl (fun h11 => ?_) (fun h11 => ?_)
 ·first | replace h11 := of_decide_eq_true h11 | replace h11 := of_decide_eq_false (notT h11) | replace h11 := notT h11 | skip
  obtain ⟨x, hx⟩ : ∃ x, rs[i]? = some x := ⟨_, List.getElem?_eq_getElem (by omega)⟩
  obtain ⟨gF, oF, c', hv, hgF⟩ := h.row.reads.some_ (by omega)
  injection hv with e1 _ e3
  subst e1 e3
  have hxl := (hok.len (h.fok hok (List.mem_of_getElem? hx)).2).1
  refine W_skip (tN (W_seq (W_block (W_reg (sm rfl rfl (sm rfl rfl (st (X.nilChk rfl) rfl (st (X.fa fa83_0 rfl) rfl (st (X.ldL rfl hB Tryz.underlying81 rfl rfl) rfl (sm rfl rfl ?_))))))))))
  refine st (X.idxA rfl rfl Tryz.underlying81 siz92 rfl (by omega)) rfl (st (X.ldN (cs := x.cells) rfl Tryz.underlying92 rfl siz92 ((h.bel hbw).row.reads.rec_ (f := RRec.cells) (rrec_len rs) hx)) rfl (sc _ Tryz.func62 rfl (by kernel_rfl) rfl rfl ((BytesOf_any (h.bel hbw) hok hbud (List.mem_of_getElem? hx)).mono ?_)))
  rintro e_ w2 ⟨rfl, hb⟩
  refine cR ?_
  replace hbw := bthen hbw hb
  replace hB := hB.bel hb
  have hz_w2 := hb.size
  clear hb
  refine st (X.lenS rfl rfl Tryz.underlying9) rfl (st (X.add64 rfl rfl (by omega)) rfl (sa rfl rfl (Wn (bN (tN (W_reg (sm rfl rfl (st (X.add64 rfl rfl (by omega)) rfl (sa rfl rfl (Wn ?_))))))))))
  refine tN ⟨_, _, ?_, ⟨i + 1, rfl, rfl, hB, by omega, hbw⟩, ⟨rfl, by rw [usedM_take (h.file hx), Int.natCast_add]; rfl, rfl, trivial⟩⟩
  omega
 ·first | replace h11 := of_decide_eq_false h11 | replace h11 := of_decide_eq_true (notF h11) | replace h11 := notF h11 | skip
  refine W_exit (tE (tE (bH (tN (W_rs (sm rfl rfl (sa rfl rfl (Wn (tN (W_ret ?_))))))))))
  obtain rfl : i = rs.length := by omega
  have hu := hok.used
  rw [h.len, List.take_length, ← hu]
  exact (rT rfl rfl ⟨rfl, hbw⟩).1
theorem RIn.tick {w w' : World} {g : Nat} {D : DiskD} {vF : Value} {rs : List RRec} (h : RIn w g D vF rs) (hC : Chg (fun k => k = g) w w') (hB : Blk w' g 83 #[vF, .int .i64 D.limit, .int .i64 D.refused, .bool (tickM D).stops, .int .i64 (tickM D).left]) : RIn w' g (tickM D) vF rs := by
 have e1 : (tickM D).limit = D.limit := by unfold tickM; split <;> rfl
 have e2 : (tickM D).refused = D.refused := by unfold tickM; split <;> rfl
 refine ⟨by rw [e1, e2]; exact hB, h.row.chg hC (h.row.ne2 h.blk (by decide)), by rw [tick_files]; exact h.files, fun r hr => (h.rows r hr).chg hC ((h.rows r hr).ne2 h.blk (by decide))⟩
theorem dead_yes (g : Nat) (D : DiskD) (vF : Value) (rs : List RRec) (w : World) (h : RIn w g D vF rs) (hl : D.stops = true ∧ D.left = 0) : Calls Tryz.prog 93 #[.pointer (some ⟨g, 0, none⟩)] w fun e w' => e = .returned (.bool true) ∧ w = w' := by
 have hB := h.blk
 refine W_enter (args := [.pointer (some ⟨g, 0, none⟩)]) 21 Tryz.func93 rfl rfl rfl (W_sub [(0, .pointer (some ⟨g, 0, none⟩))] ?_ ⟨rfl, trivial⟩)
 refine W_rs (sa rfl rfl (Wn (tN (W_seq (W_rs (sm rfl rfl (st (X.nilChk rfl) rfl (st (X.fa fa83_3 rfl) rfl (st (X.ldL rfl hB Tryz.underlying4 rfl rfl) rfl (st (X.not rfl) rfl ?_))))))))))
 refine Wn (tN (W_no rfl (by rw [hl.1]; rfl) ?_))
 refine W_skip (tN (W_seq (W_rs (sm rfl rfl (st (X.nilChk rfl) rfl (st (X.fa fa83_4 rfl) rfl (st (X.ldL rfl hB Tryz.underlying3 rfl rfl) rfl (st (X.eql rfl rfl) rfl (Wn (tN ?_))))))))))
 refine W_yes rfl (decide_eq_true hl.2) (W_rs (sa rfl rfl (Wn (tN (W_ret (tR ?_))))))
 exact (rT rfl rfl ⟨rfl, rfl⟩).1
theorem dead_no (g : Nat) (D : DiskD) (vF : Value) (rs : List RRec) (w : World) (h : RIn w g D vF rs) (hok : DOk D) (hl : ¬ (D.stops = true ∧ D.left = 0)) : Calls Tryz.prog 93 #[.pointer (some ⟨g, 0, none⟩)] w fun e w' => e = .returned (.bool false) ∧ RIn w' g (tickM D) vF rs ∧ Chg (fun k => k = g) w w' := by
 have hB := h.blk
 cases hs : D.stops with
 | false =>
  rw [hs] at hB
  have ht : tickM D = D := by unfold tickM; rw [if_neg (by simp [hs])]
  rw [ht]
  refine W_enter (args := [.pointer (some ⟨g, 0, none⟩)]) 21 Tryz.func93 rfl rfl rfl (W_sub [(0, .pointer (some ⟨g, 0, none⟩))] ?_ ⟨rfl, trivial⟩)
  have hcw := Chg.refl (fun k => k = g) w
  refine W_rs (sa rfl rfl (Wn (tN (W_seq (W_rs (sm rfl rfl (st (X.nilChk rfl) rfl (st (X.fa fa83_3 rfl) rfl (st (X.ldL rfl hB Tryz.underlying4 rfl rfl) rfl (st (X.not rfl) rfl ?_))))))))))
  refine Wn (tN (W_yes rfl (rfl) (W_rs (sa rfl rfl (Wn (tN (W_ret (tR ?_))))))))
  exact (rT rfl rfl ⟨rfl, h, hcw⟩).1
 | true =>
  have hl0 : D.left ≠ 0 := fun e => hl ⟨hs, e⟩
  have hst := hok.stp hs
  have ht : tickM D = { D with left := D.left - 1 } := by unfold tickM; rw [if_pos hs]
  rw [hs] at hB
  have hlt := hB.lt
  refine W_enter (args := [.pointer (some ⟨g, 0, none⟩)]) 21 Tryz.func93 rfl rfl rfl (W_sub [(0, .pointer (some ⟨g, 0, none⟩))] ?_ ⟨rfl, trivial⟩)
  have hcw := Chg.refl (fun k => k = g) w
  refine W_rs (sa rfl rfl (Wn (tN (W_seq (W_rs (sm rfl rfl (st (X.nilChk rfl) rfl (st (X.fa fa83_3 rfl) rfl (st (X.ldL rfl hB Tryz.underlying4 rfl rfl) rfl (st (X.not rfl) rfl ?_))))))))))
  refine Wn (tN (W_no rfl (rfl) (W_skip (tN (W_seq (W_rs (sm rfl rfl (st (X.nilChk rfl) rfl (st (X.fa fa83_4 rfl) rfl (st (X.ldL rfl hB Tryz.underlying3 rfl rfl) rfl ?_))))))))))
  refine st (X.eql rfl rfl) rfl (Wn (tN (W_no rfl (decide_eq_false hl0) (W_skip (tN (W_rs (sm rfl rfl (sm rfl rfl (st (X.nilChk rfl) rfl (st (X.fa fa83_4 rfl) rfl ?_))))))))))
  refine st (X.ldL rfl hB Tryz.underlying3 rfl rfl) rfl (st (X.sub64 rfl rfl (by omega)) rfl (st (X.nilChk rfl) rfl (st (X.fa fa83_4 rfl) rfl (ssB rfl rfl hB siz3 rfl (by first | decide | simp) (fun w1 hB_ hc_ => ?_)))))
  replace hB := hB_
  clear hB_
  replace hcw := hcw.next hc_ (fun i_ hi_ => by first | exact .inl hi_ | exact .inl (.inl hi_) | (right; subst hi_; omega) | (left; subst hi_; show _ ≤ _; omega) | (left; subst hi_; assumption))
  have hz_w1 := hc_.size
  clear hc_
  refine Wn (tN (W_rs (sa rfl rfl (Wn (tN (W_ret ?_))))))
  exact (rT rfl rfl ⟨rfl, h.tick hcw (by rw [ht]; show Blk _ _ _ #[_, _, _, .bool D.stops, _]; rw [hs]; exact hB), hcw⟩).1
end Go.Proofs.YtnijmegalgoipaaGreatDoor
namespace Go.Proofs.YtnijmegalgoipaaGreatDoor
open Go.RowKit
theorem flat_drop3 : ∀ (l : List RRec) (i : Nat), (l.flatMap RRec.cells).drop (i * 3) = (l.drop i).flatMap RRec.cells
 | l, 0 => by simp
 | [], i + 1 => by simp
 | x :: l, i + 1 => by
  rw [List.drop_succ_cons, ← flat_drop3 l i, List.flatMap_cons, List.drop_append, List.drop_of_length_le (by rw [RRec.cells_length]; omega), RRec.cells_length, List.nil_append]
  congr 1
  omega
theorem flat_take3 : ∀ (l : List RRec) (i : Nat), (l.flatMap RRec.cells).take (i * 3) = (l.take i).flatMap RRec.cells
 | l, 0 => by simp
 | [], i + 1 => by simp
 | x :: l, i + 1 => by
  rw [List.take_succ_cons, List.flatMap_cons, List.flatMap_cons, ← flat_take3 l i, List.take_append, List.take_of_length_le (by rw [RRec.cells_length]; omega), RRec.cells_length]
  congr 2
  omega
theorem rcellsR_one {rs : List RRec} (h : ∀ r ∈ rs, r.v.oneCell' = true) : ∀ u ∈ rs.flatMap RRec.cells, u.oneCell' = true := by
 intro u hu
 obtain ⟨r, hr, hu⟩ := List.mem_flatMap.1 hu
 simp only [RRec.cells, List.mem_cons, List.not_mem_nil, or_false] at hu
 rcases hu with rfl | rfl | rfl
 ·rfl
 ·rfl
 ·exact h r hr
theorem RIn.ones {w : World} {g : Nat} {D : DiskD} {vF : Value} {rs : List RRec} (h : RIn w g D vF rs) : ∀ r ∈ rs, r.v.oneCell' = true := fun r hr => (h.rows r hr).one1
def insR : List RRec → RRec → List RRec
  | [], r => [r]
  | a :: l, r => if r.n < a.n then r :: a :: l else a :: insR l r
theorem insR_map {rs : List RRec} {r : RRec} (h : ∀ a ∈ rs, a.n ≠ r.n) : (insR rs r).map (fun r => (r.n, r.f)) = sput (rs.map fun r => (r.n, r.f)) r.n r.f := by
 induction rs with
 | nil => rfl
 | cons a l ih =>
  have h1 := h a (List.mem_cons_self ..)
  have h2 := ih (fun b hb => h b (List.mem_cons_of_mem _ hb))
  rw [List.map_cons, sput, if_neg (show ¬ r.n = a.n from fun e => h1 e.symm)]
  by_cases hlt : r.n < a.n
  ·rw [insR, if_pos hlt, if_pos hlt]
   rfl
  ·rw [insR, if_neg hlt, if_neg hlt, List.map_cons, h2]
theorem insR_mem {rs : List RRec} {r a : RRec} (h : a ∈ insR rs r) : a = r ∨ a ∈ rs := by
 induction rs with
 | nil => simpa [insR] using h
 | cons b l ih =>
  unfold insR at h
  split at h
  ·rcases List.mem_cons.1 h with h | h
   ·exact .inl h
   ·exact .inr h
  ·rcases List.mem_cons.1 h with h | h
   ·exact .inr (by rw [h]; exact List.mem_cons_self ..)
   ·exact (ih h).imp (fun e => e) (List.mem_cons_of_mem _)
theorem insR_length (rs : List RRec) (r : RRec) : (insR rs r).length = rs.length + 1 := by
 induction rs with
 | nil => rfl
 | cons a l ih =>
  unfold insR
  split
  ·simp
  ·simp [ih]
def delR (rs : List RRec) (i : Nat) : List RRec := rs.take i ++ rs.drop (i + 1)
theorem delR_map : ∀ {rs : List RRec} {i : Nat} {r : RRec}, rs[i]? = some r → (∀ j s, j < i → rs[j]? = some s → s.n ≠ r.n) → (delR rs i).map (fun r => (r.n, r.f)) = mdel (rs.map fun r => (r.n, r.f)) r.n
 | [], _, _, h, _ => by simp at h
 | a :: l, 0, r, h, _ => by
  simp only [List.getElem?_cons_zero, Option.some.injEq] at h
  subst h
  simp [delR, mdel]
 | a :: l, i + 1, r, h, hm => by
  rw [List.getElem?_cons_succ] at h
  have h0 := hm 0 a (by omega) rfl
  have := delR_map (rs := l) (i := i) h (fun j s hj hs => hm (j + 1) s (by omega) (by rw [List.getElem?_cons_succ]; exact hs))
  simp only [delR, List.take_succ_cons, List.cons_append, List.map_cons, List.drop_succ_cons] at this ⊢
  rw [mdel, if_neg (fun e => h0 e.symm)]
  rw [← this]
theorem gtS_lt {a b : List UInt8} : (!(Op.bytesLess a b || a == b)) = true ↔ b < a := by
 have h1 : Op.bytesLess a b = decide (a < b) := by
  have h := bytesLess_eq a b
  exact h
 rw [h1]
 simp only [Bool.not_eq_true', Bool.or_eq_false_iff, decide_eq_false_iff_not, beq_eq_false_iff_ne]
 constructor
 ·rintro ⟨p, q⟩
  rcases klt_tri a b with e | e | e
  ·exact absurd e p
  ·exact absurd e q
  ·exact e
 ·intro e
  exact ⟨fun p => klt_irrefl _ (klt_trans p e), fun p => by rw [p] at e; exact klt_irrefl _ e⟩
def PutInv (rs : List RRec) (r : RRec) (i : Nat) (dn : Bool) (out : List RRec) : Prop :=
  if dn = true then insR rs r = out ++ rs.drop i else out = rs.take i ∧ insR rs r = rs.take i ++ insR (rs.drop i) r
theorem PutInv.len {rs out : List RRec} {r : RRec} {i : Nat} {dn : Bool} (h : PutInv rs r i dn out) (hi : i ≤ rs.length) : out.length ≤ i + 1 := by
 unfold PutInv at h
 split at h
 ·have e := congrArg List.length h
  rw [insR_length, List.length_append, List.length_drop] at e
  omega
 ·rw [h.1, List.length_take]
  omega
theorem PutInv.first {rs out : List RRec} {r x : RRec} {i : Nat} (h : PutInv rs r i false out) (hd : rs.drop i = x :: rs.drop (i + 1)) (hlt : r.n < x.n) : PutInv rs r i true (out ++ [r]) := by
 obtain ⟨h1, h2⟩ := h
 show insR rs r = out ++ [r] ++ rs.drop i
 rw [h2, ← h1, hd, insR, if_pos hlt]
 simp
theorem PutInv.next {rs out : List RRec} {r x : RRec} {i : Nat} {dn : Bool} (h : PutInv rs r i dn out) (hd : rs.drop i = x :: rs.drop (i + 1)) (hx : rs[i]? = some x) (hc : dn = false → ¬ r.n < x.n) : PutInv rs r (i + 1) dn (out ++ [x]) := by
 cases dn with
 | true =>
  have h' : insR rs r = out ++ rs.drop i := h
  show insR rs r = out ++ [x] ++ rs.drop (i + 1)
  rw [h', hd]
  simp
 | false =>
  obtain ⟨h1, h2⟩ := h
  refine ⟨by rw [h1, take_next' hx], ?_⟩
  rw [h2, hd, insR, if_neg (hc rfl), take_next' hx]
  simp
set_option maxRecDepth 10000 in
theorem put_any' (g : Nat) (D : DiskD) (vF : Value) (rs : List RRec) (r : RRec) (w : World) (h : RIn w g D vF rs) (h1 : r.v.oneCell' = true) (hrl : rs.length ≤ 1000000) :
  Calls Tryz.prog 96 #[.pointer (some ⟨g, 0, none⟩), .agg r.cells.toArray] w fun e w' => e = .returned (.tuple #[]) ∧ ∃ vo, Blk w' g 83 #[vo, .int .i64 D.limit, .int .i64 D.refused, .bool D.stops, .int .i64 D.left] ∧
   Row w' 92 3 vo (insR rs r).length ((insR rs r).flatMap RRec.cells) ∧ (∀ k, vo.ownBlock = some k → w.heap.size ≤ k) ∧ Chg (fun k => k = g) w w' := by
 have hB := h.blk
 have hlt := hB.lt
 obtain ⟨a, c, rfl, hc1, hc2⟩ := h.row.shape
 have hnn := h.row.nle
 obtain ⟨n, f, v⟩ := r
 refine W_enter (args := [.pointer (some ⟨g, 0, none⟩), .agg #[str n, str f.last, v]]) 55 Tryz.func96 rfl rfl rfl (W_sub [(0, .pointer (some ⟨g, 0, none⟩)), (1, .agg #[str n, str f.last, v])] ?_ ⟨rfl, rfl, trivial⟩)
 have hbw := Below.refl w.heap.size w
 refine W_rs (sboxA rfl rfl (fun g3 w1 hB3 hg3 hb hl3 => ?_))
 replace hbw := bthen hbw hb
 have hz_w1 := hb.size
 clear hb
 refine Wn (tN (W_rs (sa rfl rfl (Wn (tN (W_rs (sa rfl rfl (Wn (tN (W_seq ?_))))))))))
 refine W_rs (sa rfl rfl (Wn (tN (W_block (W_lp (fun nw2_ lw2_ w2 => ∃ i : Nat, ∃ dn : Bool, ∃ out : List RRec, ∃ vo : Value, nw2_ = rs.length - i ∧ lw2_ = ([(0, .pointer (some ⟨g, 0, none⟩)), (3, .pointer (some ⟨g3, 0, none⟩)), (4, vo), (5, .bool dn), (6, .int .i64 i)] : Env) ∧ (Row w2 92 3 vo out.length (out.flatMap RRec.cells)) ∧ (∀ k, vo.ownBlock = some k → w.heap.size ≤ k ∧ ¬ k = g3) ∧ (Blk w2 g 83 #[.slice a rs.length c, .int .i64 D.limit, .int .i64 D.refused, .bool D.stops, .int .i64 D.left]) ∧ (Blk w2 g3 92 #[str n, str f.last, v]) ∧ (i ≤ rs.length) ∧ (PutInv rs ⟨n, f, v⟩ i dn out) ∧ (Below w.heap.size w w2)) _ ⟨_, ⟨0, false, [], .slice none 0 0, rfl, rfl, Row.nil _ _ _, (by simp [Value.ownBlock]), h.blk.bel hbw, hB3, by omega, ⟨rfl, by simp⟩, hbw⟩, ⟨rfl, rfl, rfl, rfl, rfl, trivial⟩⟩ ?_)))))
 clear hB3 hbw
 rintro nw2_ lw2_ w2 ⟨i, dn, out, vo, rfl, rfl, hR, hvo, hB, hB3, hi, hin, hbw⟩
 have hz_w2 := hbw.size
 have hlt_hB_w2 := hB.lt
 have hlt_hB3_w2 := hB3.lt
 have hol := hin.len hi
 refine W_seq (W_rs (sm rfl rfl (sm rfl rfl (st (X.nilChk rfl) rfl (st (X.fa fa83_0 rfl) rfl (st (X.ldL rfl hB Tryz.underlying81 rfl rfl) rfl (st (X.lenL rfl rfl Tryz.underlying81) rfl (st (X.lss rfl rfl) rfl (Wn (tN ?_))))))))))
 refine W_if rfl (fun h13 => ?_) (fun h13 => ?_)
 ·first | replace h13 := of_decide_eq_true h13 | replace h13 := of_decide_eq_false (notT h13) | replace h13 := notT h13 | skip
  obtain ⟨x, hx⟩ : ∃ x, rs[i]? = some x := ⟨_, List.getElem?_eq_getElem (by omega)⟩
  obtain ⟨gF, oF, c', hv, hgF⟩ := h.row.reads.some_ (by omega)
  injection hv with e1 _ e3
  subst e1 e3
  have hdx : rs.drop i = x :: rs.drop (i + 1) := by
   obtain ⟨hj, rfl⟩ := List.getElem?_eq_some_iff.1 hx
   exact List.drop_eq_getElem_cons hj
  have hrec := h.row.reads.rec_ (f := RRec.cells) (rrec_len rs) hx
  refine W_skip (tN (W_seq (W_block (W_seq ?_))))
  by_cases hsp_ : dn = false
  ·refine W_drsN (fun W_ => Blk W_ g 83 #[.slice (some ⟨gF, oF, none⟩) rs.length c, .int .i64 D.limit, .int .i64 D.refused, .bool D.stops, .int .i64 D.left] ∧ Blk W_ g3 92 #[str n, str f.last, v] ∧ W_.cell? ⟨gF, oF + i * 3 + 0, none⟩ = some (str x.n)) [0, 1, 2, 3, 4, 5, 6, 7, 8, 9, 10, 11, 12, 13, 14] [true, true, true, true, true, true, true, true, true, true, true, true, true, true, true] (by kernel_rfl) (by kernel_rfl) (⟨hB.bel (bdrew (Below.refl _ _)), hB3.bel (bdrew (Below.refl _ _)), (h.bel (bdrew hbw)).row.reads.rec_ (f := RRec.cells) (rrec_len rs) hx 0 _ rfl⟩) ?_
   obtain ⟨w3, hw_⟩ : ∃ w3 : World, w3 = World.drew w2 := ⟨_, rfl⟩
   rw [← hw_]
   have hb : Below w2.heap.size w2 w3 := by rw [hw_]; exact bdrew (Below.refl _ _)
   clear hw_
   have hS := hb
   replace hbw := bthen hbw hb
   replace hB3 := hB3.bel hb
   replace hR := hR.bel hb
   replace hB := hB.bel hb
   have hz_w3 := hb.size
   clear hb
   refine oY rfl (fun W_ hW_ => (X.move rfl)) rfl (oY rfl (fun W_ hW_ => (X.not rfl)) rfl (oY rfl (fun W_ hW_ => (X.mvB (c := true) rfl (by rw [hsp_]; rfl))) rfl ?_))
   refine oYg (g := 18) rfl rfl rfl rfl (fun W_ hW_ => (X.move rfl)) rfl (oYg (g := 18) rfl rfl rfl rfl (fun W_ hW_ => (X.nilChk rfl)) rfl (oYg (g := 18) rfl rfl rfl rfl (fun W_ hW_ => (X.fa fa83_0 rfl)) rfl (oYg (g := 18) rfl rfl rfl rfl (fun W_ hW_ => (X.ldL rfl hW_.1 Tryz.underlying81 rfl rfl)) rfl (oYg (g := 18) rfl rfl rfl rfl (fun W_ hW_ => (X.move rfl)) rfl (oYg (g := 18) rfl rfl rfl rfl (fun W_ hW_ => (X.idxA rfl rfl Tryz.underlying81 siz92 rfl (by omega))) rfl (oYg (g := 18) rfl rfl rfl rfl (fun W_ hW_ => (X.fa fa92_0 rfl)) rfl (oYg (g := 18) rfl rfl rfl rfl (fun W_ hW_ => (X.ld rfl Tryz.underlying9 rfl hW_.2.2)) rfl (oYg (g := 18) rfl rfl rfl rfl (fun W_ hW_ => (X.fa fa92_0 rfl)) rfl (oYg (g := 18) rfl rfl rfl rfl (fun W_ hW_ => (X.ldL rfl hW_.2.1 Tryz.underlying9 rfl rfl)) rfl (oYg (g := 18) rfl rfl rfl rfl (fun W_ hW_ => (X.gtS rfl rfl)) rfl ?_))))))))))
   refine oY rfl (fun W_ hW_ => (X.pickT rfl rfl)) rfl (oN (nN (W_if rfl (fun h30 => ?_) (fun h30 => ?_))))
   ·first | replace h30 := of_decide_eq_true h30 | replace h30 := of_decide_eq_false (notT h30) | replace h30 := notT h30 | skip
    refine W_rs (sm rfl rfl (st (X.ldBN rfl hB3 Tryz.underlying92 rfl siz92) rfl (sbs1 rfl Tryz.underlying81 inf92 rfl rfl (by decide) (by decide) rfl (fun g33 w4 hR33 hg33 hb => ?_))))
    replace hbw := bthen hbw hb
    replace hB3 := hB3.bel hb
    replace hR := hR.bel hb
    replace hB := hB.bel hb
    have hz_w4 := hb.size
    clear hb
    have hl33 := hR33.blt (by decide)
    refine sapp rfl rfl Tryz.underlying81 inf92 rfl (by decide) hR (hR33.reads.src Tryz.underlying81 (by intro u hu; exact rcellsR_one (rs := [(⟨n, f, v⟩ : RRec)]) (by intro q hq; rw [List.mem_singleton.1 hq]; exact h1) u (by simpa [RRec.cells, Value.cells] using hu))) (by simp only [maxLen]; omega) (by omega) rfl (fun vo' w5 hR2 hC2 hv => ?_)
    have hz_w5 := hC2.size
    have hRn : Row w5 92 3 vo' (out ++ [(⟨n, f, v⟩ : RRec)]).length ((out ++ [(⟨n, f, v⟩ : RRec)]).flatMap RRec.cells) := by rw [List.flatMap_append, List.length_append]; simpa [RRec.cells, Value.cells] using hR2
    have hvn : ∀ k, vo'.ownBlock = some k → w.heap.size ≤ k ∧ ¬ k = g3 := fun k hk => by
     rcases hv with hv | hv
     ·exact hvo k (hv ▸ hk)
     ·rw [hv] at hk
      injection hk with hk
      have := hB3.lt
      omega
    have hbw' := bapp hbw hC2 (fun k hk => (hvo k hk).1)
    replace hB3 := hB3.chg hC2 (fun e => (hvo _ e).2 rfl)
    replace hB := h.blk.bel hbw'
    clear hbw hR2 hC2 hR hvo hv
    have hbw := hbw'
    clear hbw'
    rw [hsp_] at hin
    have hin' := hin.first (r := ⟨n, f, v⟩) hdx (gtS_lt.1 (by rw [h30]; rfl))
    obtain ⟨out, hout⟩ : ∃ o, out ++ [(⟨n, f, v⟩ : RRec)] = o := ⟨_, rfl⟩
    rw [hout] at hRn hin'
    clear hin hout hol
    have hin := hin'
    have hR := hRn
    have hvo := hvn
    have hol := hin.len hi
    clear hin' hRn hvn
    refine sa rfl rfl (Wn (tN (W_reg (sa rfl rfl (Wn (tN (W_reg (sm rfl rfl (sm rfl rfl (st (X.nilChk rfl) rfl ?_))))))))))
    refine st (X.fa fa83_0 rfl) rfl (st (X.ldL rfl hB Tryz.underlying81 rfl rfl) rfl (sm rfl rfl (st (X.idxA rfl rfl Tryz.underlying81 siz92 rfl (by omega)) rfl ?_)))
    have hcnd : True := trivial
    refine st (X.ldN (cs := x.cells) rfl Tryz.underlying92 rfl siz92 ((h.bel hbw).row.reads.rec_ (f := RRec.cells) (rrec_len rs) hx)) rfl (sbs1 rfl Tryz.underlying81 inf92 rfl rfl (by decide) (by decide) rfl (fun g43 w6 hR43 hg43 hb => ?_))
    replace hbw := bthen hbw hb
    replace hB3 := hB3.bel hb
    replace hR := hR.bel hb
    replace hB := hB.bel hb
    have hz_w6 := hb.size
    clear hb
    have hl43 := hR43.blt (by decide)
    refine sapp rfl rfl Tryz.underlying81 inf92 rfl (by decide) hR (hR43.reads.src Tryz.underlying81 (by intro u hu; exact rcellsR_one (rs := [x]) (by intro q hq; rw [List.mem_singleton.1 hq]; exact (h.ones x (List.mem_of_getElem? hx))) u (by simpa [RRec.cells, Value.cells] using hu))) (by simp only [maxLen]; omega) (by omega) rfl (fun vo' w7 hR2 hC2 hv => ?_)
    have hz_w7 := hC2.size
    have hRn : Row w7 92 3 vo' (out ++ [x]).length ((out ++ [x]).flatMap RRec.cells) := by rw [List.flatMap_append, List.length_append]; simpa [RRec.cells, Value.cells] using hR2
    have hvn : ∀ k, vo'.ownBlock = some k → w.heap.size ≤ k ∧ ¬ k = g3 := fun k hk => by
     rcases hv with hv | hv
     ·exact hvo k (hv ▸ hk)
     ·rw [hv] at hk
      injection hk with hk
      have := hB3.lt
      omega
    have hbw' := bapp hbw hC2 (fun k hk => (hvo k hk).1)
    replace hB3 := hB3.chg hC2 (fun e => (hvo _ e).2 rfl)
    replace hB := h.blk.bel hbw'
    clear hbw hR2 hC2 hR hvo hv
    have hbw := hbw'
    clear hbw'
    have hinn := hin.next hdx hx (by first | (intro e; exact absurd e hsp_) | (intro e; cases e; done) | (intro _ e; have := gtS_lt.2 e; rw [h30] at this; cases this))
    refine sa rfl rfl (Wn (bN (tN (W_reg (sm rfl rfl (st (X.add64 rfl rfl (by omega)) rfl (sa rfl rfl (Wn (tN ⟨_, _, ?_, ⟨i + 1, _, _, _, rfl, rfl, hRn, hvn, h.blk.bel hbw, hB3, by omega, hinn, hbw⟩, ⟨rfl, rfl, rfl, rfl, rfl, trivial⟩⟩)))))))))
    omega
   ·first | replace h30 := of_decide_eq_false h30 | replace h30 := of_decide_eq_true (notF h30) | replace h30 := notF h30 | skip
    refine W_skip (tN (W_reg (sm rfl rfl (sm rfl rfl (st (X.nilChk rfl) rfl (st (X.fa fa83_0 rfl) rfl (st (X.ldL rfl hB Tryz.underlying81 rfl rfl) rfl (sm rfl rfl (st (X.idxA rfl rfl Tryz.underlying81 siz92 rfl (by omega)) rfl ?_)))))))))
    have hcnd : True := trivial
    refine st (X.ldN (cs := x.cells) rfl Tryz.underlying92 rfl siz92 ((h.bel hbw).row.reads.rec_ (f := RRec.cells) (rrec_len rs) hx)) rfl (sbs1 rfl Tryz.underlying81 inf92 rfl rfl (by decide) (by decide) rfl (fun g43 w8 hR43 hg43 hb => ?_))
    replace hbw := bthen hbw hb
    replace hB3 := hB3.bel hb
    replace hR := hR.bel hb
    replace hB := hB.bel hb
    have hz_w8 := hb.size
    clear hb
    have hl43 := hR43.blt (by decide)
    refine sapp rfl rfl Tryz.underlying81 inf92 rfl (by decide) hR (hR43.reads.src Tryz.underlying81 (by intro u hu; exact rcellsR_one (rs := [x]) (by intro q hq; rw [List.mem_singleton.1 hq]; exact (h.ones x (List.mem_of_getElem? hx))) u (by simpa [RRec.cells, Value.cells] using hu))) (by simp only [maxLen]; omega) (by omega) rfl (fun vo' w9 hR2 hC2 hv => ?_)
    have hz_w9 := hC2.size
    have hRn : Row w9 92 3 vo' (out ++ [x]).length ((out ++ [x]).flatMap RRec.cells) := by rw [List.flatMap_append, List.length_append]; simpa [RRec.cells, Value.cells] using hR2
    have hvn : ∀ k, vo'.ownBlock = some k → w.heap.size ≤ k ∧ ¬ k = g3 := fun k hk => by
     rcases hv with hv | hv
     ·exact hvo k (hv ▸ hk)
     ·rw [hv] at hk
      injection hk with hk
      have := hB3.lt
      omega
    have hbw' := bapp hbw hC2 (fun k hk => (hvo k hk).1)
    replace hB3 := hB3.chg hC2 (fun e => (hvo _ e).2 rfl)
    replace hB := h.blk.bel hbw'
    clear hbw hR2 hC2 hR hvo hv
    have hbw := hbw'
    clear hbw'
    have hinn := hin.next hdx hx (by first | (intro e; exact absurd e hsp_) | (intro e; cases e; done) | (intro _ e; have := gtS_lt.2 e; rw [h30] at this; cases this))
    refine sa rfl rfl (Wn (bN (tN (W_reg (sm rfl rfl (st (X.add64 rfl rfl (by omega)) rfl (sa rfl rfl (Wn (tN ⟨_, _, ?_, ⟨i + 1, _, _, _, rfl, rfl, hRn, hvn, h.blk.bel hbw, hB3, by omega, hinn, hbw⟩, ⟨rfl, rfl, rfl, rfl, rfl, trivial⟩⟩)))))))))
    omega
  ·refine W_drsN (fun W_ => Blk W_ g 83 #[.slice (some ⟨gF, oF, none⟩) rs.length c, .int .i64 D.limit, .int .i64 D.refused, .bool D.stops, .int .i64 D.left] ∧ Blk W_ g3 92 #[str n, str f.last, v] ∧ W_.cell? ⟨gF, oF + i * 3 + 0, none⟩ = some (str x.n)) [0, 1, 2, 3, 4, 5, 6, 7, 8, 9, 10, 11, 12, 13, 14] [true, true, true, true, true, true, true, true, true, true, true, true, true, true, true] (by kernel_rfl) (by kernel_rfl) (⟨hB.bel (bdrew (Below.refl _ _)), hB3.bel (bdrew (Below.refl _ _)), (h.bel (bdrew hbw)).row.reads.rec_ (f := RRec.cells) (rrec_len rs) hx 0 _ rfl⟩) ?_
   obtain ⟨w10, hw_⟩ : ∃ w10 : World, w10 = World.drew w2 := ⟨_, rfl⟩
   rw [← hw_]
   have hb : Below w2.heap.size w2 w10 := by rw [hw_]; exact bdrew (Below.refl _ _)
   clear hw_
   have hS := hb
   replace hbw := bthen hbw hb
   replace hB3 := hB3.bel hb
   replace hR := hR.bel hb
   replace hB := hB.bel hb
   have hz_w10 := hb.size
   clear hb
   refine oY rfl (fun W_ hW_ => (X.move rfl)) rfl (oY rfl (fun W_ hW_ => (X.not rfl)) rfl (oY rfl (fun W_ hW_ => (X.mvB (c := false) rfl (by simpa using hsp_))) rfl ?_))
   refine oNg (g := 18) rfl rfl rfl rfl (⟨hB, hB3, (h.bel hbw).row.reads.rec_ (f := RRec.cells) (rrec_len rs) hx 0 _ rfl⟩) rfl (oNg (g := 18) rfl rfl rfl rfl (⟨hB, hB3, (h.bel hbw).row.reads.rec_ (f := RRec.cells) (rrec_len rs) hx 0 _ rfl⟩) rfl (oNg (g := 18) rfl rfl rfl rfl (⟨hB, hB3, (h.bel hbw).row.reads.rec_ (f := RRec.cells) (rrec_len rs) hx 0 _ rfl⟩) rfl (oNg (g := 18) rfl rfl rfl rfl (⟨hB, hB3, (h.bel hbw).row.reads.rec_ (f := RRec.cells) (rrec_len rs) hx 0 _ rfl⟩) rfl (oNg (g := 18) rfl rfl rfl rfl (⟨hB, hB3, (h.bel hbw).row.reads.rec_ (f := RRec.cells) (rrec_len rs) hx 0 _ rfl⟩) rfl (oNg (g := 18) rfl rfl rfl rfl (⟨hB, hB3, (h.bel hbw).row.reads.rec_ (f := RRec.cells) (rrec_len rs) hx 0 _ rfl⟩) rfl (oNg (g := 18) rfl rfl rfl rfl (⟨hB, hB3, (h.bel hbw).row.reads.rec_ (f := RRec.cells) (rrec_len rs) hx 0 _ rfl⟩) rfl (oNg (g := 18) rfl rfl rfl rfl (⟨hB, hB3, (h.bel hbw).row.reads.rec_ (f := RRec.cells) (rrec_len rs) hx 0 _ rfl⟩) rfl (oNg (g := 18) rfl rfl rfl rfl (⟨hB, hB3, (h.bel hbw).row.reads.rec_ (f := RRec.cells) (rrec_len rs) hx 0 _ rfl⟩) rfl (oNg (g := 18) rfl rfl rfl rfl (⟨hB, hB3, (h.bel hbw).row.reads.rec_ (f := RRec.cells) (rrec_len rs) hx 0 _ rfl⟩) rfl (oNg (g := 18) rfl rfl rfl rfl (⟨hB, hB3, (h.bel hbw).row.reads.rec_ (f := RRec.cells) (rrec_len rs) hx 0 _ rfl⟩) rfl ?_))))))))))
   refine oY rfl (fun W_ hW_ => (X.pickF rfl rfl)) rfl (oN (nN (W_no rfl (rfl) (W_skip (tN (W_reg (sm rfl rfl (sm rfl rfl (st (X.nilChk rfl) rfl (st (X.fa fa83_0 rfl) rfl ?_))))))))))
   refine st (X.ldL rfl hB Tryz.underlying81 rfl rfl) rfl (sm rfl rfl (st (X.idxA rfl rfl Tryz.underlying81 siz92 rfl (by omega)) rfl ?_))
   have hcnd : True := trivial
   refine st (X.ldN (cs := x.cells) rfl Tryz.underlying92 rfl siz92 ((h.bel hbw).row.reads.rec_ (f := RRec.cells) (rrec_len rs) hx)) rfl (sbs1 rfl Tryz.underlying81 inf92 rfl rfl (by decide) (by decide) rfl (fun g43 w11 hR43 hg43 hb => ?_))
   replace hbw := bthen hbw hb
   replace hB3 := hB3.bel hb
   replace hR := hR.bel hb
   replace hB := hB.bel hb
   have hz_w11 := hb.size
   clear hb
   have hl43 := hR43.blt (by decide)
   refine sapp rfl rfl Tryz.underlying81 inf92 rfl (by decide) hR (hR43.reads.src Tryz.underlying81 (by intro u hu; exact rcellsR_one (rs := [x]) (by intro q hq; rw [List.mem_singleton.1 hq]; exact (h.ones x (List.mem_of_getElem? hx))) u (by simpa [RRec.cells, Value.cells] using hu))) (by simp only [maxLen]; omega) (by omega) rfl (fun vo' w12 hR2 hC2 hv => ?_)
   have hz_w12 := hC2.size
   have hRn : Row w12 92 3 vo' (out ++ [x]).length ((out ++ [x]).flatMap RRec.cells) := by rw [List.flatMap_append, List.length_append]; simpa [RRec.cells, Value.cells] using hR2
   have hvn : ∀ k, vo'.ownBlock = some k → w.heap.size ≤ k ∧ ¬ k = g3 := fun k hk => by
    rcases hv with hv | hv
    ·exact hvo k (hv ▸ hk)
    ·rw [hv] at hk
     injection hk with hk
     have := hB3.lt
     omega
   have hbw' := bapp hbw hC2 (fun k hk => (hvo k hk).1)
   replace hB3 := hB3.chg hC2 (fun e => (hvo _ e).2 rfl)
   replace hB := h.blk.bel hbw'
   clear hbw hR2 hC2 hR hvo hv
   have hbw := hbw'
   clear hbw'
   have hinn := hin.next hdx hx (by first | (intro e; exact absurd e hsp_) | (intro e; cases e; done) | (intro _ e; have := gtS_lt.2 e; rw [h30] at this; cases this))
   refine sa rfl rfl (Wn (bN (tN (W_reg (sm rfl rfl (st (X.add64 rfl rfl (by omega)) rfl (sa rfl rfl (Wn (tN ⟨_, _, ?_, ⟨i + 1, _, _, _, rfl, rfl, hRn, hvn, h.blk.bel hbw, hB3, by omega, hinn, hbw⟩, ⟨rfl, rfl, rfl, rfl, rfl, trivial⟩⟩)))))))))
   omega
 ·first | replace h13 := of_decide_eq_false h13 | replace h13 := of_decide_eq_true (notF h13) | replace h13 := notF h13 | skip
  refine W_exit (tE (tE (bH (tN (W_seq (W_rs (sm rfl rfl (st (X.not rfl) rfl (Wn (tN (W_if rfl (fun h46 => ?_) (fun h46 => ?_))))))))))))
  ·first | replace h46 := of_decide_eq_true h46 | replace h46 := of_decide_eq_false (notT h46) | replace h46 := notT h46 | skip
   refine W_reg (sm rfl rfl (st (X.ldBN rfl hB3 Tryz.underlying92 rfl siz92) rfl (sbs1 rfl Tryz.underlying81 inf92 rfl rfl (by decide) (by decide) rfl (fun g49 w13 hR49 hg49 hb => ?_))))
   replace hbw := bthen hbw hb
   replace hB3 := hB3.bel hb
   replace hR := hR.bel hb
   replace hB := hB.bel hb
   have hz_w13 := hb.size
   clear hb
   have hl49 := hR49.blt (by decide)
   refine sapp rfl rfl Tryz.underlying81 inf92 rfl (by decide) hR (hR49.reads.src Tryz.underlying81 (by intro u hu; exact rcellsR_one (rs := [(⟨n, f, v⟩ : RRec)]) (by intro q hq; rw [List.mem_singleton.1 hq]; exact h1) u (by simpa [RRec.cells, Value.cells] using hu))) (by simp only [maxLen]; omega) (by omega) rfl (fun vo' w14 hR2 hC2 hv => ?_)
   have hz_w14 := hC2.size
   have hRn : Row w14 92 3 vo' (out ++ [(⟨n, f, v⟩ : RRec)]).length ((out ++ [(⟨n, f, v⟩ : RRec)]).flatMap RRec.cells) := by rw [List.flatMap_append, List.length_append]; simpa [RRec.cells, Value.cells] using hR2
   have hvn : ∀ k, vo'.ownBlock = some k → w.heap.size ≤ k ∧ ¬ k = g3 := fun k hk => by
    rcases hv with hv | hv
    ·exact hvo k (hv ▸ hk)
    ·rw [hv] at hk
     injection hk with hk
     have := hB3.lt
     omega
   have hbw' := bapp hbw hC2 (fun k hk => (hvo k hk).1)
   replace hB3 := hB3.chg hC2 (fun e => (hvo _ e).2 rfl)
   replace hB := h.blk.bel hbw'
   clear hbw hR2 hC2 hR hvo hv
   have hbw := hbw'
   clear hbw'
   have hfin : insR rs ⟨n, f, v⟩ = out ++ [(⟨n, f, v⟩ : RRec)] := by
    rw [h46] at hin
    obtain ⟨e1, e2⟩ := hin
    obtain rfl : i = rs.length := by omega
    rw [e2, e1, List.drop_of_length_le (by omega)]
    rfl
   rw [← hfin] at hRn
   have hR := hRn
   have hvo := hvn
   clear hRn hvn
   refine sa rfl rfl (Wn (tN (W_reg (sm rfl rfl (sm rfl rfl (st (X.nilChk rfl) rfl (st (X.fa fa83_0 rfl) rfl (ssB rfl rfl hB siz81 hR.one1 (by simp) (fun w15 hB_ hc_ => ?_)))))))))
   have hcw := (Chg.of_below hbw (fun k => k = g)).trans hc_ (fun i _ h => h)
   have hR' := hR.chg hc_ (fun k hk => by have := (hvo k hk).1; show ¬ k = g; omega)
   refine Wn ?_
   exact (r0 rfl ⟨rfl, _, hB_, hR', fun k hk => (hvo k hk).1, hcw⟩).2
  ·first | replace h46 := of_decide_eq_false h46 | replace h46 := of_decide_eq_true (notF h46) | replace h46 := notF h46 | skip
   have hfin : insR rs ⟨n, f, v⟩ = out := by
    rw [h46] at hin
    have hin' : insR rs ⟨n, f, v⟩ = out ++ rs.drop i := hin
    obtain rfl : i = rs.length := by omega
    rw [hin', List.drop_of_length_le (by omega), List.append_nil]
   rw [← hfin] at hR
   refine W_skip (tN (W_reg (sm rfl rfl (sm rfl rfl (st (X.nilChk rfl) rfl (st (X.fa fa83_0 rfl) rfl (ssB rfl rfl hB siz81 hR.one1 (by simp) (fun w16 hB_ hc_ => ?_))))))))
   have hcw := (Chg.of_below hbw (fun k => k = g)).trans hc_ (fun i _ h => h)
   have hR' := hR.chg hc_ (fun k hk => by have := (hvo k hk).1; show ¬ k = g; omega)
   refine Wn ?_
   exact (r0 rfl ⟨rfl, _, hB_, hR', fun k hk => (hvo k hk).1, hcw⟩).2
theorem rec_one {a b : List UInt8} {v : Value} (h : v.oneCell' = true) : (#[str a, str b, v].toList.all (fun x => x.oneCell')) = true := by
 show (true && (true && (v.oneCell' && true))) = true
 rw [h]
 rfl
set_option maxRecDepth 10000 in
theorem take_any' (g : Nat) (D : DiskD) (vF : Value) (rs : List RRec) (i : Nat) (r : RRec) (w : World) (h : RIn w g D vF rs) (hr : rs[i]? = some r) (hrl : rs.length ≤ 1000000) :
  Calls Tryz.prog 98 #[.pointer (some ⟨g, 0, none⟩), .int .i64 i] w fun e w' => e = .returned (.agg r.cells.toArray) ∧ ∃ vo, Blk w' g 83 #[vo, .int .i64 D.limit, .int .i64 D.refused, .bool D.stops, .int .i64 D.left] ∧
   Row w' 92 3 vo (delR rs i).length ((delR rs i).flatMap RRec.cells) ∧ (∀ k, vo.ownBlock = some k → w.heap.size ≤ k) ∧ Chg (fun k => k = g) w w' := by
 have hB := h.blk
 have hlt := hB.lt
 have hRF := h.row
 have hi := (List.getElem?_eq_some_iff.1 hr).1
 obtain ⟨a, c, rfl, hc1, hc2⟩ := h.row.shape
 obtain ⟨gF, oF, c', hv, hgF⟩ := h.row.reads.some_ (by omega)
 injection hv with e1 _ e3
 subst e1 e3
 have hnn := h.row.nle
 have h1r := h.ones r (List.mem_of_getElem? hr)
 have hrows := h.row.lt
 obtain ⟨n, f, v⟩ := r
 refine W_enter (args := [.pointer (some ⟨g, 0, none⟩), .int .i64 i]) 35 Tryz.func98 rfl rfl rfl (W_sub [(0, .pointer (some ⟨g, 0, none⟩)), (1, .int .i64 i)] ?_ ⟨rfl, rfl, trivial⟩)
 have hcw := Chg.refl (fun k => k = g) w
 refine W_rs (salA inf92 rfl (fun g4 w1 hB4 hg4 hb hl4 => ?_))
 replace hcw := hcw.then_below hb
 replace hB := hB.bel hb
 replace hRF := hRF.bel hb
 have hz_w1 := hb.size
 clear hb
 refine Wn (tN (W_rs (sm rfl rfl (st (X.nilChk rfl) rfl (st (X.fa fa83_0 rfl) rfl (st (X.ldL rfl hB Tryz.underlying81 rfl rfl) rfl (sm rfl rfl (st (X.idxA rfl rfl Tryz.underlying81 siz92 rfl (by omega)) rfl (st (X.ldN (cs := RRec.cells ⟨n, f, v⟩) rfl Tryz.underlying92 rfl siz92 (hRF.reads.rec_ (f := RRec.cells) (rrec_len rs) hr)) rfl (salA inf92 rfl (fun g5 w2 hB5 hg5 hb hl5 => ?_)))))))))))
 replace hcw := hcw.then_below hb
 replace hB := hB.bel hb
 replace hRF := hRF.bel hb
 replace hB4 := hB4.bel hb
 have hz_w2 := hb.size
 clear hb
 have hne5 : ∀ k, (Value.slice (some ⟨gF, oF, none⟩) rs.length c).ownBlock = some k → ¬ k = g5 := fun k hk => by have := hrows k hk; omega
 refine ssBN rfl rfl hB5 siz92 rfl (rec_one h1r) (fun w3 hB_ hc_ => ?_)
 replace hB5 := hB_
 clear hB_
 replace hB := hB.chg hc_ (by first | (show ¬ _ = _; omega) | (intro k_ hk_; simp [Value.ownBlock] at hk_; subst hk_; show ¬ _ = _; omega) | assumption | trivial)
 replace hRF := hRF.chg hc_ (by first | (show ¬ _ = _; omega) | (intro k_ hk_; simp [Value.ownBlock] at hk_; subst hk_; show ¬ _ = _; omega) | assumption | trivial)
 replace hB4 := hB4.chg hc_ (by first | (show ¬ _ = _; omega) | (intro k_ hk_; simp [Value.ownBlock] at hk_; subst hk_; show ¬ _ = _; omega) | assumption | trivial)
 replace hcw := hcw.next hc_ (fun i_ hi_ => by first | exact .inl hi_ | exact .inl (.inl hi_) | (right; subst hi_; omega) | (left; subst hi_; show _ ≤ _; omega) | (left; subst hi_; assumption))
 have hz_w3 := hc_.size
 clear hc_
 refine Wn (tN (W_rs (sa rfl rfl (Wn (tN (W_rs (sm rfl rfl (sm rfl rfl (st (X.nilChk rfl) rfl (st (X.fa fa83_0 rfl) rfl ?_))))))))))
 refine st (X.ldL rfl hB Tryz.underlying81 rfl rfl) rfl (sm rfl rfl (st (X.toL (j := i) rfl rfl Tryz.underlying81 siz92 rfl (by omega)) rfl (sapp rfl rfl Tryz.underlying81 inf92 rfl (by decide) (Row.nil _ _ _) ((hRF.cut rfl 0 i (by omega) (by omega)).reads.src Tryz.underlying81 (by rw [Nat.zero_mul, List.drop_zero, flat_take3]; exact rcellsR_one (fun q hq => h.ones q (List.mem_of_mem_take hq)))) (by simp only [maxLen]; omega) (by omega) rfl (fun v1 w4 hR2 hC2 hv => ?_))))
 have hz_w4 := hC2.size
 have hv1 : ∀ k, v1.ownBlock = some k → w.heap.size ≤ k ∧ ¬ k = g4 ∧ ¬ k = g5 := fun k hk => by
  rcases hv with hv | hv
  ·have hv0 : (Value.slice none 0 0).ownBlock = none := rfl; rw [hv, hv0] at hk; cases hk
  ·rw [hv] at hk
   injection hk with hk
   have := hB4.lt
   have := hB5.lt
   omega
 replace hB4 := hB4.chg hC2 (fun e => by simp [Value.ownBlock] at e)
 replace hB5 := hB5.chg hC2 (fun e => by simp [Value.ownBlock] at e)
 replace hB := hB.chg hC2 (fun e => by simp [Value.ownBlock] at e)
 replace hRF := hRF.chg hC2 (fun k _ e => by simp [Value.ownBlock] at e)
 replace hcw := hcw.next hC2 (fun k e => by simp [Value.ownBlock] at e)
 clear hC2 hv
 have hR1 : Row w4 92 3 v1 i ((rs.take i).flatMap RRec.cells) := by
  rw [Nat.zero_mul, List.drop_zero, flat_take3] at hR2
  simpa using hR2
 clear hR2
 refine sa rfl rfl (Wn (tN (W_rs (sm rfl rfl (sm rfl rfl (sm rfl rfl (st (X.nilChk rfl) rfl (st (X.fa fa83_0 rfl) rfl (st (X.ldL rfl hB Tryz.underlying81 rfl rfl) rfl (sm rfl rfl ?_))))))))))
 refine st (X.add64 rfl rfl (by omega)) rfl (st (X.fromL (i := i + 1) rfl rfl Tryz.underlying81 siz92 (by omega) (by omega)) rfl (sapp rfl rfl Tryz.underlying81 inf92 rfl (by decide) hR1 ((hRF.cut rfl (i + 1) rs.length (by omega) (by omega)).reads.src Tryz.underlying81 (by rw [flat_take3, List.take_length, flat_drop3]; exact rcellsR_one (fun q hq => h.ones q (List.mem_of_mem_drop hq)))) (by simp only [maxLen]; omega) (by omega) rfl (fun v2 w5 hR2 hC2 hv => ?_)))
 have hz_w5 := hC2.size
 have hv2 : ∀ k, v2.ownBlock = some k → w.heap.size ≤ k ∧ ¬ k = g4 ∧ ¬ k = g5 := fun k hk => by
  rcases hv with hv | hv
  ·exact hv1 k (hv ▸ hk)
  ·rw [hv] at hk
   injection hk with hk
   have := hB4.lt
   have := hB5.lt
   omega
 replace hB4 := hB4.chg hC2 (fun e => (hv1 _ e).2.1 rfl)
 replace hB5 := hB5.chg hC2 (fun e => (hv1 _ e).2.2 rfl)
 replace hB := hB.chg hC2 (fun e => by have := (hv1 _ e).1; omega)
 replace hRF := hRF.chg hC2 (fun k hk e => by have := (hv1 _ e).1; have := hrows k hk; omega)
 replace hcw := hcw.next hC2 (fun k e => .inr (hv1 _ e).1)
 clear hC2 hv
 have hR3 : Row w5 92 3 v2 (delR rs i).length ((delR rs i).flatMap RRec.cells) := by
  rw [flat_take3, List.take_length, flat_drop3] at hR2
  have hl : (delR rs i).length = i + (rs.length - (i + 1)) := by unfold delR; rw [List.length_append, List.length_take, List.length_drop]; omega
  rw [hl]
  unfold delR
  rw [List.flatMap_append]
  exact hR2
 clear hR2 hR1
 have hne6 : ∀ k, v2.ownBlock = some k → ¬ k = g := fun k hk => by have := (hv2 k hk).1; omega
 have hne7 : ∀ k, v2.ownBlock = some k → ¬ k = g4 := fun k hk => (hv2 k hk).2.1
 obtain ⟨a2, c2, rfl, _, _⟩ := hR3.shape
 refine st (X.nilChk rfl) rfl (st (X.fa fa83_0 rfl) rfl (ssB rfl rfl hB siz81 rfl (by first | decide | simp) (fun w6 hB_ hc_ => ?_)))
 replace hB := hB_
 clear hB_
 replace hB4 := hB4.chg hc_ (by first | (show ¬ _ = _; omega) | (intro k_ hk_; simp [Value.ownBlock] at hk_; subst hk_; show ¬ _ = _; omega) | assumption | trivial)
 replace hB5 := hB5.chg hc_ (by first | (show ¬ _ = _; omega) | (intro k_ hk_; simp [Value.ownBlock] at hk_; subst hk_; show ¬ _ = _; omega) | assumption | trivial)
 replace hR3 := hR3.chg hc_ (by first | (show ¬ _ = _; omega) | (intro k_ hk_; simp [Value.ownBlock] at hk_; subst hk_; show ¬ _ = _; omega) | assumption | trivial)
 replace hcw := hcw.next hc_ (fun i_ hi_ => by first | exact .inl hi_ | exact .inl (.inl hi_) | (right; subst hi_; omega) | (left; subst hi_; show _ ≤ _; omega) | (left; subst hi_; assumption))
 have hz_w6 := hc_.size
 clear hc_
 refine Wn (tN (W_rs (st (X.ldBN rfl hB5 Tryz.underlying92 rfl siz92) rfl (ssBN rfl rfl hB4 siz92 rfl (rec_one h1r) (fun w7 hB_ hc_ => ?_)))))
 replace hB4 := hB_
 clear hB_
 replace hB := hB.chg hc_ (by first | (show ¬ _ = _; omega) | (intro k_ hk_; simp [Value.ownBlock] at hk_; subst hk_; show ¬ _ = _; omega) | assumption | trivial)
 replace hB5 := hB5.chg hc_ (by first | (show ¬ _ = _; omega) | (intro k_ hk_; simp [Value.ownBlock] at hk_; subst hk_; show ¬ _ = _; omega) | assumption | trivial)
 replace hR3 := hR3.chg hc_ (by first | (show ¬ _ = _; omega) | (intro k_ hk_; simp [Value.ownBlock] at hk_; subst hk_; show ¬ _ = _; omega) | assumption | trivial)
 replace hcw := hcw.next hc_ (fun i_ hi_ => by first | exact .inl hi_ | exact .inl (.inl hi_) | (right; subst hi_; omega) | (left; subst hi_; show _ ≤ _; omega) | (left; subst hi_; assumption))
 have hz_w7 := hc_.size
 clear hc_
 refine Wn (tN (W_ret ?_))
 exact (rC rfl rfl hB4 Tryz.underlying92 rfl siz92 ⟨rfl, _, hB, hR3, fun k hk => (hv2 k hk).1, hcw⟩).1
end Go.Proofs.YtnijmegalgoipaaGreatDoor
namespace Go.Proofs.YtnijmegalgoipaaGreatDoor
open Go.RowKit
theorem sput_set : ∀ {l : List (Key × FileD)} {i : Nat} {n : Key} {f f' : FileD}, Rising l → l[i]? = some (n, f) → sput l n f' = l.set i (n, f')
 | [], _, _, _, _, _, h => by simp at h
 | (a, u) :: l, 0, n, f, f', _, h => by
  simp only [List.getElem?_cons_zero, Option.some.injEq, Prod.mk.injEq] at h
  rw [sput, if_pos h.1.symm, List.set_cons_zero, h.1]
 | (a, u) :: l, i + 1, n, f, f', hs, h => by
  rw [List.getElem?_cons_succ] at h
  have h1 := List.pairwise_cons.1 hs
  have hlt := h1.1 _ (List.mem_of_getElem? h)
  rw [sput, if_neg (fun e => by rw [e] at hlt; exact klt_irrefl _ hlt), if_neg (fun e => klt_irrefl _ (klt_trans e hlt)), List.set_cons_succ, sput_set h1.2 h]
theorem sput_mdel {l : List (Key × FileD)} {n : Key} {f : FileD} (hs : Rising l) (h : mget l n = some f) (f' : FileD) : sput (mdel l n) n f' = sput l n f' := by
 induction l with
 | nil => simp [mget] at h
 | cons p l ih =>
  obtain ⟨a, u⟩ := p
  have h1 := List.pairwise_cons.1 hs
  unfold mget at h
  by_cases e : n = a
  ·subst e
   rw [mdel, if_pos rfl, sput, if_pos rfl]
   cases l with
   | nil => rfl
   | cons q l =>
    obtain ⟨b, v⟩ := q
    have hlt := h1.1 (b, v) (List.mem_cons_self ..)
    rw [sput, if_neg (fun e => by rw [e] at hlt; exact klt_irrefl _ hlt), if_pos hlt]
  ·rw [if_neg e] at h
   have := ih h1.2 h
   have hlt : a < n := h1.1 _ (mget_mem h)
   rw [mdel, if_neg e, sput, if_neg e, if_neg (fun k => klt_irrefl _ (klt_trans k hlt)), this, sput, if_neg e, if_neg (fun k => klt_irrefl _ (klt_trans k hlt))]
theorem sput_self {l : List (Key × FileD)} {n : Key} {f : FileD} (hs : Rising l) (h : mget l n = some f) : sput l n f = l := by
 induction l with
 | nil => simp [mget] at h
 | cons p l ih =>
  obtain ⟨a, u⟩ := p
  have h1 := List.pairwise_cons.1 hs
  unfold mget at h
  by_cases e : n = a
  ·subst e
   rw [if_pos rfl] at h
   injection h with h
   rw [sput, if_pos rfl, h]
  ·rw [if_neg e] at h
   have hlt : a < n := h1.1 _ (mget_mem h)
   rw [sput, if_neg e, if_neg (fun k => klt_irrefl _ (klt_trans k hlt)), ih h1.2 h]
theorem place_ex (rs : List RRec) (n : Key) : ∃ o, PlaceIs rs n o := by
 induction rs with
 | nil => exact ⟨none, fun r hr => by cases hr⟩
 | cons a l ih =>
  by_cases e : a.n = n
  ·exact ⟨some 0, ⟨a, rfl, e⟩, fun j s hj => by omega⟩
  ·obtain ⟨o, ho⟩ := ih
   cases o with
   | none =>
    refine ⟨none, fun r hr => ?_⟩
    rcases List.mem_cons.1 hr with h | h
    ·rw [h]; exact e
    ·exact ho r h
   | some i =>
    obtain ⟨⟨r, h1, h2⟩, h3⟩ := ho
    refine ⟨some (i + 1), ⟨r, h1, h2⟩, fun j s hj hs => ?_⟩
    cases j with
    | zero =>
     simp only [List.getElem?_cons_zero, Option.some.injEq] at hs
     rw [← hs]; exact e
    | succ j => exact h3 j s (by omega) (by rwa [List.getElem?_cons_succ] at hs)
theorem RIn.get_none {w : World} {g : Nat} {D : DiskD} {vF : Value} {rs : List RRec} {n : Key} (h : RIn w g D vF rs) (ho : PlaceIs rs n none) : mget D.files n = none := by
 rw [← h.files, mget_none]
 intro hk
 obtain ⟨p, hp, rfl⟩ := List.mem_map.1 hk
 obtain ⟨r, hr, rfl⟩ := List.mem_map.1 hp
 exact ho r hr rfl
theorem RIn.get_some {w : World} {g : Nat} {D : DiskD} {vF : Value} {rs : List RRec} {n : Key} {i : Nat} (h : RIn w g D vF rs) (hok : DOk D) (ho : PlaceIs rs n (some i)) : ∃ r, rs[i]? = some r ∧ r.n = n ∧ mget D.files n = some r.f ∧ FOk r.f := by
 obtain ⟨⟨r, h1, h2⟩, _⟩ := ho
 obtain ⟨hf, hg⟩ := h.fok hok (List.mem_of_getElem? h1)
 exact ⟨r, h1, h2, by rw [← h2]; exact hg, hf⟩
def RApart (rs : List RRec) : Prop := rs.Pairwise fun r s => ∀ k, r.v.ownBlock = some k → ¬ s.v.ownBlock = some k
structure RHas (g : Nat) (vF : Value) (rs : List RRec) (S : Nat → Prop) : Prop where
  apart : RApart rs
  g : S g
  vF : ∀ k, vF.ownBlock = some k → S k
  v : ∀ r ∈ rs, ∀ k, r.v.ownBlock = some k → S k
def RDisk (w : World) (g : Nat) (D : DiskD) (S : Nat → Prop) : Prop := ∃ vF rs, RIn w g D vF rs ∧ RHas g vF rs S
theorem RDisk.bel {w w' : World} {g : Nat} {D : DiskD} {S : Nat → Prop} (h : RDisk w g D S) (hb : Below w.heap.size w w') : RDisk w' g D S := by
 obtain ⟨vF, rs, h1, h2⟩ := h
 exact ⟨vF, rs, h1.bel hb, h2⟩
def RPost (g : Nat) (S : Nat → Prop) (w : World) (x : Int × DiskD) (e : Ending) (w' : World) : Prop := e = .returned (.int .i64 x.1) ∧ RDisk w' g x.2 (Ext S w w') ∧ Chg S w w'
theorem RPost.same {w w' : World} {g : Nat} {D : DiskD} {S : Nat → Prop} {x : Int × DiskD} (h : RDisk w g D S) (hb : Below w.heap.size w w') {i : Int} (he : x = (i, D)) : RPost g S w x (.returned (.int .i64 i)) w' := by
 obtain ⟨vF, rs, h1, h2⟩ := h
 subst he
 exact ⟨rfl, ⟨vF, rs, h1.bel hb, h2.apart, .inl h2.g, fun k hk => .inl (h2.vF k hk), fun r hr k hk => .inl (h2.v r hr k hk)⟩, Chg.of_below hb S⟩
theorem RPost.of {w w' : World} {g : Nat} {S : Nat → Prop} {D : DiskD} {vF : Value} {rs : List RRec} {x : Int × DiskD} (h : RIn w' g D vF rs) (hh : RHas g vF rs (Ext S w w')) (hC : Chg S w w') {i : Int} (he : x = (i, D)) : RPost g S w x (.returned (.int .i64 i)) w' := by
 subst he
 exact ⟨rfl, ⟨vF, rs, h, hh⟩, hC⟩
theorem RHas.ext {w w' : World} {g : Nat} {vF : Value} {rs : List RRec} {S : Nat → Prop} (h : RHas g vF rs S) : RHas g vF rs (Ext S w w') := ⟨h.apart, .inl h.g, fun k hk => .inl (h.vF k hk), fun r hr k hk => .inl (h.v r hr k hk)⟩
theorem RIn.rows_chg {w w' : World} {g : Nat} {D : DiskD} {vF : Value} {rs : List RRec} (h : RIn w g D vF rs) (hC : Chg (fun k => k = g) w w') : ∀ r ∈ rs, Row w' 132 2 r.v r.f.pend.length (r.f.pend.flatMap putCells) := fun r hr => (h.rows r hr).chg hC ((h.rows r hr).ne2 h.blk (by decide))
theorem RIn.put {w w' : World} {g : Nat} {D : DiskD} {vF vo : Value} {rs : List RRec} {r : RRec} (h : RIn w g D vF rs) (hr : Row w 132 2 r.v r.f.pend.length (r.f.pend.flatMap putCells)) (hn : ∀ a ∈ rs, a.n ≠ r.n)
  (hB : Blk w' g 83 #[vo, .int .i64 D.limit, .int .i64 D.refused, .bool D.stops, .int .i64 D.left]) (hR : Row w' 92 3 vo (insR rs r).length ((insR rs r).flatMap RRec.cells)) (hC : Chg (fun k => k = g) w w') (u : Int) :
  RIn w' g { D with files := sput D.files r.n r.f, used := u } vo (insR rs r) :=
 ⟨hB, hR, by rw [insR_map hn, h.files], fun q hq => by
  rcases insR_mem hq with rfl | hq
  ·exact hr.chg hC (hr.ne2 h.blk (by decide))
  ·exact h.rows_chg hC q hq⟩
theorem insR_apart {rs : List RRec} {r : RRec} (h : RApart rs) (hr : ∀ a ∈ rs, ∀ k, a.v.ownBlock = some k → ¬ r.v.ownBlock = some k) : RApart (insR rs r) := by
 induction rs with
 | nil => exact List.pairwise_singleton _ _
 | cons a l ih =>
  have h1 := List.pairwise_cons.1 h
  unfold insR
  split
  ·exact List.pairwise_cons.2 ⟨fun b hb k hk e => hr b hb k e hk, h⟩
  ·refine List.pairwise_cons.2 ⟨fun b hb => ?_, ih h1.2 (fun b hb => hr b (List.mem_cons_of_mem _ hb))⟩
   rcases insR_mem hb with rfl | hb
   ·exact hr a (List.mem_cons_self ..)
   ·exact h1.1 b hb
theorem RIn.del {w w' : World} {g : Nat} {D : DiskD} {vF vo : Value} {rs : List RRec} {r : RRec} {i : Nat} (h : RIn w g D vF rs) (hr : rs[i]? = some r) (hn : ∀ j s, j < i → rs[j]? = some s → s.n ≠ r.n)
  (hB : Blk w' g 83 #[vo, .int .i64 D.limit, .int .i64 D.refused, .bool D.stops, .int .i64 D.left]) (hR : Row w' 92 3 vo (delR rs i).length ((delR rs i).flatMap RRec.cells)) (hC : Chg (fun k => k = g) w w') (u : Int) :
  RIn w' g { D with files := mdel D.files r.n, used := u } vo (delR rs i) :=
 ⟨hB, hR, by rw [delR_map hr hn, h.files], fun q hq => h.rows_chg hC q (by
  rcases List.mem_append.1 hq with hq | hq
  ·exact List.mem_of_mem_take hq
  ·exact List.mem_of_mem_drop hq)⟩
theorem delR_mem {rs : List RRec} {i : Nat} {q : RRec} (h : q ∈ delR rs i) : q ∈ rs := by
 rcases List.mem_append.1 h with hq | hq
 ·exact List.mem_of_mem_take hq
 ·exact List.mem_of_mem_drop hq
theorem delR_sub (rs : List RRec) (i : Nat) : (delR rs i).Sublist rs := by
 unfold delR
 have h := (List.Sublist.refl (rs.take i)).append (List.drop_sublist_drop_left rs (Nat.le_succ i))
 rwa [List.take_append_drop] at h
end Go.Proofs.YtnijmegalgoipaaGreatDoor
namespace Go.Proofs.YtnijmegalgoipaaGreatDoor
open Go.RowKit
theorem bRDisk (n : Int) (w : World) : (Instr.build 83 #[(1, .int .i64 n)]).run Tryz.prog w = .ok (.agg #[.slice none 0 0, .int .i64 n, .int .i64 0, .bool false, .int .i64 0]) w := by kernel_rfl
theorem bRFile (n : Key) (w : World) : (Instr.build 92 #[(0, str n)]).run Tryz.prog w = .ok (.agg #[str n, str [], .slice none 0 0]) w := by kernel_rfl
theorem RNew_ok (n : Int) (w : World) (hn : 0 ≤ n ∧ n ≤ 16777216) :
  Calls Tryz.prog 10 #[.int .i64 n] w fun e w' => ∃ g S, e = .returned (.tuple #[.pointer (some ⟨g, 0, none⟩), .int .i64 0]) ∧ RDisk w' g (newM n) S ∧ (∀ k, S k → w.heap.size ≤ k ∧ k < w'.heap.size) ∧ Below w.heap.size w w' := by
 refine W_enter (args := [.int .i64 n]) 13 Tryz.func10 rfl rfl rfl (W_sub [(0, .int .i64 n)] ?_ ⟨rfl, trivial⟩)
 have hbw := Below.refl w.heap.size w
 refine W_rs (sa rfl rfl (sa rfl rfl (Wn (tN (W_seq (W_rs (sm rfl rfl (st (X.lss rfl rfl) rfl (sbN rfl (decide_eq_false (by omega)) rfl (gY (g := 6) rfl rfl rfl ?_))))))))))
 refine sm rfl rfl (gY (g := 6) rfl rfl rfl (st (X.gtr rfl rfl) rfl (st (X.pickF rfl rfl) rfl (Wn (tN (W_no rfl (decide_eq_false (by omega)) (W_skip (tN (W_rs (sm rfl rfl ?_))))))))))
 refine st (X.bld rfl (bRDisk n _)) rfl (sboxA rfl rfl (fun g12 w1 hB12 hg12 hb hl12 => ?_))
 replace hbw := bthen hbw hb
 have hz_w1 := hb.size
 clear hb
 refine sa rfl rfl (sa rfl rfl (Wn (tN (W_ret ?_))))
 exact (rTT rfl rfl rfl ⟨g12, fun k => k = g12, rfl, ⟨_, [], ⟨hB12, Row.nil _ _ _, rfl, fun r hr => by cases hr⟩, List.Pairwise.nil, rfl, fun k hk => by simp [Value.ownBlock] at hk, fun r hr => by cases hr⟩, fun k hk => by subst hk; omega, hbw⟩).1
theorem RNew_bad (n : Int) (w : World) (hn : ¬ (0 ≤ n ∧ n ≤ 16777216)) :
  Calls Tryz.prog 10 #[.int .i64 n] w fun e w' => e = .returned (.tuple #[.pointer none, .int .i64 1]) ∧ Below w.heap.size w w' := by
 by_cases h0 : n < 0
 ·skip
  refine W_enter (args := [.int .i64 n]) 13 Tryz.func10 rfl rfl rfl (W_sub [(0, .int .i64 n)] ?_ ⟨rfl, trivial⟩)
  have hbw := Below.refl w.heap.size w
  refine W_rs (sa rfl rfl (sa rfl rfl (Wn (tN (W_seq (W_rs (sm rfl rfl (st (X.lss rfl rfl) rfl (sbY rfl (decide_eq_true h0) rfl (gN (g := 6) rfl rfl rfl rfl ?_))))))))))
  refine gN (g := 6) rfl rfl rfl rfl (st (X.pickT rfl rfl) rfl (Wn (tN (W_yes rfl (rfl) (W_rs (sa rfl rfl (sa rfl rfl (Wn (tN (W_ret (tR ?_)))))))))))
  exact (rTT rfl rfl rfl ⟨rfl, hbw⟩).1
 ·skip
  refine W_enter (args := [.int .i64 n]) 13 Tryz.func10 rfl rfl rfl (W_sub [(0, .int .i64 n)] ?_ ⟨rfl, trivial⟩)
  have hbw := Below.refl w.heap.size w
  refine W_rs (sa rfl rfl (sa rfl rfl (Wn (tN (W_seq (W_rs (sm rfl rfl (st (X.lss rfl rfl) rfl (sbN rfl (decide_eq_false h0) rfl (gY (g := 6) rfl rfl rfl ?_))))))))))
  refine sm rfl rfl (gY (g := 6) rfl rfl rfl (st (X.gtr rfl rfl) rfl (st (X.pickF rfl rfl) rfl (Wn (tN (W_yes rfl (decide_eq_true (by omega)) (W_rs (sa rfl rfl (sa rfl rfl (Wn ?_))))))))))
  refine tN (W_ret (tR ?_))
  exact (rTT rfl rfl rfl ⟨rfl, hbw⟩).1
theorem RIn.chg {w w' : World} {g : Nat} {D : DiskD} {vF : Value} {rs : List RRec} {T : Nat → Prop} (h : RIn w g D vF rs) (hC : Chg T w w') (hd : ¬ T g ∧ (∀ k, vF.ownBlock = some k → ¬ T k) ∧ (∀ q ∈ rs, ∀ k, q.v.ownBlock = some k → ¬ T k)) : RIn w' g D vF rs :=
 ⟨h.blk.chg hC hd.1, h.row.chg hC hd.2.1, h.files, fun r hr => (h.rows r hr).chg hC (hd.2.2 r hr)⟩
theorem RApart.others {rs : List RRec} {i : Nat} {r : RRec} (h : RApart rs) (hr : rs[i]? = some r) : ∀ a ∈ delR rs i, ∀ k, a.v.ownBlock = some k → ¬ r.v.ownBlock = some k := by
 have hi := (List.getElem?_eq_some_iff.1 hr).1
 have hp : RApart (rs.take i ++ r :: rs.drop (i + 1)) := by
  have e : rs = rs.take i ++ r :: rs.drop (i + 1) := by
   obtain ⟨_, rfl⟩ := List.getElem?_eq_some_iff.1 hr
   rw [← List.drop_eq_getElem_cons hi, List.take_append_drop]
  rwa [← e]
 obtain ⟨_, h2, h3⟩ := List.pairwise_append.1 hp
 intro a ha k hk e
 rcases List.mem_append.1 ha with ha | ha
 ·exact h3 a ha r (List.mem_cons_self ..) k hk e
 ·exact (List.pairwise_cons.1 h2).1 a ha k e hk
section
variable (g : Nat) (D : DiskD) (S : Nat → Prop) (w : World) (h : RDisk w g D S)
include h
set_option maxRecDepth 10000 in
theorem RCreate_any (n : Key) (hok : DOk D) (hlen : D.files.length ≤ 900000) (hn : n.length ≤ 9223372036854775807) : Calls Tryz.prog 50 #[.pointer (some ⟨g, 0, none⟩), str n] w (RPost g S w (createM D n)) := by
 have h0 := h
 obtain ⟨vF, rs, h, hh⟩ := h
 have hSg := hh.g
 by_cases hl : D.stops = true ∧ D.left = 0
 ·skip
  refine W_enter (args := [.pointer (some ⟨g, 0, none⟩), str n]) 18 Tryz.func50 rfl rfl rfl (W_sub [(0, .pointer (some ⟨g, 0, none⟩)), (1, str n)] ?_ ⟨rfl, rfl, trivial⟩)
  have hbw := Below.refl w.heap.size w
  refine W_rs (sa rfl rfl (Wn (tN (W_seq (W_rs (sm rfl rfl (sc _ Tryz.func93 rfl (by kernel_rfl) rfl rfl ((dead_yes g D vF rs _ h hl).mono ?_))))))))
  rintro e_ w_ ⟨rfl, rfl⟩
  refine cR (Wn (tN (W_yes rfl (rfl) (W_rs (sa rfl rfl (Wn (tN (W_ret (tR ?_)))))))))
  exact (rT rfl rfl (RPost.same h0 hbw (opM_dead hl _))).1
 obtain ⟨o, ho⟩ := place_ex rs n
 have hok' := tick_ok hok hl
 cases o with
 | some i =>
  refine W_enter (args := [.pointer (some ⟨g, 0, none⟩), str n]) 18 Tryz.func50 rfl rfl rfl (W_sub [(0, .pointer (some ⟨g, 0, none⟩)), (1, str n)] ?_ ⟨rfl, rfl, trivial⟩)
  have hcw := Chg.refl (S) w
  refine W_rs (sa rfl rfl (Wn (tN (W_seq (W_rs (sm rfl rfl (sc _ Tryz.func93 rfl (by kernel_rfl) rfl rfl ((dead_no g D vF rs _ h hok hl).mono ?_))))))))
  clear h
  rintro e_ w1 ⟨rfl, h, hC⟩
  refine cR ?_
  replace hcw := hcw.next hC (fun i_ hi_ => by first | exact .inl hi_ | exact .inl (.inl hi_) | (right; subst hi_; omega) | (left; subst hi_; show _ ≤ _; omega) | (left; subst hi_; assumption))
  have hz_w1 := hC.size
  clear hC
  refine Wn (tN (W_no rfl (rfl) (W_skip (tN (W_seq (W_rs (sm rfl rfl (sc _ Tryz.func94 rfl (by kernel_rfl) rfl rfl ((Name_any n _ hn).mono ?_)))))))))
  rintro e_ w2 ⟨rfl, hb⟩
  refine cR ?_
  replace hcw := hcw.then_below hb
  replace h := h.bel hb
  have hz_w2 := hb.size
  clear hb
  refine st (X.not rfl) rfl (Wn (tN (W_if rfl (fun h9 => ?_) (fun h9 => ?_))))
  ·first | replace h9 := of_decide_eq_true h9 | replace h9 := of_decide_eq_false (notT h9) | replace h9 := notT h9 | skip
   refine W_rs (sa rfl rfl (Wn (tN (W_ret (tR ?_)))))
   exact (rT rfl rfl (RPost.of h hh.ext hcw ((opM_live hl _).trans (if_neg (by rw [h9]; simp))))).1
  ·first | replace h9 := of_decide_eq_false h9 | replace h9 := of_decide_eq_true (notF h9) | replace h9 := notF h9 | skip
   refine W_skip (tN (W_seq (W_rs (sm rfl rfl (sm rfl rfl (sc _ Tryz.func95 rfl (by kernel_rfl) rfl rfl ((place_any g (tickM D) vF rs n (some i) _ h ho).mono ?_)))))))
   rintro e_ w_ ⟨rfl, rfl⟩
   refine cR (st (X.geq rfl rfl) rfl (Wn (tN (W_yes rfl (decide_eq_true (by show (0 : Int) ≤ (i : Int); omega)) ?_))))
   refine W_rs (sa rfl rfl (Wn (tN (W_ret (tR ?_)))))
   obtain ⟨r, _, _, hg, _⟩ := h.get_some hok' ho
   exact (rT rfl rfl (RPost.of h hh.ext hcw ((opM_live hl _).trans ((if_pos h9).trans (if_pos (by rw [hg]; rfl)))))).1
 | none =>
  refine W_enter (args := [.pointer (some ⟨g, 0, none⟩), str n]) 18 Tryz.func50 rfl rfl rfl (W_sub [(0, .pointer (some ⟨g, 0, none⟩)), (1, str n)] ?_ ⟨rfl, rfl, trivial⟩)
  have hcw := Chg.refl (S) w
  refine W_rs (sa rfl rfl (Wn (tN (W_seq (W_rs (sm rfl rfl (sc _ Tryz.func93 rfl (by kernel_rfl) rfl rfl ((dead_no g D vF rs _ h hok hl).mono ?_))))))))
  clear h
  rintro e_ w1 ⟨rfl, h, hC⟩
  refine cR ?_
  replace hcw := hcw.next hC (fun i_ hi_ => by first | exact .inl hi_ | exact .inl (.inl hi_) | (right; subst hi_; omega) | (left; subst hi_; show _ ≤ _; omega) | (left; subst hi_; assumption))
  have hz_w1 := hC.size
  clear hC
  refine Wn (tN (W_no rfl (rfl) (W_skip (tN (W_seq (W_rs (sm rfl rfl (sc _ Tryz.func94 rfl (by kernel_rfl) rfl rfl ((Name_any n _ hn).mono ?_)))))))))
  rintro e_ w2 ⟨rfl, hb⟩
  refine cR ?_
  replace hcw := hcw.then_below hb
  replace h := h.bel hb
  have hz_w2 := hb.size
  clear hb
  refine st (X.not rfl) rfl (Wn (tN (W_if rfl (fun h9 => ?_) (fun h9 => ?_))))
  ·first | replace h9 := of_decide_eq_true h9 | replace h9 := of_decide_eq_false (notT h9) | replace h9 := notT h9 | skip
   refine W_rs (sa rfl rfl (Wn (tN (W_ret (tR ?_)))))
   exact (rT rfl rfl (RPost.of h hh.ext hcw ((opM_live hl _).trans (if_neg (by rw [h9]; simp))))).1
  ·first | replace h9 := of_decide_eq_false h9 | replace h9 := of_decide_eq_true (notF h9) | replace h9 := notF h9 | skip
   refine W_skip (tN (W_seq (W_rs (sm rfl rfl (sm rfl rfl (sc _ Tryz.func95 rfl (by kernel_rfl) rfl rfl ((place_any g (tickM D) vF rs n none _ h ho).mono ?_)))))))
   rintro e_ w_ ⟨rfl, rfl⟩
   refine cR (st (X.geq rfl rfl) rfl (Wn (tN (W_no rfl (rfl) (W_skip (tN (W_rs (sm rfl rfl (sm rfl rfl (st (X.bld rfl (bRFile n _)) rfl ?_))))))))))
   refine sc _ Tryz.func96 rfl (by kernel_rfl) rfl rfl ((put_any' g (tickM D) vF rs ⟨n, newFile, .slice none 0 0⟩ _ h rfl (by rw [h.len, tick_files]; omega)).mono ?_)
   rintro e_ w3 ⟨rfl, vo, hB2, hR2, hvo, hX⟩
   refine cR ?_
   have hgn := h.get_none ho
   have h2 := h.put (r := ⟨n, newFile, .slice none 0 0⟩) (Row.nil _ _ _) ho hB2 hR2 hX (tickM D).used
   have hz_w3 := hX.size
   have hzc := hcw.size
   have hh2 : RHas g vo (insR rs ⟨n, newFile, .slice none 0 0⟩) (Ext S w w3) := ⟨insR_apart hh.apart (fun a _ k _ e => by simp [Value.ownBlock] at e), .inl hSg, fun k hk => .inr ⟨by have := hvo k hk; omega, hR2.lt k hk⟩, fun q hq k hk => by
    rcases insR_mem hq with rfl | hq
    ·simp [Value.ownBlock] at hk
    ·exact .inl (hh.v q hq k hk)⟩
   replace hcw := hcw.next hX (fun i hi => .inl (by rw [show i = g from hi]; exact hSg))
   refine Wn (tN (W_rs (sa rfl rfl (Wn (tN (W_ret ?_))))))
   exact (rT rfl rfl (RPost.of h2 hh2 hcw ((opM_live hl _).trans ((if_pos h9).trans (if_neg (by rw [hgn]; simp)))))).1
set_option maxRecDepth 10000 in
theorem RRemove_any (n : Key) (hok : DOk D) (hlen : D.files.length ≤ 900000) : Calls Tryz.prog 55 #[.pointer (some ⟨g, 0, none⟩), str n] w (RPost g S w (removeM D n)) := by
 have h0 := h
 obtain ⟨vF, rs, h, hh⟩ := h
 have hSg := hh.g
 by_cases hl : D.stops = true ∧ D.left = 0
 ·skip
  refine W_enter (args := [.pointer (some ⟨g, 0, none⟩), str n]) 16 Tryz.func55 rfl rfl rfl (W_sub [(0, .pointer (some ⟨g, 0, none⟩)), (1, str n)] ?_ ⟨rfl, rfl, trivial⟩)
  have hbw := Below.refl w.heap.size w
  refine W_rs (sa rfl rfl (Wn (tN (W_seq (W_rs (sm rfl rfl (sc _ Tryz.func93 rfl (by kernel_rfl) rfl rfl ((dead_yes g D vF rs _ h hl).mono ?_))))))))
  rintro e_ w_ ⟨rfl, rfl⟩
  refine cR (Wn (tN (W_yes rfl (rfl) (W_rs (sa rfl rfl (Wn (tN (W_ret (tR ?_)))))))))
  exact (rT rfl rfl (RPost.same h0 hbw (opM_dead hl _))).1
 obtain ⟨o, ho⟩ := place_ex rs n
 have hok' := tick_ok hok hl
 cases o with
 | none =>
  refine W_enter (args := [.pointer (some ⟨g, 0, none⟩), str n]) 16 Tryz.func55 rfl rfl rfl (W_sub [(0, .pointer (some ⟨g, 0, none⟩)), (1, str n)] ?_ ⟨rfl, rfl, trivial⟩)
  have hcw := Chg.refl (S) w
  refine W_rs (sa rfl rfl (Wn (tN (W_seq (W_rs (sm rfl rfl (sc _ Tryz.func93 rfl (by kernel_rfl) rfl rfl ((dead_no g D vF rs _ h hok hl).mono ?_))))))))
  clear h
  rintro e_ w1 ⟨rfl, h, hC⟩
  refine cR ?_
  replace hcw := hcw.next hC (fun i_ hi_ => by first | exact .inl hi_ | exact .inl (.inl hi_) | (right; subst hi_; omega) | (left; subst hi_; show _ ≤ _; omega) | (left; subst hi_; assumption))
  have hz_w1 := hC.size
  clear hC
  refine Wn (tN (W_no rfl (rfl) (W_skip (tN (W_rs (sm rfl rfl (sm rfl rfl (sc _ Tryz.func95 rfl (by kernel_rfl) rfl rfl ((place_any g (tickM D) vF rs n none _ h ho).mono ?_)))))))))
  rintro e_ w_ ⟨rfl, rfl⟩
  refine cR (sa rfl rfl (Wn (tN (W_seq (W_rs (sm rfl rfl (st (X.lss rfl rfl) rfl (Wn (tN (W_yes rfl (rfl) ?_))))))))))
  refine W_rs (sa rfl rfl (Wn (tN (W_ret (tR ?_)))))
  exact (rT rfl rfl (RPost.of h hh.ext hcw ((opM_live hl _).trans (fileM_none (h.get_none ho) _)))).1
 | some i =>
  obtain ⟨⟨r, hr, hrn⟩, hmin⟩ := ho
  refine W_enter (args := [.pointer (some ⟨g, 0, none⟩), str n]) 16 Tryz.func55 rfl rfl rfl (W_sub [(0, .pointer (some ⟨g, 0, none⟩)), (1, str n)] ?_ ⟨rfl, rfl, trivial⟩)
  have hcw := Chg.refl (S) w
  refine W_rs (sa rfl rfl (Wn (tN (W_seq (W_rs (sm rfl rfl (sc _ Tryz.func93 rfl (by kernel_rfl) rfl rfl ((dead_no g D vF rs _ h hok hl).mono ?_))))))))
  clear h
  rintro e_ w1 ⟨rfl, h, hC⟩
  refine cR ?_
  replace hcw := hcw.next hC (fun i_ hi_ => by first | exact .inl hi_ | exact .inl (.inl hi_) | (right; subst hi_; omega) | (left; subst hi_; show _ ≤ _; omega) | (left; subst hi_; assumption))
  have hz_w1 := hC.size
  clear hC
  refine Wn (tN (W_no rfl (rfl) (W_skip (tN (W_rs (sm rfl rfl (sm rfl rfl (sc _ Tryz.func95 rfl (by kernel_rfl) rfl rfl ((place_any g (tickM D) vF rs n (some i) _ h ⟨⟨r, hr, hrn⟩, hmin⟩).mono ?_)))))))))
  rintro e_ w_ ⟨rfl, rfl⟩
  refine cR (sa rfl rfl (Wn (tN (W_seq (W_rs (sm rfl rfl (st (X.lss rfl rfl) rfl (Wn (tN (W_no rfl (decide_eq_false (by show ¬ (i : Int) < 0; omega)) ?_))))))))))
  refine W_skip (tN (W_rs (sm rfl rfl (sm rfl rfl (sc _ Tryz.func98 rfl (by kernel_rfl) rfl rfl ((take_any' g (tickM D) vF rs i r _ h hr (by rw [h.len, tick_files]; omega)).mono ?_))))))
  rintro e_ w2 ⟨rfl, vo, hB2, hR2, hvo, hX⟩
  refine cR ?_
  obtain ⟨_, hgr⟩ := h.fok hok' (List.mem_of_getElem? hr)
  subst hrn
  have h2 := h.del hr hmin hB2 hR2 hX ((tickM D).used - r.f.now.length)
  have hz_w2 := hX.size
  have hzc := hcw.size
  have hh2 : RHas g vo (delR rs i) (Ext S w w2) := ⟨hh.apart.sublist (delR_sub rs i), .inl hSg, fun k hk => .inr ⟨by have := hvo k hk; omega, hR2.lt k hk⟩, fun q hq k hk => .inl (hh.v q (delR_mem hq) k hk)⟩
  replace hcw := hcw.next hX (fun i hi => .inl (by rw [show i = g from hi]; exact hSg))
  refine Wn (tN (W_rs (sa rfl rfl (Wn (tN (W_ret ?_))))))
  exact (rT rfl rfl (RPost.of h2 hh2 hcw ((opM_live hl _).trans (fileM_some hgr _)))).1
set_option maxRecDepth 10000 in
theorem RRename_any (n m : Key) (hok : DOk D) (hlen : D.files.length ≤ 900000) (hm : m.length ≤ 9223372036854775807) : Calls Tryz.prog 54 #[.pointer (some ⟨g, 0, none⟩), str n, str m] w (RPost g S w (renameM D n m)) := by
 have h0 := h
 obtain ⟨vF, rs, h, hh⟩ := h
 have hSg := hh.g
 by_cases hl : D.stops = true ∧ D.left = 0
 ·skip
  refine W_enter (args := [.pointer (some ⟨g, 0, none⟩), str n, str m]) 36 Tryz.func54 rfl rfl rfl (W_sub [(0, .pointer (some ⟨g, 0, none⟩)), (1, str n), (2, str m)] ?_ ⟨rfl, rfl, rfl, trivial⟩)
  have hbw := Below.refl w.heap.size w
  refine W_rs (sa rfl rfl (Wn (tN (W_seq (W_rs (sm rfl rfl (sc _ Tryz.func93 rfl (by kernel_rfl) rfl rfl ((dead_yes g D vF rs _ h hl).mono ?_))))))))
  rintro e_ w_ ⟨rfl, rfl⟩
  refine cR (Wn (tN (W_yes rfl (rfl) (W_rs (sa rfl rfl (Wn (tN (W_ret (tR ?_)))))))))
  exact (rT rfl rfl (RPost.same h0 hbw (opM_dead hl _))).1
 obtain ⟨o, ho⟩ := place_ex rs n
 have hok' := tick_ok hok hl
 cases o with
 | none =>
  refine W_enter (args := [.pointer (some ⟨g, 0, none⟩), str n, str m]) 36 Tryz.func54 rfl rfl rfl (W_sub [(0, .pointer (some ⟨g, 0, none⟩)), (1, str n), (2, str m)] ?_ ⟨rfl, rfl, rfl, trivial⟩)
  have hcw := Chg.refl (S) w
  refine W_rs (sa rfl rfl (Wn (tN (W_seq (W_rs (sm rfl rfl (sc _ Tryz.func93 rfl (by kernel_rfl) rfl rfl ((dead_no g D vF rs _ h hok hl).mono ?_))))))))
  clear h
  rintro e_ w1 ⟨rfl, h, hC⟩
  refine cR ?_
  replace hcw := hcw.next hC (fun i_ hi_ => by first | exact .inl hi_ | exact .inl (.inl hi_) | (right; subst hi_; omega) | (left; subst hi_; show _ ≤ _; omega) | (left; subst hi_; assumption))
  have hz_w1 := hC.size
  clear hC
  refine Wn (tN (W_no rfl (rfl) (W_skip (tN (W_seq (W_rs (sm rfl rfl (sc _ Tryz.func94 rfl (by kernel_rfl) rfl rfl ((Name_any m _ hm).mono ?_)))))))))
  rintro e_ w2 ⟨rfl, hb⟩
  refine cR ?_
  replace hcw := hcw.then_below hb
  replace h := h.bel hb
  have hz_w2 := hb.size
  clear hb
  refine st (X.not rfl) rfl (Wn (tN (W_if rfl (fun h14 => ?_) (fun h14 => ?_))))
  ·first | replace h14 := of_decide_eq_true h14 | replace h14 := of_decide_eq_false (notT h14) | replace h14 := notT h14 | skip
   refine W_rs (sa rfl rfl (Wn (tN (W_ret (tR ?_)))))
   exact (rT rfl rfl (RPost.of h hh.ext hcw ((opM_live hl _).trans (if_neg (by rw [h14]; simp))))).1
  ·first | replace h14 := of_decide_eq_false h14 | replace h14 := of_decide_eq_true (notF h14) | replace h14 := notF h14 | skip
   refine W_skip (tN (W_rs (sm rfl rfl (sm rfl rfl (sc _ Tryz.func95 rfl (by kernel_rfl) rfl rfl ((place_any g (tickM D) vF rs n none _ h ho).mono ?_))))))
   rintro e_ w_ ⟨rfl, rfl⟩
   refine cR (sa rfl rfl (Wn (tN (W_seq (W_rs (sm rfl rfl (st (X.lss rfl rfl) rfl (Wn (tN (W_yes rfl (rfl) ?_))))))))))
   refine W_rs (sa rfl rfl (Wn (tN (W_ret (tR ?_)))))
   exact (rT rfl rfl (RPost.of h hh.ext hcw ((opM_live hl _).trans ((if_pos h14).trans (fileM_none (h.get_none ho) _))))).1
 | some i =>
  obtain ⟨⟨r, hr, hrn⟩, hmin⟩ := ho
  obtain ⟨o2, ho2⟩ := place_ex (delR rs i) m
  have h1r := h.ones r (List.mem_of_getElem? hr)
  have hra := hh.apart.others hr
  have hrl : rs.length ≤ 900000 := by rw [h.len]; exact hlen
  have hsrt : Rising (tickM D).files := hok'.srt
  have hren : renameM D n m = (if nameOk m = true then fileM (tickM D) n fun f => if n = m then (0, tickM D) else (0, { tickM D with files := sput (mdel (tickM D).files n) m f, used := (tickM D).used - lenAt (tickM D) m }) else (1, tickM D)) := opM_live hl _
  cases o2 with
  | none =>
   refine W_enter (args := [.pointer (some ⟨g, 0, none⟩), str n, str m]) 36 Tryz.func54 rfl rfl rfl (W_sub [(0, .pointer (some ⟨g, 0, none⟩)), (1, str n), (2, str m)] ?_ ⟨rfl, rfl, rfl, trivial⟩)
   have hcw := Chg.refl (S) w
   refine W_rs (sa rfl rfl (Wn (tN (W_seq (W_rs (sm rfl rfl (sc _ Tryz.func93 rfl (by kernel_rfl) rfl rfl ((dead_no g D vF rs _ h hok hl).mono ?_))))))))
   clear h
   rintro e_ w1 ⟨rfl, h, hC⟩
   refine cR ?_
   replace hcw := hcw.next hC (fun i_ hi_ => by first | exact .inl hi_ | exact .inl (.inl hi_) | (right; subst hi_; omega) | (left; subst hi_; show _ ≤ _; omega) | (left; subst hi_; assumption))
   have hz_w1 := hC.size
   clear hC
   refine Wn (tN (W_no rfl (rfl) (W_skip (tN (W_seq (W_rs (sm rfl rfl (sc _ Tryz.func94 rfl (by kernel_rfl) rfl rfl ((Name_any m _ hm).mono ?_)))))))))
   rintro e_ w2 ⟨rfl, hb⟩
   refine cR ?_
   replace hcw := hcw.then_below hb
   replace h := h.bel hb
   have hz_w2 := hb.size
   clear hb
   refine st (X.not rfl) rfl (Wn (tN (W_if rfl (fun h14 => ?_) (fun h14 => ?_))))
   ·first | replace h14 := of_decide_eq_true h14 | replace h14 := of_decide_eq_false (notT h14) | replace h14 := notT h14 | skip
    refine W_rs (sa rfl rfl (Wn (tN (W_ret (tR ?_)))))
    exact (rT rfl rfl (RPost.of h hh.ext hcw ((opM_live hl _).trans (if_neg (by rw [h14]; simp))))).1
   ·first | replace h14 := of_decide_eq_false h14 | replace h14 := of_decide_eq_true (notF h14) | replace h14 := notF h14 | skip
    refine W_skip (tN (W_rs (sm rfl rfl (sm rfl rfl (sc _ Tryz.func95 rfl (by kernel_rfl) rfl rfl ((place_any g (tickM D) vF rs n (some i) _ h ⟨⟨r, hr, hrn⟩, hmin⟩).mono ?_))))))
    rintro e_ w_ ⟨rfl, rfl⟩
    refine cR (sa rfl rfl (Wn (tN (W_seq (W_rs (sm rfl rfl (st (X.lss rfl rfl) rfl (Wn (tN (W_no rfl (decide_eq_false (by show ¬ (i : Int) < 0; omega)) ?_))))))))))
    refine W_skip (tN (W_rs (sm rfl rfl (sm rfl rfl (sc _ Tryz.func98 rfl (by kernel_rfl) rfl rfl ((take_any' g (tickM D) vF rs i r _ h hr (by rw [h.len, tick_files]; omega)).mono ?_))))))
    rintro e_ w3 ⟨rfl, vo, hB2, hR2, hvo, hX⟩
    refine cR ?_
    obtain ⟨_, hgr⟩ := h.fok hok' (List.mem_of_getElem? hr)
    rw [hrn] at hgr
    have h2 := h.del hr (by rw [hrn]; exact hmin) hB2 hR2 hX (tickM D).used
    rw [hrn] at h2
    have hz_w3 := hX.size
    have hzc := hcw.size
    have hRv := (h.rows r (List.mem_of_getElem? hr)).chg hX ((h.rows r (List.mem_of_getElem? hr)).ne2 h.blk (by decide))
    replace hcw := hcw.next hX (fun i hi => .inl (by rw [show i = g from hi]; exact hSg))
    have hlv := hRv.lt
    have hlo := h2.row.lt
    have hlr := fun q hq => (h2.rows q hq).lt
    have hlg := h2.blk.lt
    have hvo2 : ∀ k, vo.ownBlock = some k → w.heap.size ≤ k := fun k hk => by have := hvo k hk; omega
    clear h hB2 hR2 hX hvo
    refine salA inf92 rfl (fun g8 w4 hB8 hg8 hb hl8 => ?_)
    replace hcw := hcw.then_below hb
    replace h2 := h2.bel hb
    replace hRv := hRv.bel hb
    have hz_w4 := hb.size
    clear hb
    have hne8 : ¬ g = g8 ∧ (∀ k, vo.ownBlock = some k → ¬ k = g8) ∧ (∀ q ∈ delR rs i, ∀ k, q.v.ownBlock = some k → ¬ k = g8) := ⟨by omega, fun k hk => by have := hlo k hk; omega, fun q hq k hk => by have := hlr q hq k hk; omega⟩
    have hne9 : ∀ k, r.v.ownBlock = some k → ¬ k = g8 := fun k hk => by have := hlv k hk; omega
    refine ssBN rfl rfl hB8 siz92 rfl (rec_one h1r) (fun w5 hB_ hc_ => ?_)
    replace hB8 := hB_
    clear hB_
    replace h2 := h2.chg hc_ (by first | (show ¬ _ = _; omega) | (intro k_ hk_; simp [Value.ownBlock] at hk_; subst hk_; show ¬ _ = _; omega) | assumption | trivial)
    replace hRv := hRv.chg hc_ (by first | (show ¬ _ = _; omega) | (intro k_ hk_; simp [Value.ownBlock] at hk_; subst hk_; show ¬ _ = _; omega) | assumption | trivial)
    replace hcw := hcw.next hc_ (fun i_ hi_ => by first | exact .inl hi_ | exact .inl (.inl hi_) | (right; subst hi_; omega) | (left; subst hi_; show _ ≤ _; omega) | (left; subst hi_; assumption))
    have hz_w5 := hc_.size
    clear hc_
    have hB8' : Blk w5 g8 92 #[str r.n, str r.f.last, r.v] := hB8
    clear hB8
    have hB8 := hB8'
    clear hB8'
    refine Wn (tN (W_rs (sm rfl rfl (sm rfl rfl (sc _ Tryz.func95 rfl (by kernel_rfl) rfl rfl ((place_any g _ vo (delR rs i) m none _ h2 ho2).mono ?_))))))
    rintro e_ w_ ⟨rfl, rfl⟩
    refine cR (sa rfl rfl (Wn (tN (W_seq (W_rs (sm rfl rfl (st (X.geq rfl rfl) rfl (Wn (tN (W_no rfl (rfl) ?_))))))))))
    refine W_skip (tN (W_rs (sm rfl rfl (st (X.fa fa92_0 rfl) rfl (ssB rfl rfl hB8 siz9 rfl (by first | decide | simp) (fun w6 hB_ hc_ => ?_))))))
    replace hB8 := hB_
    clear hB_
    replace h2 := h2.chg hc_ (by first | (show ¬ _ = _; omega) | (intro k_ hk_; simp [Value.ownBlock] at hk_; subst hk_; show ¬ _ = _; omega) | assumption | trivial)
    replace hRv := hRv.chg hc_ (by first | (show ¬ _ = _; omega) | (intro k_ hk_; simp [Value.ownBlock] at hk_; subst hk_; show ¬ _ = _; omega) | assumption | trivial)
    replace hcw := hcw.next hc_ (fun i_ hi_ => by first | exact .inl hi_ | exact .inl (.inl hi_) | (right; subst hi_; omega) | (left; subst hi_; show _ ≤ _; omega) | (left; subst hi_; assumption))
    have hz_w6 := hc_.size
    clear hc_
    refine Wn (tN (W_rs (sm rfl rfl (st (X.ldBN rfl hB8 Tryz.underlying92 rfl siz92) rfl (sc _ Tryz.func96 rfl (by kernel_rfl) rfl rfl ((put_any' g _ vo (delR rs i) ⟨m, r.f, r.v⟩ _ h2 h1r (by have := (delR_sub rs i).length_le; have := hrl; omega)).mono ?_))))))
    rintro e_ w7 ⟨rfl, vp, hB3, hR3, hvp, hX⟩
    refine cR ?_
    have h3 := fun u => h2.put (r := ⟨m, r.f, r.v⟩) hRv ho2 hB3 hR3 hX u
    have hz_w7 := hX.size
    have hzc2 := hcw.size
    have hh3 : RHas g vp (insR (delR rs i) ⟨m, r.f, r.v⟩) (Ext S w w7) := ⟨insR_apart (hh.apart.sublist (delR_sub rs i)) hra, .inl hSg, fun k hk => .inr ⟨by have := hvp k hk; omega, hR3.lt k hk⟩, fun q hq k hk => by
     rcases insR_mem hq with rfl | hq
     ·exact .inl (hh.v r (List.mem_of_getElem? hr) k hk)
     ·exact .inl (hh.v q (delR_mem hq) k hk)⟩
    replace hcw := hcw.next hX (fun i hi => .inl (by rw [show i = g from hi]; exact hSg))
    refine Wn (tN (W_rs (sa rfl rfl (Wn (tN (W_ret ?_))))))
    by_cases hnm : n = m
    ·subst hnm
     have h4 := h3 (tickM D).used
     refine (rT rfl rfl (RPost.of (D := tickM D) ?_ hh3 hcw (hren.trans ((if_pos h14).trans ((fileM_some hgr _).trans (if_pos rfl)))))).1
     have e := sput_mdel hsrt hgr r.f
     rw [sput_self hsrt hgr] at e
     simp only [e] at h4
     exact h4
    ·exact (rT rfl rfl (RPost.of (h3 _) hh3 hcw (hren.trans ((if_pos h14).trans ((fileM_some hgr _).trans (if_neg hnm)))))).1
  | some k2 =>
   obtain ⟨⟨r2, hr2, hrn2⟩, hmin2⟩ := ho2
   refine W_enter (args := [.pointer (some ⟨g, 0, none⟩), str n, str m]) 36 Tryz.func54 rfl rfl rfl (W_sub [(0, .pointer (some ⟨g, 0, none⟩)), (1, str n), (2, str m)] ?_ ⟨rfl, rfl, rfl, trivial⟩)
   have hcw := Chg.refl (S) w
   refine W_rs (sa rfl rfl (Wn (tN (W_seq (W_rs (sm rfl rfl (sc _ Tryz.func93 rfl (by kernel_rfl) rfl rfl ((dead_no g D vF rs _ h hok hl).mono ?_))))))))
   clear h
   rintro e_ w1 ⟨rfl, h, hC⟩
   refine cR ?_
   replace hcw := hcw.next hC (fun i_ hi_ => by first | exact .inl hi_ | exact .inl (.inl hi_) | (right; subst hi_; omega) | (left; subst hi_; show _ ≤ _; omega) | (left; subst hi_; assumption))
   have hz_w1 := hC.size
   clear hC
   refine Wn (tN (W_no rfl (rfl) (W_skip (tN (W_seq (W_rs (sm rfl rfl (sc _ Tryz.func94 rfl (by kernel_rfl) rfl rfl ((Name_any m _ hm).mono ?_)))))))))
   rintro e_ w2 ⟨rfl, hb⟩
   refine cR ?_
   replace hcw := hcw.then_below hb
   replace h := h.bel hb
   have hz_w2 := hb.size
   clear hb
   refine st (X.not rfl) rfl (Wn (tN (W_if rfl (fun h14 => ?_) (fun h14 => ?_))))
   ·first | replace h14 := of_decide_eq_true h14 | replace h14 := of_decide_eq_false (notT h14) | replace h14 := notT h14 | skip
    refine W_rs (sa rfl rfl (Wn (tN (W_ret (tR ?_)))))
    exact (rT rfl rfl (RPost.of h hh.ext hcw ((opM_live hl _).trans (if_neg (by rw [h14]; simp))))).1
   ·first | replace h14 := of_decide_eq_false h14 | replace h14 := of_decide_eq_true (notF h14) | replace h14 := notF h14 | skip
    refine W_skip (tN (W_rs (sm rfl rfl (sm rfl rfl (sc _ Tryz.func95 rfl (by kernel_rfl) rfl rfl ((place_any g (tickM D) vF rs n (some i) _ h ⟨⟨r, hr, hrn⟩, hmin⟩).mono ?_))))))
    rintro e_ w_ ⟨rfl, rfl⟩
    refine cR (sa rfl rfl (Wn (tN (W_seq (W_rs (sm rfl rfl (st (X.lss rfl rfl) rfl (Wn (tN (W_no rfl (decide_eq_false (by show ¬ (i : Int) < 0; omega)) ?_))))))))))
    refine W_skip (tN (W_rs (sm rfl rfl (sm rfl rfl (sc _ Tryz.func98 rfl (by kernel_rfl) rfl rfl ((take_any' g (tickM D) vF rs i r _ h hr (by rw [h.len, tick_files]; omega)).mono ?_))))))
    rintro e_ w3 ⟨rfl, vo, hB2, hR2, hvo, hX⟩
    refine cR ?_
    obtain ⟨_, hgr⟩ := h.fok hok' (List.mem_of_getElem? hr)
    rw [hrn] at hgr
    have h2 := h.del hr (by rw [hrn]; exact hmin) hB2 hR2 hX (tickM D).used
    rw [hrn] at h2
    have hz_w3 := hX.size
    have hzc := hcw.size
    have hRv := (h.rows r (List.mem_of_getElem? hr)).chg hX ((h.rows r (List.mem_of_getElem? hr)).ne2 h.blk (by decide))
    replace hcw := hcw.next hX (fun i hi => .inl (by rw [show i = g from hi]; exact hSg))
    have hlv := hRv.lt
    have hlo := h2.row.lt
    have hlr := fun q hq => (h2.rows q hq).lt
    have hlg := h2.blk.lt
    have hvo2 : ∀ k, vo.ownBlock = some k → w.heap.size ≤ k := fun k hk => by have := hvo k hk; omega
    clear h hB2 hR2 hX hvo
    refine salA inf92 rfl (fun g8 w4 hB8 hg8 hb hl8 => ?_)
    replace hcw := hcw.then_below hb
    replace h2 := h2.bel hb
    replace hRv := hRv.bel hb
    have hz_w4 := hb.size
    clear hb
    have hne8 : ¬ g = g8 ∧ (∀ k, vo.ownBlock = some k → ¬ k = g8) ∧ (∀ q ∈ delR rs i, ∀ k, q.v.ownBlock = some k → ¬ k = g8) := ⟨by omega, fun k hk => by have := hlo k hk; omega, fun q hq k hk => by have := hlr q hq k hk; omega⟩
    have hne9 : ∀ k, r.v.ownBlock = some k → ¬ k = g8 := fun k hk => by have := hlv k hk; omega
    refine ssBN rfl rfl hB8 siz92 rfl (rec_one h1r) (fun w5 hB_ hc_ => ?_)
    replace hB8 := hB_
    clear hB_
    replace h2 := h2.chg hc_ (by first | (show ¬ _ = _; omega) | (intro k_ hk_; simp [Value.ownBlock] at hk_; subst hk_; show ¬ _ = _; omega) | assumption | trivial)
    replace hRv := hRv.chg hc_ (by first | (show ¬ _ = _; omega) | (intro k_ hk_; simp [Value.ownBlock] at hk_; subst hk_; show ¬ _ = _; omega) | assumption | trivial)
    replace hcw := hcw.next hc_ (fun i_ hi_ => by first | exact .inl hi_ | exact .inl (.inl hi_) | (right; subst hi_; omega) | (left; subst hi_; show _ ≤ _; omega) | (left; subst hi_; assumption))
    have hz_w5 := hc_.size
    clear hc_
    have hB8' : Blk w5 g8 92 #[str r.n, str r.f.last, r.v] := hB8
    clear hB8
    have hB8 := hB8'
    clear hB8'
    refine Wn (tN (W_rs (sm rfl rfl (sm rfl rfl (sc _ Tryz.func95 rfl (by kernel_rfl) rfl rfl ((place_any g _ vo (delR rs i) m (some k2) _ h2 ⟨⟨r2, hr2, hrn2⟩, hmin2⟩).mono ?_))))))
    rintro e_ w_ ⟨rfl, rfl⟩
    refine cR (sa rfl rfl (Wn (tN (W_seq (W_rs (sm rfl rfl (st (X.geq rfl rfl) rfl (Wn (tN (W_yes rfl (decide_eq_true (by show (0 : Int) ≤ (k2 : Int); omega)) ?_))))))))))
    refine W_reg (sm rfl rfl (sm rfl rfl (sc _ Tryz.func98 rfl (by kernel_rfl) rfl rfl ((take_any' g _ vo (delR rs i) k2 r2 _ h2 hr2 (by have := (delR_sub rs i).length_le; have := hrl; omega)).mono ?_))))
    rintro e_ w6 ⟨rfl, vq, hB3, hR3, hvq, hX⟩
    refine cR ?_
    have h3 := h2.del hr2 (by rw [hrn2]; exact hmin2) hB3 hR3 hX (tickM D).used
    rw [hrn2] at h3
    simp only at h3
    have hlq := hR3.lt
    have hRv' := hRv.chg hX (hRv.ne2 h2.blk (by decide))
    have hB8' := hB8.chg hX (fun e => hne8.1 (show g8 = g from e).symm)
    have hz_w6 := hX.size
    have hzc2 := hcw.size
    replace hcw := hcw.next hX (fun i hi => .inl (by rw [show i = g from hi]; exact hSg))
    have hneq : ¬ g = g8 ∧ (∀ k, vq.ownBlock = some k → ¬ k = g8) ∧ (∀ q ∈ delR (delR rs i) k2, ∀ k, q.v.ownBlock = some k → ¬ k = g8) := ⟨hne8.1, fun k hk => by have := hvq k hk; have := hB8.lt; omega, fun q hq k hk => hne8.2.2 q (delR_mem hq) k hk⟩
    have hnk : ∀ a ∈ delR (delR rs i) k2, a.n ≠ m := fun a ha e => by
     have hm1 : (a.n, a.f) ∈ mdel (mdel (tickM D).files n) m := by have e := h3.files; simp only at e; rw [← e]; exact List.mem_map.2 ⟨a, ha, rfl⟩
     have hg1 := mget_mdel (hsrt.del n).nodup m m
     rw [if_pos rfl, mget_none] at hg1
     exact hg1 (List.mem_map.2 ⟨_, hm1, e⟩)
    have hg2 : mget (mdel (tickM D).files n) m = some r2.f := by
     have e := h2.files
     simp only at e
     refine mget_of_mem (hsrt.del n).nodup ?_
     rw [← e]
     exact List.mem_map.2 ⟨r2, List.mem_of_getElem? hr2, by rw [hrn2]⟩
    clear h2 hRv hB8 hX hB3 hR3
    have hRv := hRv'
    have hB8 := hB8'
    clear hRv' hB8'
    refine Wn (tN (W_rs (sm rfl rfl (st (X.fa fa92_0 rfl) rfl (ssB rfl rfl hB8 siz9 rfl (by first | decide | simp) (fun w7 hB_ hc_ => ?_))))))
    replace hB8 := hB_
    clear hB_
    replace hRv := hRv.chg hc_ (by first | (show ¬ _ = _; omega) | (intro k_ hk_; simp [Value.ownBlock] at hk_; subst hk_; show ¬ _ = _; omega) | assumption | trivial)
    replace h3 := h3.chg hc_ (by first | (show ¬ _ = _; omega) | (intro k_ hk_; simp [Value.ownBlock] at hk_; subst hk_; show ¬ _ = _; omega) | assumption | trivial)
    replace hcw := hcw.next hc_ (fun i_ hi_ => by first | exact .inl hi_ | exact .inl (.inl hi_) | (right; subst hi_; omega) | (left; subst hi_; show _ ≤ _; omega) | (left; subst hi_; assumption))
    have hz_w7 := hc_.size
    clear hc_
    refine Wn (tN (W_rs (sm rfl rfl (st (X.ldBN rfl hB8 Tryz.underlying92 rfl siz92) rfl (sc _ Tryz.func96 rfl (by kernel_rfl) rfl rfl ((put_any' g _ vq (delR (delR rs i) k2) ⟨m, r.f, r.v⟩ _ h3 h1r (by have := (delR_sub rs i).length_le; have := (delR_sub (delR rs i) k2).length_le; have := hrl; omega)).mono ?_))))))
    rintro e_ w8 ⟨rfl, vp, hB3, hR3, hvp, hX⟩
    refine cR ?_
    have h4 := fun u => h3.put (r := ⟨m, r.f, r.v⟩) hRv hnk hB3 hR3 hX u
    have hz_w8 := hX.size
    have hzc3 := hcw.size
    have hh3 : RHas g vp (insR (delR (delR rs i) k2) ⟨m, r.f, r.v⟩) (Ext S w w8) := ⟨insR_apart ((hh.apart.sublist (delR_sub rs i)).sublist (delR_sub _ k2)) (fun a ha => hra a (delR_mem ha)), .inl hSg, fun k hk => .inr ⟨by have := hvp k hk; omega, hR3.lt k hk⟩, fun q hq k hk => by
     rcases insR_mem hq with rfl | hq
     ·exact .inl (hh.v r (List.mem_of_getElem? hr) k hk)
     ·exact .inl (hh.v q (delR_mem (delR_mem hq)) k hk)⟩
    replace hcw := hcw.next hX (fun i hi => .inl (by rw [show i = g from hi]; exact hSg))
    refine Wn (tN (W_rs (sa rfl rfl (Wn (tN (W_ret ?_))))))
    have hnm : n ≠ m := fun e => by subst e; rw [mget_mdel hsrt.nodup, if_pos rfl] at hg2; cases hg2
    have e := sput_mdel (hsrt.del n) hg2 r.f
    simp only [e] at h4
    exact (rT rfl rfl (RPost.of (h4 _) hh3 hcw (hren.trans ((if_pos h14).trans ((fileM_some hgr _).trans (if_neg hnm)))))).1
end
end Go.Proofs.YtnijmegalgoipaaGreatDoor
